/- Proved here: the evaluator over abstract heaps and its soundness against the model. Conditions: none beyond the hypotheses that each theorem states. -/
import Derived.TacticsIn
import Derived.RangeFuncLeaves
import Derived.Laws.Externs
import Derived.Test.YtnlkancjfhgdcaaGreatDoorProg
import Derived.KernelRfl
import Derived.Test.YtnlkancjfhgdcaaGreatDoorE07
set_option linter.all false
set_option maxRecDepth 100000
open Go
namespace Ev
section
def Fc(r:Option Nat):Fence:={Fence.wide with round:=r}
def oE(base:Nat):List Deferred→World→(Nat→Prop)→Prop
 | [],_,_=>True
 |d::ds,w,L=>∃b,d={target:= .collected b,args:= #[]}∧base≤b∧w.heap[b]?=some (.deferred (some []))∧¬L b∧(∀d'∈ds,∀b',d'.target= .collected b'→b'<b)∧oE base ds w L
def jD(base:Nat)(r:Option Nat)(w:World)(L:Nat→Prop)(ds:List Deferred):Prop:=match r with
 |none=>oE base ds w L
 |some l=>ds= []∧∃rec,w.heap[l]?=some (.loop rec)
section
variable{ρ ρ':Ren}{h h':aL}{w w':World}
theorem oE.stp{base:Nat}(s:gQ ρ h w ρ' h' w'):∀{ds:List Deferred},oE base ds w (dQ ρ h)→oE base ds w' (dQ ρ' h')
 | [],_=>trivial
 |_::_,⟨b,h1,h2,h3,h4,h5,h6⟩=>by
  have hlt:=(Array.getElem?_eq_some_iff.1 h3).1
  exact⟨b,h1,h2,by rw[s.keep b hlt h4];exact h3,fun e=>(s.live b e).elim h4 (fun e=>by omega),h5,oE.stp s h6⟩
theorem jD.stp{base:Nat}{r:Option Nat}{ds:List Deferred}(s:gQ ρ h w ρ' h' w')(f:jD base r w (dQ ρ h) ds):jD base r w' (dQ ρ' h') ds:=by
 cases r with
 |none=>exact oE.stp s f
 |some l=>
  obtain⟨h1,rec,h2⟩:=f
  obtain⟨r',h3,_⟩:=s.loops l rec h2
  exact⟨h1,r',h3⟩
theorem zB.stp(s:gQ ρ h w ρ' h' w')(g:zB w ρ):zB w' ρ':=by
 obtain⟨g1,g3⟩:=g
 refine⟨s.frz 0 g1,fun off ho=> ?_⟩
 obtain⟨n,n1,n2⟩:=g3 off ho
 exact⟨n,n1,by rw[fB (s.keepF 0 g1)];exact n2⟩
end
section
variable{P:Program}{E:bE TypeInfo}
def ES(E:bE TypeInfo)(base:Nat)(r:Option Nat)(nt:Nat)(ρ:Ren)(h:aL)(w:World)(tm:PT)(h':aL)(a':Act)(w':World):Prop:=
 ∃ρ',gQ ρ h w ρ' h' w'∧dI E ρ' h' w'∧RT ρ' w' tm a'.tmps∧a'.tmps.size=nt∧jD base r w' (dQ ρ' h') a'.defers
def aAa(E:bE TypeInfo)(base:Nat)(r:Option Nat)(nt:Nat)(ρ:Ren)(h:aL)(w:World):eK→Exit→Act→World→Prop
 | .norm tm h',e,a',w'=>e= .normal∧ES E base r nt ρ h w tm h' a' w'
 | .ret tm h',e,a',w'=>e= .ret∧ES E base r nt ρ h w tm h' a' w'
 | .exit id tm h',e,a',w'=>e= .exit id∧ES E base r nt ρ h w tm h' a' w'
 | .fail,_,_,_=>False
theorem ES.from{base nt:Nat}{r:Option Nat}{ρ ρ1:Ren}{h h1 h':aL}{w w1 w':World}{tm:PT}{a':Act}(s:gQ ρ h w ρ1 h1 w1)(d:ES E base r nt ρ1 h1 w1 tm h' a' w'):ES E base r nt ρ h w tm h' a' w':=
 let⟨ρ',t,x⟩:=d;⟨ρ',s.trans t,x⟩
theorem aAa.from{base nt:Nat}{r:Option Nat}{ρ ρ1:Ren}{h h1:aL}{w w1 w':World}{res:eK}{e:Exit}{a':Act}(s:gQ ρ h w ρ1 h1 w1)(p:aAa E base r nt ρ1 h1 w1 res e a' w'):aAa E base r nt ρ h w res e a' w':=by
 cases res<;>first|exact⟨p.1,p.2.from s⟩|exact p.elim
structure At(E:bE TypeInfo)(base:Nat)(r:Option Nat)(nt:Nat)(ρ:Ren)(h:aL)(w:World)(tm:PT)(a:Act):Prop where
 sim:dI E ρ h w
 glob:zB w ρ
 rt:RT ρ w tm a.tmps
 size:a.tmps.size=nt
 small:nt≤16000
 frame:jD base r w (dQ ρ h) a.defers
 low:base≤w.heap.size
theorem At.done{base nt:Nat}{r:Option Nat}{ρ:Ren}{h:aL}{w:World}{tm:PT}{a:Act}(x:At E base r nt ρ h w tm a):ES E base r nt ρ h w tm h a w:=⟨ρ,gQ.refl _ _ _,x.sim,x.rt,x.size,x.frame⟩
def vS(E:bE TypeInfo)(base:Nat)(r:Option Nat)(nt:Nat)(ρ:Ren)(h:aL)(w:World)(Q:eK→Prop):Exit→Act→World→Prop:=
 fun e a' w'=>∃res,Q res∧aAa E base r nt ρ h w res e a' w'
theorem vS.from{base nt:Nat}{r:Option Nat}{ρ ρ1:Ren}{h h1:aL}{w w1 w':World}{Q:eK→Prop}{e:Exit}{a':Act}(s:gQ ρ h w ρ1 h1 w1)(p:vS E base r nt ρ1 h1 w1 Q e a' w'):vS E base r nt ρ h w Q e a' w':=
 let⟨res,q,x⟩:=p;⟨res,q,x.from s⟩
def zW(P:Program)(E:bE TypeInfo)(nt:Nat)(c:Code)(tm:PT)(h:aL)(Q:eK→Prop):Prop:=
 ∀(base:Nat) (r:Option Nat) (n:Nat) (ρ:Ren) (w:World) (a:Act),At E base r nt ρ h w tm a→c.wpIn (Fc r) n P (vS E base r nt ρ h w Q) a w
def mM(P:Program)(E:bE TypeInfo)(o:Oper)(tm:PT)(h:aL)(Q:AV→aL→Prop):Prop:=
 ∀(base nt n:Nat) (r:Option Nat) (ρ:Ren) (w:World) (a:Act) (K:Act→World→Prop) (Qx:Exit→Act→World→Prop),At E base r nt ρ h w tm a→
  (∀ρ' w' v' v h',Q v h'→gQ ρ h w ρ' h' w'→dI E ρ' h' w'→RV ρ' w' v v'→K (a.put o.dst v') w')→o.wpIn (Fc r) n P a w K Qx
def R8(E:bE TypeInfo)(ρ:Ren)(h:aL)(w:World)(Q:AV→aL→Prop):Ending→World→Prop
 | .returned v',w'=>∃v h',Q v h'∧∃ρ',gQ ρ h w ρ' h' w'∧dI E ρ' h' w'∧RV ρ' w' v v'
 |_,_=>False
def gW(P:Program)(E:bE TypeInfo)(f:Nat)(args:List AV)(h:aL)(Q:AV→aL→Prop):Prop:=
 ∀(r:Option Nat) (n:Nat) (ρ:Ren) (w:World) (vs:Array Value),dI E ρ h w→zB w ρ→dH ρ w args vs.toList→
  ((callFunc f vs).run P w= .ok (.enter f vs) w∧CallsIn (Fc r) n P f vs w (R8 E ρ h w Q))∨
  ∃v v' h' ρ',(callFunc f vs).run P w= .ok (.value v') w∧Q v h'∧gQ ρ h w ρ' h' w∧dI E ρ' h' w∧RV ρ' w v v'∧∃s c,args= [.str s,.int .u8 (.ofNat c)]
end
end
section
section
variable{P:Program}{E:bE TypeInfo}(T:bE cX)(M:Nat→String→Option (Nat×Option fV))(prev:eL)
variable{base nt n:Nat}{r:Option Nat}{ρ ρ':Ren}{h h':aL}{w w':World}{v:AV}{o:Oper}{a:Act}{tm:PT}
theorem xM{K:Act→World→Prop}{Q:Exit→Act→World→Prop}(hop:∀c,o.op≠ .call c)(hd:∀c,o.op≠ .defer c)(q:f8 E ((execOp a.eval o).run P w) ρ h w v h')
  (hK:∀ρ' w' v',gQ ρ h w ρ' h' w'→dI E ρ' h' w'→RV ρ' w' v v'→K (a.put o.dst v') w'):o.wpIn (Fc r) n P a w K Q:=by
 obtain⟨ρ',w',v',q1,q2,q3,q4⟩:=q
 refine⟨fun f _=>trivial,?_⟩
 rw[Oper.semAt_eq _ _ _ hd]
 rcases q1 with q1|⟨q1,q5⟩
 ·rw[q1];exact hK _ _ _ q2 q3 q4
 ·rw[q1]
  subst q5
  exact hK _ _ _ q2 q3 q4
theorem At.put{d:Option Nat}{dp:Option bH}(x:At E base r nt ρ h w tm a)(hd:qR nt d=some dp)(s:gQ ρ h w ρ' h' w')(s':dI E ρ' h' w'){v':Value}(hv:RV ρ' w' v v'):
  At E base r nt ρ' h' w' (put tm v dp) (a.put d v'):=by
 have hrt:=x.rt.stp s
 have hsz:=x.size
 cases d with
 |none=>
  simp only[qR,aF]at hd
  subst hd
  exact⟨s',x.glob.stp s,hrt,x.size,x.small,x.frame.stp s,Nat.le_trans x.low s.size⟩
 |some d=>
  simp only[qR,bN,aI,blt_eq]at hd
  split at hd
  case isFalse=>cases hd
  rename_i hlt
  simp only[aF]at hd
  subst hd
  exact⟨s',x.glob.stp s,hrt.put (by omega) hlt.2 hv,by simp[Act.put,hsz],x.small,x.frame.stp s,Nat.le_trans x.low s.size⟩
theorem vQ{ops:Array Oper}(x:At E base r nt ρ h w tm a){g:Option (bH×Bool)}(hg:mA nt ops.toList o.guard=some g):
  (wanted tm g=true→Region.wanted o (yielded ops a.tmps)=true)∧(wanted tm g=false→xX tm g=true→Region.wanted o (yielded ops a.tmps)=false):=by
 unfold Region.wanted
 cases hgu:o.guard with
 |none=>
  rw[hgu]at hg
  simp only[mA,aF]at hg
  subst hg
  exact⟨fun _=>rfl,fun hw=>by cases hw⟩
 |some jw=>
  obtain⟨j,want⟩:=jw
  rw[hgu]at hg
  simp only[mA]at hg
  cases hdo:V0 nt ops.toList j with
  |none=>simp[hdo]at hg
  |some p=>
   simp only[hdo,Option.map_some,aF]at hg
   subst hg
   unfold V0 at hdo
   cases hdd:(ops.toList[j]?).bind (·.dst)with
   |none=>simp only[hdd,reduceCtorEq]at hdo
   |some d=>
    simp only[hdd,bN,aI,blt_eq]at hdo
    split at hdo
    case isFalse=>cases hdo
    rename_i hlt
    simp only[aF]at hdo
    subst hdo
    have hsz:=x.size
    have hget:a.tmps[d]?=some (a.tmps.getD d undef):=by
     have h1:=hlt.1
     have hlt2:d<a.tmps.size:=Nat.lt_of_lt_of_le h1 (Nat.le_of_eq hsz.symm)
     simp[Array.getD,hlt2]
    have hy:yielded ops a.tmps j=match a.tmps.getD d undef with| .bool b=>some b|_=>none:=by
     unfold yielded
     have:(ops[j]?).bind (·.dst)=some d:=by simpa using hdd
     rw[this]
     simp only[Option.bind_some,hget]
     cases a.tmps.getD d undef<;>rfl
    have hr:=x.rt d hlt.2
    simp only[wanted,xX,hy]
    constructor
    ·intro hb
     cases ht:tm.get (aM d)<;>rw[ht]at hb hr<;>simp only[isB,reduceCtorEq]at hb
     have hr:a.tmps.getD d undef= .bool _:=hr
     rw[hr]
     rw[qE]at hb
     simpa using hb
    ·intro hb hu
     cases ht:tm.get (aM d)<;>rw[ht]at hb hr hu<;>simp only[okB,reduceCtorEq]at hu
     ·have hr:a.tmps.getD d undef= .bool _:=hr
      rw[hr]
      simp only[isB,qE]at hb
      simp only[beq_eq_false_iff_ne,ne_eq,aF]
      simpa using hb
     ·obtain⟨vs,hv,_⟩:=hr
      rw[hv]
      rfl
theorem vR{ops:List Oper}{g:Option (bH×Bool)}{act:fC}{d:Option bH}(e:dJ E nt ops o=⟨g,act,d⟩)(hb:act≠ .bad∨g≠none):
  mA nt ops o.guard=some g∧qR nt o.dst=some d∧cJ E o.op=act:=by
 unfold dJ at e
 cases hg:mA nt ops o.guard with
 |none=>rw[hg]at e;simp only[D1,jB.mk.injEq]at e;exact(hb.elim (fun h=>h e.2.1.symm) (fun h=>h e.1.symm)).elim
 |some g'=>
  cases hd:qR nt o.dst with
  |none=>rw[hg,hd]at e;simp only[D1,jB.mk.injEq]at e;exact(hb.elim (fun h=>h e.2.1.symm) (fun h=>h e.1.symm)).elim
  |some d'=>
   rw[hg,hd]at e
   simp only[D1,jB.mk.injEq]at e
   exact⟨by rw[e.1],by rw[e.2.2],e.2.1⟩
theorem KQ{g:Option (bH×Bool)}(hw:wanted tm g=false):g≠none:=by
 rintro rfl
 cases hw
def lX(P:Program)(E:bE TypeInfo)(nt:Nat)(ops:Array Oper)(l:List Oper)(tm:PT)(h:aL)(Q:eK→Prop):Prop:=
 ∀(base:Nat) (r:Option Nat) (n:Nat) (ρ0:Ren) (h0:aL) (w0:World) (ρ:Ren) (w:World) (a:Act),gQ ρ0 h0 w0 ρ h w→At E base r nt ρ h w tm a→
  wpListIn (Fc r) n P ops (vS E base r nt ρ0 h0 w0 Q) l a w
theorem lX.nil{ops:Array Oper}{Q:eK→Prop}(q:Q (.norm tm h)):lX P E nt ops [] tm h Q:=
 fun _ _ _ ρ0 _ _ ρ _ _ s x=>⟨_,q,rfl,ρ,s,x.sim,x.rt,x.size,x.frame⟩
theorem lX.cons{ops:Array Oper}{l:List Oper}{Q:eK→Prop}{R:AV→aL→Prop}{s:jB}(hc:dJ E nt ops.toList o=s)(hb:s.act≠ .bad)(hw:wanted tm s.guard=true)
  (q:mM P E o tm h R) (hq:∀v h',R v h'→lX P E nt ops l (put tm v s.dst) h' Q):lX P E nt ops (o::l) tm h Q:=by
 intro base r n ρ0 h0 w0 ρ w a st x
 obtain⟨g,ac,d⟩:=s
 obtain⟨hg,hd,ha⟩:=vR hc (.inl hb)
 simp only[wpListIn]
 rw[if_pos ((vQ x hg).1 hw)]
 exact q base nt n r ρ w a _ _ x (fun ρ' w' v' v h' qv t s' hv=>hq v h' qv base r n ρ0 h0 w0 ρ' w' _ (st.trans t) (x.put hd t s' hv))
theorem lX.skip{ops:Array Oper}{l:List Oper}{Q:eK→Prop}{s:jB}(hc:dJ E nt ops.toList o=s)(hw:wanted tm s.guard=false)(hu:xX tm s.guard=true)
  (hq:lX P E nt ops l (put tm bS s.dst) h Q):lX P E nt ops (o::l) tm h Q:=by
 intro base r n ρ0 h0 w0 ρ w a st x
 obtain⟨g,ac,d⟩:=s
 obtain⟨hg,hd,ha⟩:=vR hc (.inr (KQ hw))
 simp only[wpListIn]
 rw[if_neg (by rw[(vQ x hg).2 hw hu];simp)]
 exact⟨fun _ _=>trivial,hq base r n ρ0 h0 w0 ρ w _ st (x.put hd (gQ.refl _ _ _) x.sim lD)⟩
end
end
section
section
variable{P:Program}{E:bE TypeInfo}(hE:∀t i,E.get t=some i→P.info? t=some i)
variable(T:bE cX)(M:Nat→String→Option (Nat×Option fV))(prev:eL)
variable{base nt n:Nat}{r:Option Nat}{ρ ρ':Ren}{h h':aL}{w w':World}{v:AV}{o:Oper}{a:Act}{tm:PT}
theorem dI.dead(s:dI E ρ h w){b:Nat}{x y:Obj}(hb:w.heap[b]?=some x)(hl:¬dQ ρ h b)(hx:∀c t f,x≠ .cells c t f)(hy:∀c t f,y≠ .cells c t f):n6 ρ w ρ (w.putObj b y)∧dI E ρ h (w.putObj b y):=by
 have hlt:=(Array.getElem?_eq_some_iff.1 hb).1
 have k:n6 ρ w ρ (w.putObj b y):=⟨fun _ _ e=>e,fun k hk o=>by
  by_cases e:k=b
  ·subst e
   simp only[World.cell?,World.putObj_heap_same hlt,hb]
   cases x<;>cases y<;>first|rfl|exact absurd rfl (hx _ _ _)|exact absurd rfl (hy _ _ _)
  ·exact fB (World.putObj_heap_other e),fun _ e=>e⟩
 refine⟨k,⟨fun c o hc=> ?_,s.inj,s.fresh,s.ren,fun c m e=>by rw[World.putObj_size];exact s.low c m e,s.cold,fun k hk=>by rw[World.putObj_size];exact s.old k hk⟩⟩
 obtain⟨m,hm,hor⟩:=s.obj c o hc
 exact⟨m,hm,hor.mono k (World.putObj_heap_other (fun e=>hl ⟨c,o,m,hc,hm,e⟩))⟩
include hE in
theorem C8(hrt:RT ρ w tm a.tmps)(s:dI E ρ h w):∀(l:List ResultVar) (vs:List AV),pK h tm (l.map (yA E))=some vs→
  ∃us,(l.mapM (fun x=>match x with
   | .tmp t=>pure (a.tmps.getD t undef)
   | .cell a0 t=>do loadVar t (←asAddr (a.tmps.getD a0 undef)):ResultVar→Sem Value)).run P w= .ok us w∧dH ρ w vs us
 | [],vs,e=>by simp only[List.map_nil,pK,aF]at e;subst e;exact⟨[],rfl,rfl⟩
 |x::l,vs,e=>by
  simp only[List.map_cons,pK]at e
  cases h1:LK h tm (yA E x)with
  |none=>simp only[h1,reduceCtorEq]at e
  |some v1=>
   cases h2:pK h tm (l.map (yA E))with
   |none=>simp only[h1,h2,reduceCtorEq]at e
   |some vs'=>
    simp only[h1,h2,aF]at e
    subst e
    obtain⟨us,q1,q2⟩:=C8 hrt s l vs' h2
    have one:∃u,(match x with
      | .tmp t=>pure (a.tmps.getD t undef)
      | .cell a0 t=>do loadVar t (←asAddr (a.tmps.getD a0 undef)):Sem Value).run P w= .ok u w∧RV ρ w v1 u:=by
     cases x with
     |tmp t=>
      simp only[yA,bN,blt_eq]at h1
      split at h1
      ·rename_i hlt
       simp only[LK,aF]at h1
       subst h1
       exact⟨_,rfl,hrt t hlt⟩
      ·simp only[LK,reduceCtorEq]at h1
     |cell a0 t=>
      simp only[yA,bN,blt_eq]at h1
      split at h1
      case isFalse=>simp only[LK,reduceCtorEq]at h1
      rename_i hlt
      cases hc:kQ E t 0 with
      |none=>simp only[hc,V2,LK,reduceCtorEq]at h1
      |some cut=>
       simp only[hc,V2,LK]at h1
       have hx:=hrt a0 hlt
       generalize tm.get (aM a0)=X at hx h1
       cases X with
       |ptr b off=>
        obtain⟨m,hm,hp⟩:=hx
        obtain⟨cl,hb,he⟩:=xR h1
        obtain⟨m',hm',hor⟩:=s.obj b _ hb
        rw[hm]at hm'
        cases hm'
        obtain⟨u,u1,u2⟩:=tQ (P:=P) hE hc hor.2.2 he
        exact⟨u,by simp only[hp,asAddr,Sem.run_bind,Sem.run_pure,Result.andThen_ok,u1],u2⟩
       |rptr cl=>
        obtain⟨k,off,hp,_,hl⟩:=hx
        obtain⟨u,u1,u2⟩:=tQ (P:=P) (off:=0) hE hc hl h1
        exact⟨u,by simp only[hp,asAddr,Sem.run_bind,Sem.run_pure,Result.andThen_ok];exact u1,u2⟩
       |_=>simp[cE]at h1
    obtain⟨u,u1,u2⟩:=one
    refine⟨u::us,?_,⟨u,us,rfl,u2,q2⟩⟩
    simp only[List.mapM_cons,Sem.run_bind,u1,Result.andThen_ok,q1,Sem.run_pure]
include hE in
theorem C9{fn:Func}(hrt:RT ρ w tm a.tmps)(s:dI E ρ h w){vs:List AV}(e:pK h tm (fn.results.toList.map (yA E))=some vs):
  ∃u,(results fn a.tmps).run P w= .ok u w∧RV ρ w (tup vs) u:=by
 obtain⟨us,q1,q2⟩:=C8 (P:=P) hE hrt s _ _ e
 refine⟨if hh:us.toArray.size=1 then us.toArray[0]else .tuple us.toArray,?_,?_⟩
 ·unfold results
  rw[Sem.run_bind,Array.mapM_eq_mapM_toList,Sem.run_map]
  erw [q1]
  rfl
 ·match vs,q2 with
  | [x],⟨u,us',hu,hx,hn⟩=>cases hn;subst hu;exact hx
  | [],hn=>cases hn;exact⟨_,rfl,rfl⟩
  |x::y::l,⟨u,us',hu,hx,u2,us2,hu2,hy,hl⟩=>
   subst hu2;subst hu
   rw[dif_neg (by simp)]
   exact⟨_,rfl,u,_,rfl,hx,u2,us2,rfl,hy,hl⟩
include hE in
theorem DA{fn:Func}{ρ0:Ren}{h0:aL}{w0:World}{vs:List AV}(e:pK h' tm (fn.results.toList.map (yA E))=some vs){tmps:Array Value}{Q:AV→aL→Prop}(hq:Q (tup vs) h')(hB:∀k,ρ0.F k→k<w0.heap.size):
  ∀(ds:List Deferred) (w:World),gQ ρ0 h0 w0 ρ h' w→dI E ρ h' w→RT ρ w tm tmps→oE w0.heap.size ds w (dQ ρ h')→
   LeavesInM (Fc none) n P fn tmps (R8 E ρ0 h0 w0 Q) ds .returning w
 | [],w,st,s,hrt,_=>by
  obtain⟨u,u1,u2⟩:=C9 (P:=P) (fn:=fn) (a:=⟨tmps,[]⟩) hE hrt s e
  exact⟨u,u1,_,_,hq,ρ,st,s,u2⟩
 |d::ds,w,st,s,hrt,⟨b,m1,m2,m3,m4,m5,m6⟩=>by
  obtain⟨k,s'⟩:=s.dead (y:= .deferred none) m3 m4 (by simp) (by simp)
  have hlt:=(Array.getElem?_eq_some_iff.1 m3).1
  refine⟨by simp,.inl ⟨b,w.putObj b (.deferred none),by rw[m1],run_takeDeferred m3,?_⟩⟩
  refine DA e hq hB ds _ ⟨st.ext,by rw[World.putObj_size];exact st.size,fun k0 hk hl=> ?_,st.live,st.aA,st.out,st.os,st.tape,st.output,fun l r hr=> ?_,fun k0 hk=>by rw[World.putObj_heap_other (by have:=hB k0 hk;omega)];exact st.keepF k0 hk,st.frz,st.frn⟩ s' (hrt.mono k) ?_
  ·rw[World.putObj_heap_other (by omega)]
   exact st.keep k0 hk hl
  ·obtain⟨r',h1,h2⟩:=st.loops l r hr
   have hlb:l≠b:=by
    intro e'
    have:=(Array.getElem?_eq_some_iff.1 hr).1
    omega
   exact⟨r',by rw[World.putObj_heap_other hlb];exact h1,h2⟩
  ·have key:∀(ds:List Deferred),(∀d'∈ds,∀b',d'.target= .collected b'→b'<b)→oE w0.heap.size ds w (dQ ρ h')→oE w0.heap.size ds (w.putObj b (.deferred none)) (dQ ρ h'):=by
    intro ds
    induction ds with
    |nil=>exact fun _ _=>trivial
    |cons d' ds ih=>
     rintro hlt' ⟨b',q1,q2,q3,q4,q5,q6⟩
     have hbb:b'<b:=hlt' d' (by simp) b' (by rw[q1])
     exact⟨b',q1,q2,by rw[World.putObj_heap_other (by omega)];exact q3,q4,q5,ih (fun x hx=>hlt' x (by simp[hx])) q6⟩
   exact key ds m5 m6
end
end
section
section
variable{P:Program}{E:bE TypeInfo}(hE:∀t i,E.get t=some i→P.info? t=some i)
variable(T:bE cX)(M:Nat→String→Option (Nat×Option fV))(prev:eL)
variable{base nt n:Nat}{r:Option Nat}{ρ ρ':Ren}{h h':aL}{w w':World}{v:AV}{o:Oper}{a:Act}{tm:PT}
theorem UR:∀(l:List AV) (i:Nat) (tm:PT) (t:Nat),t<16000→i+l.length≤16001→(pt l i tm).get (aM t)=if i≤t∧t<i+l.length then l[t-i]?.getD bS else tm.get (aM t)
 | [],i,tm,t,_,_=>by rw[if_neg (by simp)];rfl
 |x::l,i,tm,t,ht,hl=>by
  have hl':i+1+l.length≤16001:=by simp at hl;omega
  show(pt l (i+1) (PT.set x (aM i) tm)).get (aM t)=_
  rw[UR l (i+1) _ t ht hl']
  by_cases e:i=t
  ·subst e
   rw[if_neg (by omega),if_pos (by simp),PT.get_set_same]
   simp
  ·have hp:aM i≠aM t:=fun hp=>e (DL (by rw[PO];simp at hl;omega) (by rw[PO];omega) hp)
   rw[PT.get_set_other _ _ _ _ hp]
   by_cases hh:i+1≤t∧t<i+1+l.length
   ·rw[if_pos hh,if_pos (by simp;omega)]
    rw[show t-i=(t-(i+1))+1 by omega]
    simp
   ·rw[if_neg hh,if_neg (by simp;omega)]
theorem US{args:List AV}{vs:Array Value}{nt:Nat}(hv:dH ρ w args vs.toList)(hn:args.length≤nt)(hs:nt≤16000):
  RT ρ w (pt args 0 .leaf) (vs++Array.replicate (nt-vs.size) undef)∧(vs++Array.replicate (nt-vs.size) undef).size=nt:=by
 have hlen:vs.size=args.length:=by simpa using hv.length
 refine⟨fun t ht=> ?_,by simp;omega⟩
 rw[UR args 0 .leaf t ht (by omega)]
 by_cases hlt:t<args.length
 ·rw[if_pos (by omega)]
  obtain⟨u,u1,u2⟩:=hv.get (i:=t) (aC hlt)
  have:(vs++Array.replicate (nt-vs.size) undef).getD t undef=u:=by
   rw[Array.getD_eq_getD_getElem?,Array.getElem?_append_left (by omega)]
   have:vs[t]?=some u:=by simpa using u1
   rw[this];rfl
  rw[this,Nat.sub_zero,aC hlt]
  exact u2
 ·rw[if_neg (by omega)]
  have:(vs++Array.replicate (nt-vs.size) undef).getD t undef=undef:=by
   rw[Array.getD_eq_getD_getElem?,Array.getElem?_append_right (by omega)]
   rw[Array.getElem?_replicate]
   split<;>rfl
  rw[this]
  exact lD
include hE in
theorem aCI{f:Nat}{fn:Func}{c:Code}{args:List AV}{R:eK→Prop}{Q:AV→aL→Prop}(hf:P.funcs[f]?=some fn)(hb:fn.body=some c)(hname:fn.name≠ "runtime.NumGoroutine")(hn:args.length≤fn.ntmps)(hs:fn.ntmps≤16000)
  (hc:zW P E fn.ntmps c (pt args 0 .leaf) h R) (hq:∀res,R res→∃v h',tU (fn.results.toList.map (yA E)) res= .ok v h'∧Q v h'):gW P E f args h Q:=by
 intro r n ρ w vs s hg hv
 left
 obtain⟨r1,r2⟩:=US (nt:=fn.ntmps) hv hn hs
 have hat:At E w.heap.size none fn.ntmps ρ h w (pt args 0 .leaf) {tmps:=vs++Array.replicate (fn.ntmps-vs.size) undef,defers:= []}:=⟨s,hg,r1,r2,hs,trivial,aE _⟩
 refine⟨by simp[callFunc,hf,hname,hb],?_⟩
 have main:CallsIn (Fc none) n P f vs w (R8 E ρ h w Q):=by
  refine callsIn_of_wp_marks (F:=Fc none) hf hb trivial ?_
  refine Code.wpIn_mono ?_ (hc w.heap.size none n ρ w _ hat)
  rintro e' a' w' ⟨res,hres,hp⟩
  obtain⟨v,h1,he,hqv⟩:=hq res hres
  cases res with
  |fail=>cases he
  |exit id tm h1=>cases he
  |norm tm h2=>
   have he:cF h2 (zE (pK h2 tm (fn.results.toList.map (yA E))))= .ok v h1:=he
   obtain⟨e1,rfl⟩:=eW he
   cases hrl:pK h1 tm (fn.results.toList.map (yA E))with
   |none=>simp only[hrl,zE,reduceCtorEq]at e1
   |some vs'=>
    simp only[hrl,zE,aF]at e1
    subst e1
    obtain⟨he',ρ',st,s',hrt,hsz,hfr⟩:=hp
    subst he'
    exact DA hE hrl hqv s.old a'.defers w' st s' hrt hfr
  |ret tm h2=>
   have he:cF h2 (zE (pK h2 tm (fn.results.toList.map (yA E))))= .ok v h1:=he
   obtain⟨e1,rfl⟩:=eW he
   cases hrl:pK h1 tm (fn.results.toList.map (yA E))with
   |none=>simp only[hrl,zE,reduceCtorEq]at e1
   |some vs'=>
    simp only[hrl,zE,aF]at e1
    subst e1
    obtain⟨he',ρ',st,s',hrt,hsz,hfr⟩:=hp
    subst he'
    exact DA hE hrl hqv s.old a'.defers w' st s' hrt hfr
 exact main
theorem Z9{f:Nat}{fn:Func}{args:List AV}{v:AV}{h':aL}{Q:AV→aL→Prop}(hf:P.funcs[f]?=some fn)(hb:fn.body=none)(hname:fn.name= "internal/bytealg.IndexByteString")
  (hext:∀f fn vs w v,P.funcs[f]?=some fn→fn.body=none→fn.name= "internal/bytealg.IndexByteString" →∀s c,c<256→vs= #[.string s,.int .u8 (.ofNat c)]→v= .int .i64 (nO (dY s) c 0)→(callFunc f vs).run P w= .ok (.value v) w)
  (e:aAu h args= .ok v h') (hq:Q v h'):gW P E f args h Q:=by
 intro r n ρ w vs hsim hg hv
 right
 match args,hv,e with
 | [.str s,.int .u8 (.ofNat c)],hv,e=>
  obtain⟨u,us,hu,⟨bs,hbs,hbb⟩,u2,us2,hu2,hx2,hn⟩:=hv
  cases hn
  subst hu2
  have hx2:u2=_:=hx2
  subst hx2;subst hbs
  have hvs:vs= #[.string bs,.int .u8 (.ofNat c)]:=Array.toList_inj.1 hu
  simp only[aAu,bN,blt_eq]at e
  split at e
  case isFalse=>cases e
  rename_i hc
  cases e
  exact⟨_,_,_,ρ,hext f fn vs w _ hf hb hname bs c hc hvs (by rw[hbb]),hq,gQ.refl _ _ _,hsim,rfl,_,_,rfl⟩
end
end
section
section
variable{P:Program}{E:bE TypeInfo}(hE:∀t i,E.get t=some i→P.info? t=some i)(hF:∀t ks,FY E t= .flat ks→P.stoodInHeld t=false∧P.eqGuardType P.depth t=false)
variable(T:bE cX)(M:Nat→String→Option (Nat×Option fV))(prev:eL)
variable{base nt n:Nat}{r:Option Nat}{ρ ρ':Ren}{h h':aL}{w w':World}{v:AV}{o:Oper}{a:Act}{tm:PT}
theorem iN{K:Act→World→Prop}{Q:Exit→Act→World→Prop}{sem:Sem Value}(hd:∀c,o.op≠ .defer c)(hs:∀v' w',sem.run P w= .ok v' w'→(execOp a.eval o).run P w= .ok (.value v') w')(q:iG P E sem ρ h w v h')
  (hK:∀ρ' w' v',gQ ρ h w ρ' h' w'→dI E ρ' h' w'→RV ρ' w' v v'→K (a.put o.dst v') w'):o.wpIn (Fc r) n P a w K Q:=by
 obtain⟨ρ',w',v',q1,q2,q3,q4⟩:=q
 refine⟨fun f _=>trivial,?_⟩
 rw[Oper.semAt_eq _ _ _ hd,hs _ _ q1]
 exact hK _ _ _ q2 q3 q4
include hE in
theorem NP{b:Builtin}{args:Array Operand}{ts:Array Nat}{K:Act→World→Prop}{Q:Exit→Act→World→Prop}(ho:o.op= .call ⟨.builtin b,args,ts⟩)(ht:RT ρ w tm a.tmps)(s:dI E ρ h w)
  (e:act T M prev tm h (cJ E o.op)= .ok v h')
  (hK:∀ρ' w' v',gQ ρ h w ρ' h' w'→dI E ρ' h' w'→RV ρ' w' v v'→K (a.put o.dst v') w'):o.wpIn (Fc r) n P a w K Q:=by
 have hd:∀c,o.op≠ .defer c:=by rw[ho];simp
 rw[ho]at e
 have e:LN T M prev (fY tm (VV args)) tm h (match ts[0]? with
  |some t=>bif DZ b ts.size then DY E t ts[1]? b else .bad
  |none=> .bad)= .ok v h':=e
 cases h0:ts[0]? with
 |none=>rw[h0]at e;cases e
 |some t=>
  simp only[h0,bN]at e
  split at e
  case isFalse=>cases e
  rename_i hok
  have hv:=mT ht args
  have run:∀(sem:Sem Value),(∀cs,builtin b ts o.type cs (args.map a.eval)=(do pure (.value (←sem))))→∀v' w',sem.run P w= .ok v' w'→(execOp a.eval o).run P w= .ok (.value v') w':=by
   intro sem hb v' w' hr
   unfold execOp
   rw[ho]
   simp only[resolve,Sem.run_bind,Sem.run_pure,Result.andThen_ok,invoke,hb,hr]
  cases b with
  |append=>
   unfold DZ at hok
   have hts:=beq_eq.1 hok
   have hk:∃size,DY E t ts[1]? .append= .append size:=by
    simp only[DY,bN]at e⊢
    split
    ·rename_i h1
     rw[if_pos h1]at e
     cases hr:LQ E t with
     |none=>rw[hr]at e;cases e
     |some sz=>exact⟨sz,rfl⟩
    ·rename_i h1
     rw[if_neg h1]at e;cases e
   obtain⟨size,hk⟩:=hk
   rw[hk]at e
   exact iN hd (run _ (fun _=>rfl)) (R9 hE h0 hk hts hv s e) hK
  |cap=>
   have hk:DY E t ts[1]? .cap= .cap:=by
    unfold DY at e⊢
    simp only at e⊢
    split
    ·rfl
    ·rename_i hn
     exfalso
     split at e
     ·rename_i h1;exact hn _ h1
     ·cases e
   rw[hk]at e
   exact iN hd (run _ (fun _=>rfl)) (aCK hE h0 hk hv s e) hK
  |clear=>
   simp only[DY]at e
   cases hel:rH E t with
   |none=>rw[hel]at e;cases e
   |some el=>
    cases hz:iH E el with
    |none=>simp only[hel,hz,Option.bind_some,Option.map_none,gI]at e;cases e
    |some z=>
     simp only[hel,hz,Option.bind_some,Option.map_some,gI]at e
     exact iN hd (run _ (fun _=>rfl)) (UT hE h0 hel hz hv s e) hK
  |copy=>
   have hk:∃size,DY E t ts[1]? .copy= .copy size:=by
    simp only[DY]at e⊢
    cases hr:LQ E t with
    |none=>rw[hr]at e;cases e
    |some sz=>exact⟨sz,rfl⟩
   obtain⟨size,hk⟩:=hk
   rw[hk]at e
   exact iN hd (run _ (fun _=>rfl)) (aAb hE h0 hk hv s e) hK
  |delete=>
   simp only[DY]at e
   cases hk:sR E t with
   |none=>rw[hk]at e;cases e
   |some q=>
    simp only[hk,Option.map_some,gI]at e
    exact iN hd (run _ (fun _=>rfl)) (SA hE h0 hk hv s e) hK
  |len=>
   have hk:∃k,DY E t ts[1]? .len= .len k:=by
    unfold DY at e⊢
    simp only at e⊢
    split
    ·exact⟨_,rfl⟩
    ·exact⟨_,rfl⟩
    ·exact⟨_,rfl⟩
    ·rename_i n1 n2 n3
     cases hl:LU E t with
     |some m=>exact⟨_,rfl⟩
     |none=>
      exfalso
      split at e
      ·rename_i h1;exact n1 h1
      ·rename_i h1;exact n2 _ h1
      ·rename_i h1;exact n3 _ _ h1
      ·rw[hl]at e;cases e
   obtain⟨k,hk⟩:=hk
   rw[hk]at e
   exact iN hd (run _ (fun _=>rfl)) (aCN hE h0 hk hv s e) hK
  |max=>exact iN hd (run _ (fun _=>rfl)) (aCL hv s e) hK
  |min=>exact iN hd (run _ (fun _=>rfl)) (aCM hv s e) hK
  |_=>cases e
end
end
section
section
variable{P:Program}{E:bE TypeInfo}(hE:∀t i,E.get t=some i→P.info? t=some i)(hF:∀t ks,FY E t= .flat ks→P.stoodInHeld t=false∧P.eqGuardType P.depth t=false)
variable(T:bE cX)(M:Nat→String→Option (Nat×Option fV))(prev:eL)
variable{base nt n:Nat}{r:Option Nat}{ρ ρ':Ren}{h h':aL}{w w':World}{v:AV}{o:Oper}{a:Act}{tm:PT}
theorem KP{Qf:AV→aL→Prop}{f:Nat}{args:List AV}(hf:gW P E f args h Qf){vs:Array Value}{K:Act→World→Prop}{Q:Exit→Act→World→Prop}(hd:∀c,o.op≠ .defer c)
  (hx:(execOp a.eval o).run P w=(callFunc f vs).run P w) (s:dI E ρ h w) (hg:zB w ρ) (hv:dH ρ w args vs.toList)
  (hK:∀ρ' w' v' v h',Qf v h'→gQ ρ h w ρ' h' w'→dI E ρ' h' w'→RV ρ' w' v v'→K (a.put o.dst v') w'):o.wpIn (Fc r) n P a w K Q:=by
 refine⟨fun f _=>trivial,?_⟩
 rw[Oper.semAt_eq _ _ _ hd,hx]
 rcases hf r (n-1) ρ w vs s hg hv with⟨h1,h2⟩|⟨v,v',h',ρ',h1,h2,h3,h4,h5,_⟩
 ·rw[h1]
  refine⟨fun hh=>(by cases hh),CallsIn.mono h2 ?_⟩
  intro e w' he
  cases e with
  |returned v'=>obtain⟨v,h',qv,ρ',q1,q2,q3⟩:=he;exact hK _ _ _ _ _ qv q1 q2 q3
  |panicked c=>exact he.elim
  |outgrown=>exact he.elim
 ·rw[h1]
  exact hK _ _ _ _ _ h2 h3 h4 h5
theorem FH:∀(ps:List Nat) (args:List AV) (us:List Value) (tm tm':PT) (tmps:Array Value),kO tm (ps.map aM) args=some tm'→dH ρ w args us→RT ρ w tm tmps→(∀t∈ps,t<tmps.size∧t<16000)→
  ps.length=us.length∧RT ρ w tm' ((ps.zip us).foldl (fun(tmps:Array Value) (x:Nat×Value)=>tmps.setIfInBounds x.1 x.2) tmps)∧((ps.zip us).foldl (fun(tmps:Array Value) (x:Nat×Value)=>tmps.setIfInBounds x.1 x.2) tmps).size=tmps.size
 | [],[],us,tm,tm',tmps,e,hv,ht,_=>by
  cases hv
  simp only[List.map_nil,kO,aF]at e
  subst e
  exact⟨rfl,ht,rfl⟩
 | [],_::_,us,tm,tm',tmps,e,_,_,_=>by simp[kO]at e
 |_::_,[],us,tm,tm',tmps,e,_,_,_=>by simp[kO]at e
 |p::ps,x::args,_,tm,tm',tmps,e,⟨u,us,hu,hx,hv⟩,ht,hp=>by
  subst hu
  simp only[List.map_cons,kO]at e
  have h1:=hp p (by simp)
  obtain⟨q1,q2,q3⟩:=FH ps args us _ tm' (tmps.setIfInBounds p u) e hv (ht.put h1.1 h1.2 hx) (fun t ht'=>by
   have:=hp t (by simp[ht'])
   simpa using this)
  exact⟨by simp[q1],q2,by simpa using q3⟩
end
end
section
section
variable{P:Program}{E:bE TypeInfo}
variable(T:bE cX)(M:Nat→String→Option (Nat×Option fV))(prev:eL)
variable{base nt n:Nat}{r:Option Nat}{ρ ρ':Ren}{h h':aL}{w w':World}{v:AV}{o:Oper}{a:Act}{tm:PT}
theorem pG(s:dI E ρ h w){l:Nat}{r0:yW}{m:HC}(hg:aP h l=some (.loop r0))(hm:ρ l=some m):∃rec,w.heap[m.blk]?=some (.loop rec)∧U5 ρ w E r0 rec:=by
 obtain⟨m',hm',rec,h1,h2⟩:=s.obj l _ hg
 rw[hm]at hm'
 cases hm'
 exact⟨rec,h1,h2⟩
theorem vP(s:dI E ρ h w){l:Nat}{r0:yW}{m:HC}{rec:Loop}(hg:aP h l=some (.loop r0))(hm:ρ l=some m)(hr:w.heap[m.blk]?=some (.loop rec))(hl:U5 ρ w E r0 rec)(st:LoopState)(j:Option zC)(jc:Option Code)(hj:JR j jc):
  gQ ρ h w ρ (bI h l (.loop {r0 with state:=st,pending:=j})) (w.putObj m.blk (.loop {rec with state:=st,pending:=jc}))∧
   dI E ρ (bI h l (.loop {r0 with state:=st,pending:=j})) (w.putObj m.blk (.loop {rec with state:=st,pending:=jc})):=
 s.putO hg hm (fun r0 e0=>by rw[hr]at e0;cases e0;exact⟨_,World.putObj_heap_same (s.low _ _ hm),rfl⟩) (fun k hX=>⟨_,hX,⟨rfl,hj,hl.small,hl.params,hl.assign,hl.body,hl.tmps.mono k,hl.few⟩⟩)
theorem NN{st:LoopState}(h:qN st=true):st= .ready:=by cases st<;>simp[qN]at h;rfl
def KO(P:Program)(E:bE TypeInfo)(c:CC)(tm:PT)(h:aL)(Q:eK→Prop):Prop:=∀nt c0,cc E nt c0=c→zW P E nt c0 tm h Q
def NO(P:Program)(E:bE TypeInfo)(l:Nat)(args:List AV)(h:aL)(Q:AV→aL→Prop):Prop:=
 ∀(r:Option Nat) (n:Nat) (ρ:Ren) (w:World) (vs:Array Value) (m:HC),ρ l=some m→dI E ρ h w→zB w ρ→dH ρ w args vs.toList→
  ∃f tmps assign body,(Instr.yield m.blk vs).run P w= .ok (.round m.blk f tmps assign body) w∧RoundIn (Fc r) n P m.blk f tmps assign body w (R8 E ρ h w Q)
theorem R7{l:Nat}{args:List AV}{r0:yW}{tm0:PT}{Ra Rb:eK→Prop}{Q:AV→aL→Prop}(hgl:aP h l=some (.loop r0))(hp:kO r0.tmps r0.params args=some tm0)
  (hca:KO P E r0.assign tm0 h Ra) (han:∀res,Ra res→∃tm1 h1 r1,res= .norm tm1 h1∧aP h1 l=some (.loop r1)∧qN r1.state=true)
  (hcb:∀tm1 h1 r1,Ra (.norm tm1 h1)→aP h1 l=some (.loop r1)→KO P E r0.body tm1 (bI h1 l (.loop {r1 with state:= .busy})) Rb)
  (hend:∀res,Rb res→∃v h',DV l res= .ok v h'∧Q v h'):NO P E l args h Q:=by
 intro r n ρ w vs m hm s hg hv
 obtain⟨rec,hrec,hlr⟩:=pG s hgl hm
 rw[hlr.params]at hp
 obtain⟨p1,p2,p3⟩:=FH _ _ _ _ _ _ hp hv hlr.tmps hlr.small
 have hsz:vs.size=rec.params.size:=by simpa using p1.symm
 refine⟨rec.fn,_,rec.assign,rec.body,run_yield hrec hsz,roundIn_of_wpIn (F:=Fc r) trivial ?_⟩
 have hfold:(rec.params.zip vs).foldl (fun(tmps:Array Value) (x:Nat×Value)=>tmps.setIfInBounds x.1 x.2) rec.tmps=(rec.params.toList.zip vs.toList).foldl (fun(tmps:Array Value) (x:Nat×Value)=>tmps.setIfInBounds x.1 x.2) rec.tmps:=by
  rw[←Array.foldl_toList,Array.toList_zip]
 have hat:At E w.heap.size (some m.blk) rec.tmps.size ρ h w tm0 {tmps:=(rec.params.zip vs).foldl (fun(tmps:Array Value) (x:Nat×Value)=>tmps.setIfInBounds x.1 x.2) rec.tmps,defers:= []}:=
  ⟨s,hg,by rw[hfold];exact p2,by rw[hfold];exact p3,hlr.few,⟨rfl,rec,hrec⟩,aE _⟩
 refine Code.wpIn_mono ?_ (hca rec.tmps.size rec.assign hlr.assign.symm w.heap.size (some m.blk) n ρ w _ hat)
 rintro ex a1 w1 ⟨resa,hra,hpa⟩
 obtain⟨tm1,h1,r1,rfl,hg1,hready⟩:=han resa hra
 obtain⟨he,ρ1,st1,s1,rt1,sz1,fr1⟩:=hpa
 subst he
 show∃w2,_
 have hm1:ρ1 l=some m:=st1.ext _ _ hm
 obtain⟨rec1,hrec1,hlr1⟩:=pG s1 hg1 hm1
 have hst1:rec1.state= .ready:=hlr1.state.trans (NN hready)
 obtain⟨t1,t2⟩:=vP s1 hg1 hm1 hrec1 hlr1 .busy r1.pending rec1.pending hlr1.pend
 refine⟨_,run_beginRound hrec1 hst1,?_⟩
 have hat2:At E w.heap.size (some m.blk) rec.tmps.size ρ1 (bI h1 l (.loop {r1 with state:= .busy})) (w1.putObj m.blk (.loop {rec1 with state:= .busy})) tm1 a1:=
  ⟨t2,hg.stp (st1.trans t1),rt1.stp t1,sz1,hlr.few,fr1.stp t1,Nat.le_trans st1.size t1.size⟩
 refine Code.wpIn_mono ?_ (hcb tm1 h1 r1 hra hg1 rec.tmps.size rec.body hlr.body.symm w.heap.size (some m.blk) n ρ1 _ _ hat2)
 rintro ex a2 w3 ⟨res,hrb,hpb⟩
 obtain⟨v,h',e,hq⟩:=hend res hrb
 cases res with
 |fail=>cases e
 |norm tm2 h2=>
  obtain⟨he,ρ2,st2,s2,rt2,sz2,fr2⟩:=hpb
  subst he
  have e:zF l true .ready none h2 (aP h2 l)= .ok v h':=e
  cases hg2:aP h2 l with
  |none=>rw[hg2]at e;cases e
  |some ob=>
   cases ob with
   |loop r2=>
    rw[hg2]at e
    simp only[zF]at e
    cases e
    have hm2:ρ2 l=some m:=st2.ext _ _ hm1
    obtain⟨rec2,hrec2,hlr2⟩:=pG s2 hg2 hm2
    obtain⟨x1,x2⟩:=vP s2 hg2 hm2 hrec2 hlr2 .ready none none rfl
    exact⟨_,_,run_endRound none hrec2,_,_,hq,ρ2,(((st1.trans t1).trans st2).trans x1),x2,rfl⟩
   |_=>rw[hg2]at e;cases e
 |ret tm2 h2=>
  obtain⟨he,ρ2,st2,s2,rt2,sz2,fr2⟩:=hpb
  subst he
  have e:zF l false .done (some .ret) h2 (aP h2 l)= .ok v h':=e
  cases hg2:aP h2 l with
  |none=>rw[hg2]at e;cases e
  |some ob=>
   cases ob with
   |loop r2=>
    rw[hg2]at e
    simp only[zF]at e
    cases e
    have hm2:ρ2 l=some m:=st2.ext _ _ hm1
    obtain⟨rec2,hrec2,hlr2⟩:=pG s2 hg2 hm2
    obtain⟨x1,x2⟩:=vP s2 hg2 hm2 hrec2 hlr2 .done (some .ret) (some .ret) rfl
    exact⟨_,_,run_endRound (some .ret) hrec2,_,_,hq,ρ2,(((st1.trans t1).trans st2).trans x1),x2,rfl⟩
   |_=>rw[hg2]at e;cases e
 |exit id tm2 h2=>
  obtain⟨he,ρ2,st2,s2,rt2,sz2,fr2⟩:=hpb
  subst he
  have e:zF l false .done (some (.exit id)) h2 (aP h2 l)= .ok v h':=e
  cases hg2:aP h2 l with
  |none=>rw[hg2]at e;cases e
  |some ob=>
   cases ob with
   |loop r2=>
    rw[hg2]at e
    simp only[zF]at e
    cases e
    have hm2:ρ2 l=some m:=st2.ext _ _ hm1
    obtain⟨rec2,hrec2,hlr2⟩:=pG s2 hg2 hm2
    obtain⟨x1,x2⟩:=vP s2 hg2 hm2 hrec2 hlr2 .done (some (.exit id)) (some (.exit id)) rfl
    exact⟨_,_,run_endRound (some (.exit id)) hrec2,_,_,hq,ρ2,(((st1.trans t1).trans st2).trans x1),x2,rfl⟩
   |_=>rw[hg2]at e;cases e
end
end
section
section
variable{P:Program}{E:bE TypeInfo}(hE:∀t i,E.get t=some i→P.info? t=some i)(hF:∀t ks,FY E t= .flat ks→P.stoodInHeld t=false∧P.eqGuardType P.depth t=false)
variable(T:bE cX)(M:Nat→String→Option (Nat×Option fV))(prev:eL)
variable{base nt n:Nat}{r:Option Nat}{ρ ρ':Ren}{h h':aL}{w w':World}{v:AV}{o:Oper}{a:Act}{tm:PT}
def NK(P:Program)(E:bE TypeInfo)(M:Nat→String→Option (Nat×Option fV)):Prop:=
 ∀(t:Nat) (name:String) (f:Nat) (c:Option fV),M t name=some (f,c)→∀(ρ:Ren) (h:aL) (w:World) (x x':AV) (u:Value),dI E ρ h w→zB w ρ→sM h x c=some x'→RV ρ w x u→
  ∃u',(method (P.types.size+Made.depth) t u name).run P w= .ok (f,u') w∧RV ρ w x' u'
def fA:fC→Bool
 | .call (.value _) _=>false
 | .call (.invoke ..) _=>false
 |_=>true
include hE hF in
theorem KM{Q:AV→aL→Prop}(hn:fA (cJ E o.op)=true)(e:act T M prev tm h (cJ E o.op)= .ok v h')(hq:Q v h'):mM P E o tm h Q:=by
 intro base nt n r ρ w a K Qx x hK
 have hK':∀ρ' w' v',gQ ρ h w ρ' h' w'→dI E ρ' h' w'→RV ρ' w' v v'→K (a.put o.dst v') w':=fun ρ' w' v' q1 q2 q3=>hK ρ' w' v' v h' hq q1 q2 q3
 cases ho:o.op with
 |call c=>
  cases hcl:c.callee with
  |builtin b=>
   obtain⟨callee,args,ts⟩:=c
   simp only at hcl
   subst hcl
   exact NP hE T M prev ho x.rt x.sim e hK'
  |value f=>
   obtain⟨callee,args,ts⟩:=c
   simp only at hcl
   subst hcl
   rw[ho]at hn
   have hn:false=true:=hn
   cases hn
  |invoke rc nm=>
   obtain⟨callee,args,ts⟩:=c
   simp only at hcl
   subst hcl
   rw[ho]at hn
   have hn:false=true:=hn
   cases hn
 |defer c=>
  rw[ho]at e
  cases e
 |_=>exact xM (by rw[ho];simp) (by rw[ho];simp) (aCJ hE hF T M prev (by rw[ho];simp) x.rt x.sim x.glob e) hK'
theorem NL{Q:AV→aL→Prop}{c:Call}{f:Operand}{g:Nat}{first captured:List AV}(ho:o.op= .call c)(hc:c.callee= .value f)(hx:cH tm (cO f)= .func (.func g) first captured)
  (q:gW P E g (first++(fY tm (VV c.args)++captured)) h Q):mM P E o tm h Q:=by
 intro base nt n r ρ w a K Qx x hK
 obtain⟨callee,args,ts⟩:=c
 simp only at hc
 subst hc
 have hv:=mT x.rt args
 have hr:=bY x.rt f
 rw[hx]at hr
 obtain⟨fn',f',c',hu,hf',hc',hfn⟩:=hr
 have hfn:fn'= .func g:=hfn
 subst hfn
 refine KP q (by rw[ho];simp) (vs:=f'++args.map a.eval++c') ?_ x.sim x.glob ?_ hK
 ·unfold execOp
  rw[ho]
  simp[resolve,hu,Deferred.ofValue,invoke]
 ·rw[Array.toList_append,Array.toList_append,List.append_assoc]
  exact hf'.append (hv.append hc')
theorem NM{Q:AV→aL→Prop}{c:Call}{f:Operand}{l:Nat}(ho:o.op= .call c)(hc:c.callee= .value f)(hx:cH tm (cO f)= .func (.yield l) [] [])
  (q:NO P E l (fY tm (VV c.args)) h Q):mM P E o tm h Q:=by
 intro base nt n r ρ w a K Qx x hK
 obtain⟨callee,args,ts⟩:=c
 simp only at hc
 subst hc
 have hv:=mT x.rt args
 have hr:=bY x.rt f
 rw[hx]at hr
 obtain⟨fn',f',c',hu,hf',hc',m,hm,hfn⟩:=hr
 subst hfn
 obtain⟨fid,tmps,assign,body,y1,y2⟩:=q r (n-1) ρ w _ m hm x.sim x.glob hv
 have hf0:f'= #[]:=Array.toList_inj.1 hf'
 subst hf0
 have hd:∀c,o.op≠ .defer c:=by rw[ho];simp
 refine⟨fun f _=>trivial,?_⟩
 rw[Oper.semAt_eq _ _ _ hd]
 have hx:(execOp a.eval o).run P w= .ok (.round m.blk fid tmps assign body) w:=by
  unfold execOp
  rw[ho]
  simp[resolve,hu,Deferred.ofValue,invoke,y1]
 rw[hx]
 refine⟨fun hh=>(by cases hh),RoundIn.mono y2 ?_⟩
 intro e w' he
 cases e with
 |returned v'=>obtain⟨v,h',hq,ρ',q1,q2,q3⟩:=he;exact hK _ _ _ _ _ hq q1 q2 q3
 |panicked c=>exact he.elim
 |outgrown=>exact he.elim
theorem KN(hM:NK P E M){Q:AV→aL→Prop}{c:Call}{recv:Operand}{name:String}{t f:Nat}{y y':AV}{ct:Option fV}(ho:o.op= .call c)(hc:c.callee= .invoke recv name)(hx:cH tm (cO recv)= .iface t y)
  (hm:M t name=some (f,ct)) (hrv:sM h y ct=some y') (q:gW P E f (y'::fY tm (VV c.args)) h Q):mM P E o tm h Q:=by
 intro base nt n r ρ w a K Qx x hK
 obtain⟨callee,args,ts⟩:=c
 simp only at hc
 subst hc
 have hv:=mT x.rt args
 have hr:=bY x.rt recv
 rw[hx]at hr
 obtain⟨u,hu,hy⟩:=hr
 obtain⟨u',m1,m2⟩:=hM t name f ct hm ρ h w y y' u x.sim x.glob hrv hy
 refine KP q (by rw[ho];simp) (vs:= #[u']++args.map a.eval) ?_ x.sim x.glob ?_ hK
 ·unfold execOp
  rw[ho]
  have h0:(#[Value.iface t u]++args.map a.eval)[0]?=some (.iface t u):=by rw[Array.getElem?_append_left (by simp)];rfl
  have hx:(args.map a.eval).extract 0 args.size=args.map a.eval:=by apply Array.toList_inj.1;rw[Array.toList_extract,List.extract_eq_take_drop,List.drop_zero,List.take_of_length_le (by simp)]
  simp[resolve,invoke,callMethod,hu,h0,m1,hx]
 ·rw[Array.toList_append]
  exact⟨u',_,rfl,m2,hv⟩
end
end
section
section
variable{P:Program}{E:bE TypeInfo}{ρ:Ren}{h h':aL}{w:World}{v:AV}{o:Oper}{a:Act}{tm:PT}
def PF(h:aL)(b mb since:Nat)(aQ:List Nat)(clock:Nat)(left:List kU)(v:AV)(h':aL):Prop:=
 (∃e,e∈left∧v= .tuple [.bool true,e.1,e.2.1]∧h'=bI h b (.miter (some mb) since (aQ++ [e.2.2]) clock))∨((∀e,e∈left→since≤e.2.2)∧v=N6∧h'=h)
theorem RM.mem:∀{l:List kU} {en:List MapEntry} {x:MapEntry},RM ρ w l en→x∈en→∃e,e∈l∧RV ρ w e.1 x.key∧RV ρ w e.2.1 x.val∧x.born=e.2.2
 | [],_,_,hh,hx=>by cases hh;cases hx
 |(k,y,b)::l,_,x,⟨e,r,he,h1,h2,h3,h4⟩,hx=>by
  subst he
  rcases List.mem_cons.1 hx with rfl|hx
  ·exact⟨(k,y,b),by simp,h1,h2,h3⟩
  ·obtain⟨e',q1,q2⟩:=RM.mem h4 hx
   exact⟨e',by simp[q1],q2⟩
theorem RM.mem':∀{l:List kU} {en:List MapEntry} {e:kU},RM ρ w l en→e∈l→∃x,x∈en∧x.born=e.2.2
 | [],_,_,hh,hx=>by cases hx
 |(k,y,b)::l,_,e,⟨x,r,he,h1,h2,h3,h4⟩,hx=>by
  subst he
  rcases List.mem_cons.1 hx with rfl|hx
  ·exact⟨_,by simp,h3⟩
  ·obtain⟨e',q1,q2⟩:=RM.mem' h4 hx
   exact⟨e',by simp[q1],q2⟩
theorem UQ{x:Operand}{b mb since c last:Nat}{aQ:List Nat}{es:List kU}(ho:o.op= .next x false)(ht:RT ρ w tm a.tmps)(s:dI E ρ h w)(hx:cH tm (cO x)= .ptr b 0)(hg:aP h b=some (.miter (some mb) since aQ last))
  (hma:gY h mb=some (es,c)) (hcond:(pJ aQ||(pJ es|| !(sL last es)))=true):
  ∃v h',PF h b mb since aQ c (leftOf aQ es) v h'∧f8 E ((execOp a.eval o).run P w) ρ h w v h':=by
 have hxv:=bY ht x
 rw[hx]at hxv
 have overR:∀ρ w,RV ρ w N6 (.tuple #[.bool false]):=fun ρ w=>⟨_,rfl,_,_,rfl,rfl,rfl⟩
 have fin:∀w' u,(Instr.next (a.eval x) false o.type).run P w= .ok u w'→(execOp a.eval o).run P w= .ok (.value u) w':=by
  intro w' u h1
  unfold execOp;rw[ho]
  simp[h1]
 obtain⟨m,hm,hp⟩:=hxv
 have hp:a.eval x= .pointer (some ⟨m.blk,m.sh,none⟩):=hp
 obtain⟨m',hm',h0,mo',hb,hmr⟩:=s.obj b _ hg
 rw[hm]at hm'
 cases hm'
 rw[h0]at hp
 have hget:∀w',w'.heap=w.heap→(getObj m.blk).run P w'= .ok (.mapIter mo' since aQ.toArray last) w':=fun w' e=>oH (by rw[e];exact hb) (by simp)
 obtain⟨mm,hmm,hmo⟩:=hmr
 subst hmo
 obtain⟨mm',en,hmm',_,hgm,hbm,hr⟩:=jS (u:= .map (some mm.blk)) s ⟨mm,hmm,rfl⟩ hma
 rw[hmm]at hmm'
 cases hmm'
 have hgetm:=dW (P:=P) hbm
 have hleft:=xN aQ hr
 have hnot:(!aQ.toArray.isEmpty&& !en.isEmpty&&en.all fun e=>decide (e.born≥last))=false:=by
  apply Bool.eq_false_iff.2
  intro hh
  simp only[aI,Bool.not_eq_true']at hh
  obtain⟨⟨h1,h2⟩,h3⟩:=hh
  simp only[Bool.or_eq_true]at hcond
  rcases hcond with hc|hc|hc
  ·cases aQ<;>simp[pJ]at hc h1
  ·have:=RM.length hr
   cases es with
   |nil=>simp at this;simp[this]at h2
   |cons _ _=>simp[pJ]at hc
  ·rw[xO last hr]at hc
   rw[←Array.all_toList]at h3
   rw[h3]at hc
   simp at hc
 have hfil:(en.filter fun e=> !aQ.toArray.contains e.born).toList=en.toList.filter fun e=> !aQ.contains e.born:=by
  rw[Array.toList_filter]
  congr 1
  funext e
  simp
 generalize hlf:(en.filter fun e=> !aQ.toArray.contains e.born)=lf at hfil
 rw[←hfil]at hleft
 generalize hcs:((if(lf.filter (fun e=>decide (e.born<since))).isEmpty then #[none]else #[])++((lf.filter (fun e=>decide (e.born<since))++lf.filter (fun e=>decide (e.born≥since)))).map some:Array (Option MapEntry))=cs
 have hne:0<cs.size:=by
  rw[←hcs]
  by_cases he:(lf.filter (fun e=>decide (e.born<since))).isEmpty=true
  ·rw[if_pos he];simp;omega
  ·rw[if_neg he]
   have:0<(lf.filter (fun e=>decide (e.born<since))).size:=by
    rw[Array.isEmpty_iff]at he
    exact Array.size_pos_iff.2 he
   simp only[Array.size_append,Array.size_map]
   omega
 have hch:∃i w2,i<cs.size∧(w2=w∨w2=w.drew)∧(choose (.mapNext cs.size)).run P w= .ok i w2:=by
  rw[run_choose_drew]
  by_cases hf:(Question.mapNext cs.size).forced=true
  ·rw[if_pos hf];exact⟨0,w,hne,.inl rfl,rfl⟩
  ·rw[if_neg hf];exact⟨_,_,Nat.mod_lt _ hne,.inr rfl,rfl⟩
 obtain⟨i,w2,hi,hw2,hrun⟩:=hch
 have hnext:∀u w',(match cs[i]? with
   |some (some e)=>(do setObj m.blk (.mapIter (some mm.blk) since (aQ.toArray.push e.born) c);pure (.tuple #[.bool true,e.key,e.val]):Sem Value)
   |some none=>pure (.tuple #[.bool false])
   |none=>stuck "Next: no such candidate").run P w2= .ok u w'→(Instr.next (a.eval x) false o.type).run P w= .ok u w':=by
  intro u w' hu
  simp only[Instr.next,hp,Sem.run_bind,hget w rfl,Result.andThen_ok,hgetm,hnot,Bool.false_eq_true,if_false,hlf,hcs,hrun]
  exact hu
 have hw2h:w2.heap=w.heap:=by rcases hw2 with rfl|rfl<;>rfl
 have s2:dI E ρ h w2:=by rcases hw2 with rfl|rfl;exact s;exact s.drew
 have t2:gQ ρ h w ρ h w2:=by rcases hw2 with rfl|rfl;exact gQ.refl _ _ _;exact gQ.drew _ _ _
 cases hci:cs[i]? with
 |none=>exact absurd (Array.getElem?_eq_none_iff.1 hci) (by omega)
 |some oe=>
  rw[hci]at hnext
  have hmem:oe∈cs:=Array.mem_of_getElem? hci
  rw[←hcs]at hmem
  cases oe with
  |none=>
   have hold:(lf.filter (fun e=>decide (e.born<since))).isEmpty=true:=by
    rcases Array.mem_append.1 hmem with hm1|hm1
    ·by_cases he:(lf.filter (fun e=>decide (e.born<since))).isEmpty=true
     ·exact he
     ·rw[if_neg he]at hm1;simp at hm1
    ·simp at hm1
   refine⟨_,_,.inr ⟨fun e he=> ?_,rfl,rfl⟩,ρ,w2,_,.inl (fin _ _ (hnext _ _ rfl)),t2,s2,overR _ _⟩
   obtain⟨x0,hx0,hb0⟩:=RM.mem' hleft he
   rcases Nat.lt_or_ge e.2.2 since with hlt|hge
   ·exfalso
    rw[Array.isEmpty_iff]at hold
    have:x0∈lf.filter (fun e=>decide (e.born<since)):=Array.mem_filter.2 ⟨Array.mem_toList_iff.1 hx0,by rw[hb0];simpa using hlt⟩
    rw[hold]at this
    simp at this
   ·exact hge
  |some e1=>
   have hin:e1∈lf:=by
    rcases Array.mem_append.1 hmem with hm1|hm1
    ·by_cases he:(lf.filter (fun e=>decide (e.born<since))).isEmpty=true
     ·rw[if_pos he]at hm1;simp at hm1
     ·rw[if_neg he]at hm1;simp at hm1
    ·obtain⟨e2,he2,he3⟩:=Array.mem_map.1 hm1
     cases he3
     rcases Array.mem_append.1 he2 with h1|h1
     ·exact(Array.mem_filter.1 h1).1
     ·exact(Array.mem_filter.1 h1).1
   obtain⟨e,he,k1,v1,b1⟩:=RM.mem hleft (Array.mem_toList_iff.2 hin)
   have hb2:w2.heap[m.blk]?=some (.mapIter (some mm.blk) since aQ.toArray last):=by rw[hw2h];exact hb
   obtain⟨t1,u1⟩:=s2.putO (o2:= .miter (some mb) since (aQ++ [e.2.2]) c) (X:= .mapIter (some mm.blk) since (aQ.toArray.push e1.born) c) hg hm (fun r e=>by rw[hb2]at e;cases e) (fun k hX=>⟨h0,some mm.blk,by rw[hX,b1];simp,mm,hmm,rfl⟩)
   refine⟨_,_,.inl ⟨e,he,rfl,rfl⟩,ρ,_,.tuple #[.bool true,e1.key,e1.val],.inl (fin _ _ (hnext _ _ ?_)),t2.trans t1,u1,⟨_,rfl,_,_,rfl,rfl,_,_,rfl,RV.stp (t2.trans t1) k1,_,_,rfl,RV.stp (t2.trans t1) v1,rfl⟩⟩
   simp[sC (P:=P) _ hb2]
theorem R6{Q:AV→aL→Prop}{x:Operand}{b mb since c last:Nat}{aQ:List Nat}{es:List kU}(ho:o.op= .next x false)(hx:cH tm (cO x)= .ptr b 0)(hg:aP h b=some (.miter (some mb) since aQ last))
  (hma:gY h mb=some (es,c)) (hcond:(pJ aQ||(pJ es|| !(sL last es)))=true) (hq:∀v h',PF h b mb since aQ c (leftOf aQ es) v h'→Q v h'):mM P E o tm h Q:=by
 intro base nt n r ρ w a K Qx x0 hK
 obtain⟨v,h',hn,q⟩:=UQ (P:=P) ho x0.rt x0.sim hx hg hma hcond
 exact xM (by rw[ho];simp) (by rw[ho];simp) q (fun ρ' w' v' q1 q2 q3=>hK ρ' w' v' v h' (hq v h' hn) q1 q2 q3)
end
end
section
section
variable{P:Program}{E:bE TypeInfo}
variable(T:bE cX)(M:Nat→String→Option (Nat×Option fV))(prev:eL)
variable{base nt n:Nat}{r:Option Nat}{ρ ρ':Ren}{h h':aL}{w w':World}{v:AV}{o:Oper}{a:Act}{tm:PT}
theorem dI.hidden(s:dI E ρ h w)(X:Obj):gQ ρ h w ρ h (w.alloc X)∧dI E ρ h (w.alloc X):=by
 have hold:∀k,k<w.heap.size→(w.alloc X).heap[k]?=w.heap[k]?:=fun k hk=>heap_alloc_old w X k hk
 have stp:gQ ρ h w ρ h (w.alloc X):=⟨fun _ _ e=>e,by simp,fun k hk _=>hold k hk,fun k e=> .inl e,aE _,fun _ _=>rfl,rfl,rfl,rfl,
  fun l r e=>⟨r,by rw[hold l (Array.getElem?_eq_some_iff.1 e).1];exact e,rfl⟩,fun k hk=>hold k (s.old k hk),fun _ e=>e,fun _ e=> .inl e⟩
 refine⟨stp,⟨fun b o hb=> ?_,s.inj,s.fresh,s.ren,fun b m e=>by have:=s.low b m e;simp;omega,s.cold,fun k hk=>by have:=s.old k hk;simp;omega⟩⟩
 obtain⟨m,hm,hor⟩:=s.obj b o hb
 exact⟨m,hm,hor.mono stp.toKeep (hold _ (s.low _ _ hm))⟩
theorem NJ(x:At E base r nt ρ h w tm a)(fn:Nat)(ps:Array Nat)(assign body:Code)(hp:∀t∈ps.toList,t<nt∧t<16000):
  ∃mark w1 ρ1 m,(Instr.enterLoop fn a.tmps ps assign body r).run P w= .ok (m.blk,mark) w1∧ρ1 h.aA=some m∧
   gQ ρ h w ρ1 (xT h (.loop {state:= .ready,pending:=none,tmps:=tm,params:=ps.toList.map aM,assign:=cc E nt assign,body:=cc E nt body})) w1∧
   dI E ρ1 (xT h (.loop {state:= .ready,pending:=none,tmps:=tm,params:=ps.toList.map aM,assign:=cc E nt assign,body:=cc E nt body})) w1∧
   jD base r w1 (dQ ρ1 (xT h (.loop {state:= .ready,pending:=none,tmps:=tm,params:=ps.toList.map aM,assign:=cc E nt assign,body:=cc E nt body}))) (mark++a.defers):=by
 have hnb:xT h (.loop {state:= .ready,pending:=none,tmps:=tm,params:=ps.toList.map aM,assign:=cc E nt assign,body:=cc E nt body})=
   ⟨fS h.t h.aA (some (.loop {state:= .ready,pending:=none,tmps:=tm,params:=ps.toList.map aM,assign:=cc E nt assign,body:=cc E nt body})),h.aA+1⟩:=by cases h;rfl
 rw[hnb]
 have hsz:=x.size
 cases r with
 |none=>
  obtain⟨t1,s1⟩:=x.sim.hidden (.deferred (some []))
  have hrt1:=x.rt.stp t1
  obtain⟨ρ1,t2,s2,hρ⟩:=s1.new (.loop {state:= .ready,pending:=none,tmps:=tm,params:=ps.toList.map aM,assign:=cc E nt assign,body:=cc E nt body})
   (.loop {state:= .ready,pending:=none,fn,tmps:=a.tmps,params:=ps,assign,body,defers:=w.heap.size}) ⟨w.heap.size+1,0,0,false⟩ (by simp)
   (fun ρ' k=>⟨{state:= .ready,pending:=none,fn,tmps:=a.tmps,params:=ps,assign,body,defers:=w.heap.size},by have:=heap_alloc_new (w.alloc (.deferred (some []))) (.loop {state:= .ready,pending:=none,fn,tmps:=a.tmps,params:=ps,assign,body,defers:=w.heap.size});rwa[World.size_alloc]at this,
    ⟨rfl,rfl,fun t ht=>by rw[hsz];exact hp t ht,rfl,by rw[hsz],by rw[hsz],hrt1.mono k,by rw[hsz];exact x.small⟩⟩)
  have hnl:¬dQ ρ h w.heap.size:=by
   rintro⟨b,o,m,hb,hm,e⟩
   have:=x.sim.low b m hm
   omega
  have hd0:(w.alloc (.deferred (some []))).heap[w.heap.size]?=some (.deferred (some [])):=heap_alloc_new w _
  refine⟨_,_,ρ1,⟨w.heap.size+1,0,0,false⟩,run_enterLoop_outer fn a.tmps ps assign body,hρ,t1.trans t2,s2,?_⟩
  refine⟨w.heap.size,rfl,x.low,?_,?_,?_,oE.stp (t1.trans t2) x.frame⟩
  ·rw[t2.keep w.heap.size (by simp) hnl];exact hd0
  ·intro e
   rcases t2.live _ e with e|e
   ·exact hnl e
   ·simp at e;omega
  ·have key:∀(ds:List Deferred),oE base ds w (dQ ρ h)→∀d'∈ds,∀b',d'.target= .collected b'→b'<w.heap.size:=by
    intro ds
    induction ds with
    |nil=>intro _ d' hd';cases hd'
    |cons d ds ih=>
     rintro⟨b,q1,q2,q3,q4,q5,q6⟩ d' hd' b' hb'
     rcases List.mem_cons.1 hd' with rfl|hd'
     ·rw[q1]at hb'
      cases hb'
      exact(Array.getElem?_eq_some_iff.1 q3).1
     ·exact ih q6 d' hd' b' hb'
   exact key a.defers x.frame
 |some l=>
  obtain⟨hds,rec,hrec⟩:=x.frame
  obtain⟨ρ1,t2,s2,hρ⟩:=x.sim.new (.loop {state:= .ready,pending:=none,tmps:=tm,params:=ps.toList.map aM,assign:=cc E nt assign,body:=cc E nt body})
   (.loop {state:= .ready,pending:=none,fn,tmps:=a.tmps,params:=ps,assign,body,defers:=rec.defers}) ⟨w.heap.size,0,0,false⟩ rfl
   (fun ρ' k=>⟨{state:= .ready,pending:=none,fn,tmps:=a.tmps,params:=ps,assign,body,defers:=rec.defers},heap_alloc_new w _,⟨rfl,rfl,fun t ht=>by rw[hsz];exact hp t ht,rfl,by rw[hsz],by rw[hsz],x.rt.mono k,by rw[hsz];exact x.small⟩⟩)
  refine⟨[],_,ρ1,⟨w.heap.size,0,0,false⟩,?_,hρ,t2,s2,?_⟩
  ·unfold Instr.enterLoop
   simp[run_getLoop hrec]
  ·rw[List.nil_append]
   exact jD.stp t2 x.frame
theorem dI.endLoop(s:dI E ρ h w){l:Nat}{r0:yW}{m:HC}{rec rec':Loop}(hg:aP h l=some (.loop r0))(hm:ρ l=some m)(hr:w.heap[m.blk]?=some (.loop rec))(hd:rec'.defers=rec.defers):
  gQ ρ h w ρ (jK h l) (w.putObj m.blk (.loop rec'))∧dI E ρ (jK h l) (w.putObj m.blk (.loop rec')):=by
 have hbn:l<h.aA:=by
  rcases Nat.lt_or_ge l h.aA with hlt|hge
  ·exact hlt
  ·have:=s.fresh l hge;rw[show h.t.get l=_ from hg]at this;cases this
 obtain⟨t1,s1⟩:=s.del l hbn
 have hnl:¬dQ ρ (jK h l) m.blk:=by
  rintro⟨c,o',m',hc,hm',e⟩
  have hget:(jK h l).t.get c=if c=l then none else h.t.get c:=mU _ _ _ c
  rw[hget]at hc
  split at hc
  ·cases hc
  ·rename_i hcl
   exact hcl (s.inj _ _ _ _ _ _ hc hg hm' hm e)
 obtain⟨k,s2⟩:=s1.dead (y:= .loop rec') hr hnl (by simp) (by simp)
 have hlt:=(Array.getElem?_eq_some_iff.1 hr).1
 refine⟨⟨fun _ _ e=>e,by rw[World.putObj_size];exact aE _,fun k0 hk hl=> ?_,t1.live,aE _,fun _ _=>rfl,rfl,rfl,rfl,fun l0 r1 e=> ?_,fun k0 hk=>World.putObj_heap_other (fun e=>s.cold _ _ _ hg hm (e▸hk)),fun _ e=>e,fun _ e=> .inl e⟩,s2⟩
 ·exact World.putObj_heap_other (fun e=>hl ⟨l,_,m,hg,hm,e.symm⟩)
 ·by_cases e':l0=m.blk
  ·subst e'
   rw[hr]at e
   cases e
   exact⟨rec',World.putObj_heap_same hlt,hd⟩
  ·exact⟨r1,by rw[World.putObj_heap_other e'];exact e,rfl⟩
theorem R5{f:Operand}{ps:Array Nat}{assign body:Code}{g:Nat}{first captured:List AV}{R:AV→aL→Prop}{Q:eK→Prop}(hp:∀t∈ps.toList,t<nt∧t<16000)
  (hX:cH tm (cO f)= .func (.func g) first captured)
  (hf:gW P E g (first++([.func (.yield h.aA) [] []]++captured)) (xT h (.loop {state:= .ready,pending:=none,tmps:=tm,params:=ps.toList.map aM,assign:=cc E nt assign,body:=cc E nt body})) R)
  (hq:∀v h2,R v h2→∃res,sO h.aA tm h2 (aP h2 h.aA)=res∧res≠ .fail∧Q res) (x:At E base r nt ρ h w tm a):
  (Code.rangeFunc f ps assign body).wpIn (Fc r) n P (vS E base r nt ρ h w Q) a w:=by
 refine wpIn_rangeFunc (F:=Fc r) (fun fn _=> ?_)
 obtain⟨mark,w1,ρ1,m,k1,k2,k3,k4,k5⟩:=NJ (P:=P) x fn ps assign body hp
 have hfv:=RV.stp k3 (bY x.rt f)
 rw[hX]at hfv
 generalize xT h (.loop {state:= .ready,pending:=none,tmps:=tm,params:=ps.toList.map aM,assign:=cc E nt assign,body:=cc E nt body})=h1 at hf k3 k4 k5 hfv
 obtain⟨fn',f',c',hu,hf',hc',hfn⟩:=hfv
 have hfn:fn'= .func g:=hfn
 subst hfn
 have hargs:dH ρ1 w1 (first++([.func (.yield h.aA) [] []]++captured)) (f'++ #[Value.func (.yield m.blk) #[] #[]]++c').toList:=by
  rw[Array.toList_append,Array.toList_append,List.append_assoc]
  exact hf'.append (dH.append ⟨_,[],rfl,⟨.yield m.blk,#[],#[],rfl,rfl,rfl,m,k2,rfl⟩,rfl⟩ hc')
 rcases hf r (n-1) ρ1 w1 _ k4 (x.glob.stp k3) hargs with⟨c1,c2⟩|⟨v,v',_,_,c1,c2,_,_,c3,s0,c0,hsh⟩
 ·refine⟨m.blk,mark,w1,{target:= .fn (.func g) c',args:=f'++ #[.func (.yield m.blk) #[] #[]]},w1,g,_,w1,k1,?_,fun _ _=>trivial,?_,fun hh=>(by cases hh),CallsIn.mono c2 ?_⟩
  ·simp only[resolve,hu]
   simp[Deferred.ofValue,Act.eval]
  ·simp[invoke]
   simpa using c1
  ·intro e' w2 he'
   cases e' with
   |panicked c=>exact he'.elim
   |outgrown=>exact he'.elim
   |returned v2=>
    obtain⟨v,h2,hR,ρ2,t1,t2,t3⟩:=he'
    obtain⟨res,e,hx,hQ⟩:=hq v h2 hR
    cases hg2:aP h2 h.aA with
    |none=>rw[hg2]at e;exact absurd e.symm hx
    |some ob=>
     cases ob with
     |loop r2=>
      rw[hg2]at e
      simp only[sO,bN]at e
      split at e
      case isTrue=>exact absurd e.symm hx
      rename_i hbusy
      have hm2:ρ2 h.aA=some m:=t1.ext _ _ k2
      obtain⟨rec2,hrec2,hlr2⟩:=pG t2 hg2 hm2
      have hnb:rec2.state≠ .busy:=by
       rw[hlr2.state]
       intro h3
       rw[h3]at hbusy
       simp[HO]at hbusy
      obtain⟨y1,y2⟩:=t2.endLoop (rec':={rec2 with state:= .exhausted}) hg2 hm2 hrec2 rfl
      have tall:=(k3.trans t1).trans y1
      have hdone:ES E base r nt ρ h w tm (jK h2 h.aA) {a with defers:=mark++a.defers} (w2.putObj m.blk (.loop {rec2 with state:= .exhausted})):=
       ⟨ρ2,tall,y2,x.rt.stp tall,x.size,(k5.stp t1).stp y1⟩
      have hend:=run_endLoop (P:=P) hrec2 hnb
      generalize w2.putObj m.blk (.loop {rec2 with state:= .exhausted})=W at hend hdone
      refine⟨rec2.pending,W,hend,?_⟩
      have hpend:=hlr2.pend
      cases hj:r2.pending with
      |none=>
       rw[hj]at hpend e
       have hpend:rec2.pending=none:=hpend
       rw[hpend]
       have e:eK.norm tm (jK h2 h.aA)=res:=e
       subst e
       exact⟨_,hQ,rfl,hdone⟩
      |some j=>
       cases j with
       |ret=>
        rw[hj]at hpend e
        have hpend:rec2.pending=some .ret:=hpend
        rw[hpend]
        have e:eK.ret tm (jK h2 h.aA)=res:=e
        subst e
        exact wpIn_ret ⟨_,hQ,rfl,hdone⟩
       |exit id=>
        rw[hj]at hpend e
        have hpend:rec2.pending=some (.exit id):=hpend
        rw[hpend]
        have e:eK.exit id tm (jK h2 h.aA)=res:=e
        subst e
        exact wpIn_exit ⟨_,hQ,rfl,hdone⟩
     |_=>rw[hg2]at e;exact absurd e.symm hx
 ·exfalso
  cases first with
  |nil=>simp at hsh
  |cons y1 first=>
   cases first with
   |nil=>simp at hsh
   |cons y2 first=>simp at hsh
end
end
section
def yS(a:fC)(t t':PT):Prop:=∀c,c∈rI a→cH t c=cH t' c
theorem yS.refl(a:fC)(t:PT):yS a t t:=fun _ _=>rfl
theorem jI{t t':PT}:∀{l:List CO},(∀c,c∈l→cH t c=cH t' c)→fY t l=fY t' l
 | [],_=>rfl
 |x::l,h=>by simp only[fY,h x (by simp),jI (l:=l) (fun c hc=>h c (by simp[hc]))]
theorem uP{t t':PT}{x:Option CO}(h:∀c,c∈x.toList→cH t c=cH t' c):xS t x=xS t' x:=by
 cases x with
 |none=>rfl
 |some x=>simp only[xS,h x (by simp)]
theorem qD{t t':PT}:∀{ps:List (Nat×Nat×CO)} (cells:List AV),(∀c,c∈ps.map (·.2.2)→cH t c=cH t' c)→iR t cells ps=iR t' cells ps
 | [],_,_=>rfl
 |(off,size,o)::rest,cells,h=>by
  simp only[iR,h o (by simp)]
  cases FW cells off size (aK (cH t' o))with
  |none=>rfl
  |some c=>exact qD c (fun x hx=>h x (by simp only[List.map_cons,List.mem_cons];exact .inr hx))
section
variable(T:bE cX)(M:Nat→String→Option (Nat×Option fV))
theorem nD{a:fC}{t t':PT}(h:aL)(g:yS a t t'):fZ T M t h a=fZ T M t' h a:=by
 unfold fZ
 cases a<;>simp only[yS,rI]at g<;>simp only[act]
 case build z ps=>rw[qD z g]
 case bslice z n ps=>rw[qD z g]
 case mkFunc fn f c=>rw[jI (fun x hx=>g x (by simp[hx])),jI (fun x hx=>g x (by simp[hx]))]
 case slice k x lo hi mx=>rw[g x (by simp),uP (fun c hc=>g c (by simp[hc])),uP (fun c hc=>g c (by simp at hc;simp[hc])),uP (fun c hc=>g c (by simp at hc;simp[hc]))]
 case call c args=>
  have ha:fY t args=fY t' args:=jI (fun x hx=>g x (by simp[hx]))
  rw[ha]
  cases c<;>simp only[LN]
  case value f=>rw[g f (by simp)]
  case invoke r nm=>rw[g r (by simp)]
 all_goals simp only[List.mem_cons,List.not_mem_nil,or_false,forall_eq_or_imp,forall_eq]at g
 all_goals first|rfl|(simp only[g])
def lI:fC→Bool
 | .alloc _=>true
 | .box _=>true
 | .bslice .. =>true
 | .mkMap=>true
 | .mkSlice .. =>true
 |_=>false
theorem G4(x:Option AV):(∃v,∀h,cF h x= .ok v h)∨(∀h,cF h x= .bad):=by
 cases x with
 |none=>exact .inr fun _=>rfl
 |some v=>exact .inl ⟨v,fun _=>rfl⟩
theorem UO(x:Option Nat):(∃v,∀h,HE h x= .ok v h)∨(∀h,HE h x= .bad):=by
 cases x with
 |none=>exact .inr fun _=>rfl
 |some v=>exact .inl ⟨i64 v,fun _=>rfl⟩
theorem C7{a:fC}(hc:wX a= .plain)(ha:lI a=false)(t:PT):(∃v,∀h,fZ T M t h a= .ok v h)∨(∀h,fZ T M t h a= .bad):=by
 unfold fZ
 cases a<;>simp only[wX,reduceCtorEq,lI]at hc ha<;>simp only[act]
 case call c args=>
  cases c<;>simp only[qS,reduceCtorEq]at hc<;>simp only[LN]
  case len k=>
   cases k<;>simp only[qS,reduceCtorEq]at hc
   all_goals
    match fY t args with
    | []=>exact .inr fun _=>rfl
    |_::_::_=>exact .inr fun _=>rfl
    | [x]=>first|exact .inl ⟨_,fun _=>rfl⟩|exact UO _
  case cap=>
   match fY t args with
   | []=>exact .inr fun _=>rfl
   |_::_::_=>exact .inr fun _=>rfl
   | [x]=>
    show(∃v,∀h,SR h x= .ok v h)∨_
    cases x<;>first|exact .inr fun _=>rfl|exact .inl ⟨_,fun _=>rfl⟩|skip
    ·rename_i b off len cap kind
     cases kind with
     |zero=>exact .inl ⟨_,fun _=>rfl⟩
     |succ k=>exact .inr fun _=>rfl
    ·rename_i l len cap ex
     cases ex with
     |true=>exact .inl ⟨_,fun _=>rfl⟩
     |false=>exact .inr fun _=>rfl
  case max=>exact G4 _
  case min=>exact G4 _
 all_goals first|exact G4 _|exact .inl ⟨_,fun _=>rfl⟩
theorem R3{a:fC}(ha:lI a=true)(t:PT):(∃o f,MN f∧∀h,fZ T M t h a=eY h o f)∨(∀h,fZ T M t h a= .bad):=by
 unfold fZ
 cases a<;>simp only[lI,reduceCtorEq]at ha<;>simp only[act]
 case alloc z=>exact .inl ⟨_,_,.ptr,fun _=>rfl⟩
 case box x=>
  unfold N9
  cases aZ (aK (cH t x))with
  |false=>exact .inr fun _=>rfl
  |true=>exact .inl ⟨_,_,.ptr,fun _=>rfl⟩
 case bslice z n ps=>
  cases iR t z ps with
  |none=>exact .inr fun _=>rfl
  |some l=>
   show(∃o f,MN f∧∀h,(bif aZ l then eY h (.cells l) (sl1 n n)else .bad)=eY h o f)∨(∀h,(bif aZ l then eY h (.cells l) (sl1 n n)else .bad)= .bad)
   cases aZ l with
   |false=>exact .inr fun _=>rfl
   |true=>exact .inl ⟨_,_,.sl1 n n,fun _=>rfl⟩
 case mkMap=>exact .inl ⟨_,_,.map,fun _=>rfl⟩
 case mkSlice z l c=>
  cases bB (cH t l)with
  |none=>exact .inr fun _=>rfl
  |some l'=>
   cases bB (cH t c)with
   |none=>exact .inr fun _=>rfl
   |some c'=>
    show(∃o f,MN f∧∀h,(bif Nat.ble l' c' then kX h c' (rP c' z) (sl1 l' c')else .bad)=eY h o f)∨(∀h,(bif Nat.ble l' c' then kX h c' (rP c' z) (sl1 l' c')else .bad)= .bad)
    cases Nat.ble l' c' with
    |false=>exact .inr fun _=>rfl
    |true=>
     simp only[cond_true,kX]
     cases Nat.blt c' 16777216 with
     |false=>exact .inr fun _=>rfl
     |true=>exact .inl ⟨_,_,.sl1 l' c',fun _=>rfl⟩
theorem UP{h h':aL}{x:Option AV}{v:AV}(e:cF h x= .ok v h'):h'=h:=by cases x<;>cases e;rfl
theorem R4{a:fC}(hc:wX a= .read){t:PT}{h h':aL}{v:AV}(e:fZ T M t h a= .ok v h'):h'=h:=by
 unfold fZ at e
 cases a<;>simp only[wX,reduceCtorEq]at hc<;>simp only[act]at e
 case call c args=>
  cases c<;>simp only[qS,reduceCtorEq]at hc
  rename_i k
  cases k<;>simp only[qS,reduceCtorEq]at hc
  simp only[LN]at e
  match hx:fY t args with
  | []=>rw[hx]at e;cases e
  |_::_::_=>rw[hx]at e;cases e
  | [x]=>
   rw[hx]at e
   have e:HE h (HG h x)= .ok v h':=e
   cases hl:HG h x with
   |none=>rw[hl]at e;cases e
   |some n=>rw[hl]at e;cases e;rfl
 all_goals exact UP e
end
end
section
section
variable{P:Program}{E:bE TypeInfo}(hE:∀t i,E.get t=some i→P.info? t=some i)(T:bE cX)(M:Nat→String→Option (Nat×Option fV))
variable{ρ:Ren}{h h':aL}{w:World}{v:AV}{o:Oper}{a:Act}{tm:PT}
theorem R2{o o':AO}{f f':Nat→AV}(hf:MN f)(hf':MN f')(e:eY h o f=eY h o' f'):o=o'∧f=f':=by
 obtain⟨t,n⟩:=h
 have e:R.ok (f n) ⟨fS t n (some o),n+1⟩=R.ok (f' n) ⟨fS t n (some o'),n+1⟩:=e
 simp only[R.ok.injEq,aL.mk.injEq,and_true]at e
 have:=congrArg (fun t=>bE.get t n) e.2
 simp only[bE.get_tset,if_true,aF]at this
 exact⟨this,hf.eq hf' e.1⟩
include hE in
theorem Z8{ob:AO}{f:Nat→AV}(ha:lI (cJ E o.op)=true)(hf:MN f)(e:fZ T M tm h (cJ E o.op)=eY h ob f)(ht:RT ρ w tm a.tmps)(s:dI E ρ h w):
  aBg E ((execOp a.eval o).run P w) ρ w ob f:=by
 have key:∀{v h'},fZ T M tm h (cJ E o.op)= .ok v h'→lC E ((execOp a.eval o).run P w) ρ h w v h':=by
  intro v h' e
  unfold fZ at e
  cases ho:o.op with
  |alloc t=>rw[ho]at e;exact FQ hE T M iY ho s e
  |box t x=>rw[ho]at e;exact PM T M iY ho ht s e
  |buildSlice t n ps=>exact DG hE T M iY ho ht s e
  |makeMap t r=>
   cases r with
   |none=>rw[ho]at e;exact FM T M iY ho s e
   |some r=>rw[ho]at ha;cases ha
  |makeSlice t l c=>exact yV hE T M iY ho ht s e
  |makeFunc fn f c=>rw[ho]at ha;cases fn<;>cases ha
  |convert sr d x=>
   rw[ho]at ha
   simp only[cJ]at ha
   split at ha
   ·cases ha
   ·rename_i el _ _
    cases hu:LR E el<;>rw[hu]at ha<;>cases ha
   ·cases ha
   ·rename_i el _ _
    cases hu:LR E el<;>rw[hu]at ha<;>cases ha
   ·cases ha
  |makeInterface t x=>rw[ho]at ha;simp only[cJ]at ha;split at ha<;>cases ha
  |indexAddr t x i=>
   rw[ho]at ha;simp only[cJ]at ha
   split at ha
   ·rename_i n el _;cases hs:sizeOf E el<;>rw[hs]at ha<;>cases ha
   ·rename_i el _;cases hs:sizeOf E el<;>rw[hs]at ha<;>cases ha
   ·cases ha
  |index t x i=>
   rw[ho]at ha;simp only[cJ]at ha
   split at ha
   ·rename_i n el _;cases hs:sizeOf E el<;>cases hd:mV E el<;>rw[hs,hd]at ha<;>cases ha
   ·cases ha
   ·cases ha
  |range t x=>rw[ho]at ha;simp only[cJ]at ha;split at ha<;>cases ha
  |typeAssert x xt t ok=>rw[ho]at ha;simp only[cJ]at ha;split at ha<;>cases ha
  |sliceToArrayPointer t x=>rw[ho]at ha;simp only[cJ]at ha;split at ha<;>cases ha
  |build t ps=>rw[ho]at ha;simp only[cJ]at ha;cases hz:iH E t<;>cases hs:aAw E t ps<;>rw[hz,hs]at ha<;>cases ha
  |load t x=>rw[ho]at ha;simp only[cJ]at ha;cases hz:kQ E t 0<;>rw[hz]at ha<;>cases ha
  |store t x y=>rw[ho]at ha;simp only[cJ]at ha;cases hz:sizeOf E t<;>rw[hz]at ha<;>cases ha
  |slice t x lo hi mx=>rw[ho]at ha;simp only[cJ]at ha;cases hz:slK E t hi.isSome mx.isSome<;>rw[hz]at ha<;>cases ha
  |field t x f=>rw[ho]at ha;simp only[cJ]at ha;cases hz:sS E t f with
   |none=>rw[hz]at ha;cases ha
   |some fd=>rw[hz]at ha;simp only[Option.bind_some]at ha;cases hc:kQ E fd.type fd.offset<;>rw[hc]at ha<;>cases ha
  |fieldAddr t x f=>rw[ho]at ha;simp only[cJ]at ha;cases hz:sS E t f with
   |none=>rw[hz]at ha;cases ha
   |some fd=>
    rw[hz]at ha;simp only[Option.bind_some]at ha
    cases hc:sizeOf E fd.type with
    |none=>rw[hc]at ha;cases ha
    |some n=>rw[hc]at ha;simp only[Option.bind_some]at ha;cases hn:n.beq 0<;>rw[hn]at ha<;>cases ha
  |lookup t x k ok=>rw[ho]at ha;simp only[cJ]at ha;cases hz:sR E t<;>cases hs:y3 E t<;>rw[hz,hs]at ha<;>cases ha
  |mapUpdate t m k x=>rw[ho]at ha;simp only[cJ]at ha;cases hz:sR E t<;>rw[hz]at ha<;>cases ha
  |insert t m k x=>rw[ho]at ha;simp only[cJ]at ha;cases hz:sR E t<;>rw[hz]at ha<;>cases ha
  |mapEntry t m k=>rw[ho]at ha;simp only[cJ]at ha;cases hz:sR E t<;>cases hs:y3 E t<;>rw[hz,hs]at ha<;>cases ha
  |_=>rw[ho]at ha;cases ha
 have h0:eY h ob f= .ok (f h.aA) ⟨fS h.t h.aA (some ob),h.aA+1⟩:=by cases h;rfl
 rw[h0]at e
 obtain⟨o',f',hf',e',q⟩:=key e
 rw[←h0]at e'
 obtain⟨rfl,rfl⟩:=R2 hf' hf e'
 exact q
end
end
section
section
variable(E:bE TypeInfo)(nt:Nat)
abbrev Pl:=Nat×EN
noncomputable def lA(l:List Pl):Nat:=(l.filter fun z=>iJ E z.2.op).length
def lB(z:Pl):Option bH:=(qR nt z.2.op.dst).bind id
noncomputable def C4(ops:List Oper)(z:Pl):List bH:=looks (mA nt ops z.2.op.guard) (cJ E z.2.op.op)
structure C5(ops:List Oper)(pl:List Pl):Prop where
 op:∀z,z∈pl→ops[z.2.at_]?=some z.2.op
 all:∀i o,ops[i]?=some o→∃z,z∈pl∧z.2.at_=i
 given:∀z,z∈pl→∃g d,mA nt ops z.2.op.guard=some g∧qR nt z.2.op.dst=some d
 direct:∀z,z∈pl→∀e,e∈z.2.op.after→Region.binds .any e=true→z.2.mask.testBit e.on=true∧e.on<ops.length
 mask:∀z,z∈pl→∀y,y∈pl→z.2.mask.testBit y.2.at_=true→∃e,e∈z.2.op.after∧Region.binds .any e=true∧(e.on=y.2.at_∨∃x,x∈pl∧x.2.at_=e.on∧x.2.mask.testBit y.2.at_=true)
 fits:∀z,z∈pl→∀y,y∈pl→∀d,lB nt y=some d→d∈C4 E nt ops z→z.2.mask.testBit y.2.at_=true∨y.2.mask.testBit z.2.at_=true∨z.2.at_=y.2.at_
 uniq:∀z,z∈pl→∀y,y∈pl→∀d,lB nt z=some d→lB nt y=some d→z.2.at_=y.2.at_
 num:∀l1 z l2,pl=l1++z::l2→z.1=lA E l1
 once:∀l1 z l2,pl=l1++z::l2→∀y,y∈l1→y.2.at_≠z.2.at_
 topo:∀l1 z l2,pl=l1++z::l2→∀y,y∈pl→z.2.mask.testBit y.2.at_=true→∃x,x∈l1∧x.2.at_=y.2.at_
 eff:∀l1 z l2,pl=l1++z::l2→iJ E z.2.op=true→∀y,y∈l1→z.2.mask.testBit y.2.at_=true
theorem tM:∀{p q:bH},lG p q=true↔p=q
 | [],[]=>by simp[lG]
 | [],_::_=>by simp[lG]
 |true::_,[]=>by simp[lG]
 |false::_,[]=>by simp[lG]
 |true::p,true::q=>by simp[lG,tM (p:=p) (q:=q)]
 |false::p,false::q=>by simp[lG,tM (p:=p) (q:=q)]
 |true::p,false::q=>by simp[lG]
 |false::p,true::q=>by simp[lG]
theorem C6{ops:List Oper}{x:EN}(h:x∈kY ops):ops[x.at_]?=some x.op:=by
 unfold kY idx at h
 obtain⟨y,hy,rfl⟩:=List.mem_map.1 h
 obtain⟨i,m,o⟩:=y
 have h1:=List.of_mem_zip hy
 obtain⟨k,hk,hk2⟩:=List.getElem_of_mem hy
 simp only[List.getElem_zip,List.getElem_range,Prod.mk.injEq]at hk2
 obtain⟨rfl,-,h3⟩:=hk2
 simp only
 have hlen:k<ops.length:=by
  simp at hk
  omega
 rw[aC hlen,h3]
theorem FF:∀(l:List Oper) (ms:List Nat),(wK l ms).length=l.length+ms.length
 | [],ms=>by simp[wK]
 |o::l,ms=>by rw[wK,FF l];simp;omega
theorem RY{ops:List Oper}{i:Nat}{o:Oper}(h:ops[i]?=some o):∃x,x∈kY ops∧x.at_=i:=by
 have hi:=(aD.1 h).1
 have hm:(wK ops []).length=ops.length:=by rw[FF];simp
 unfold kY idx
 have hz:((wK ops []).reverse.zip ops).length=ops.length:=by simp[hm]
 have hlen:i<((List.range ((wK ops []).reverse.zip ops).length).zip ((wK ops []).reverse.zip ops)).length:=by simp[hm,hi]
 refine⟨_,List.mem_map.2 ⟨_,List.getElem_mem hlen,rfl⟩,?_⟩
 simp
theorem FG:∀{ds left:List EN} {n:Nat} {z:Pl},z∈P8 ds left n→z.2∈ds∨z.2∈left
 | [],left,n,z,h=>by
  obtain⟨x,hx,rfl⟩:=List.mem_map.1 h
  exact .inr hx
 |d::ds,left,n,z,h=>by
  simp only[P8,List.mem_append,List.mem_map,List.mem_cons]at h
  rcases h with⟨x,hx,rfl⟩|rfl|h
  ·exact .inr (List.mem_filter.1 hx).1
  ·exact .inl (by simp)
  ·rcases FG h with h|h
   ·exact .inl (by simp[h])
   ·exact .inr ((List.mem_filter.1 h).1)
theorem d6{ops:List Oper}{z:Pl}(h:z∈bM E ops):z.2∈kY ops:=by
 rcases FG h with h|h
 ·exact(List.mem_filter.1 h).1
 ·exact(List.mem_filter.1 h).1
theorem UN:lA E []=0:=rfl
theorem jR(l m:List Pl):lA E (l++m)=lA E l+lA E m:=by simp[lA]
theorem pF(z:Pl):lA E [z]=if iJ E z.2.op=true then 1 else 0:=by
 unfold lA
 by_cases h:iJ E z.2.op=true
 ·rw[if_pos h];simp[h]
 ·rw[if_neg h];simp[h]
theorem yR{all:List EN}:∀{l:List Pl} {pre:List Nat} {k:Nat},xZ E all pre k l=true→∀l1 z l2,l=l1++z::l2→
  z.1=k+lA E l1∧(∀i,i∈pre→i≠z.2.at_)∧(∀y,y∈l1→y.2.at_≠z.2.at_)∧(∀y,y∈all→z.2.mask.testBit y.at_=true→y.at_∈pre∨∃x,x∈l1∧x.2.at_=y.at_)∧
  (iJ E z.2.op=true→(∀i,i∈pre→z.2.mask.testBit i=true)∧∀y,y∈l1→z.2.mask.testBit y.2.at_=true)
 | [],_,_,_,l1,z,l2,e=>by simp at e
 |(n,x)::l,pre,k,h,l1,z,l2,e=>by
  simp only[xZ,aI,beq_eq]at h
  obtain⟨⟨⟨h1,h2⟩,h3⟩,h4⟩:=h
  cases l1 with
  |nil=>
   simp only[List.nil_append,List.cons.injEq]at e
   obtain⟨rfl,rfl⟩:=e
   refine⟨by simpa[UN]using h1,fun i hi he=> ?_,fun y hy=>by simp at hy,fun y hy hm=> ?_,fun he=> ?_⟩
   ·simp only[Bool.not_eq_true',List.any_eq_false,beq_eq]at h2
    exact h2 i hi he
   ·have:=List.all_eq_true.1 h3 y hy
    simp only[hm,Bool.not_true,Bool.false_or,List.any_eq_true,beq_eq]at this
    obtain⟨i,hi,hie⟩:=this
    exact .inl (hie▸hi)
   ·simp only at he
    rw[he]at h4
    simp only[cond_true,aI]at h4
    exact⟨fun i hi=>List.all_eq_true.1 h4.1 i hi,fun y hy=>by simp at hy⟩
  |cons y l1=>
   simp only[List.cons_append,List.cons.injEq]at e
   obtain⟨rfl,rfl⟩:=e
   have h5:∃k',xZ E all (x.at_::pre) k' (l1++z::l2)=true∧k'=k+lA E [(n,x)]:=by
    rw[pF]
    cases he:iJ E x.op with
    |true=>rw[he]at h4;simp only[cond_true,aI]at h4;exact⟨_,h4.2,by simp⟩
    |false=>rw[he]at h4;simp only[cond_false]at h4;exact⟨_,h4,by simp⟩
   obtain⟨k',h5,hk'⟩:=h5
   obtain⟨q1,q2,q3,q4,q5⟩:=yR h5 l1 z l2 rfl
   refine⟨?_,fun i hi=>q2 i (by simp[hi]),fun y hy=> ?_,fun y hy hm=> ?_,fun he=>⟨fun i hi=>(q5 he).1 i (by simp[hi]),fun y hy=> ?_⟩⟩
   ·rw[q1,hk',show(n,x)::l1= [(n,x)]++l1 from rfl,jR];omega
   ·rcases List.mem_cons.1 hy with rfl|hy
    ·exact q2 _ (by simp)
    ·exact q3 y hy
   ·rcases q4 y hy hm with h|⟨w,hw,hwe⟩
    ·rcases List.mem_cons.1 h with h|h
     ·exact .inr ⟨(n,x),by simp,h.symm⟩
     ·exact .inl h
    ·exact .inr ⟨w,by simp[hw],hwe⟩
   ·rcases List.mem_cons.1 hy with rfl|hy
    ·exact(q5 he).1 _ (by simp)
    ·exact(q5 he).2 y hy
theorem NI{z:Pl}{d:bH}(h:lB nt z=some d):qR nt z.2.op.dst=some (some d):=by
 unfold lB at h
 cases hd:qR nt z.2.op.dst with
 |none=>rw[hd]at h;cases h
 |some y=>
  rw[hd]at h
  simp only[Option.bind_some,id]at h
  rw[h]
theorem RZ{ops:List Oper}(h:D2 E nt ops=true):C5 E nt ops (bM E ops):=by
 unfold D2 at h
 rw[aI]at h
 obtain⟨h1,h2⟩:=h
 have h1:∀x,x∈kY ops→given nt ops x=true∧ahead ops (kY ops) x=true∧fits E nt ops (kY ops) x=true∧(bM E ops).any (fun y=>Nat.beq y.2.at_ x.at_)=true:=fun x hx=>by
  have:=List.all_eq_true.1 h1 x hx
  simpa[and_assoc]using this
 have inS:∀x,x∈kY ops→∃z,z∈bM E ops∧z.2.at_=x.at_:=fun x hx=>by
  obtain⟨z,hz,he⟩:=List.any_eq_true.1 (h1 x hx).2.2.2
  exact⟨z,hz,beq_eq.1 he⟩
 have sp:=yR (E:=E) h2
 refine⟨fun z hz=>C6 (d6 E hz),fun i o hi=> ?_,fun z hz=> ?_,fun z hz e he hb=> ?_,fun z hz y hy hm=> ?_,fun z hz y hy d hd hl=> ?_,fun z hz y hy d hd hd'=> ?_,fun l1 z l2 e=> ?_,fun l1 z l2 e=>(sp l1 z l2 e).2.2.1,fun l1 z l2 e y hy hm=> ?_,fun l1 z l2 e he=>((sp l1 z l2 e).2.2.2.2 he).2⟩
 ·obtain⟨x,hx,rfl⟩:=RY hi
  exact inS x hx
 ·have:=(h1 z.2 (d6 E hz)).1
  unfold given at this
  rw[aI,Option.isSome_iff_exists,Option.isSome_iff_exists]at this
  obtain⟨⟨g,hg⟩,⟨d,hd⟩⟩:=this
  exact⟨g,d,hg,hd⟩
 ·have:=(h1 z.2 (d6 E hz)).2.1
  unfold ahead at this
  rw[aI]at this
  have:=List.all_eq_true.1 this.1 e (Array.mem_toList_iff.2 he)
  rw[hb]at this
  simpa[blt_eq]using this
 ·have:=(h1 z.2 (d6 E hz)).2.1
  unfold ahead at this
  rw[aI]at this
  have:=List.all_eq_true.1 this.2 y.2 (d6 E hy)
  rw[hm]at this
  simp only[Bool.not_true,Bool.false_or,List.any_eq_true,aI,Bool.or_eq_true,beq_eq]at this
  obtain⟨e,he,hb,h3⟩:=this
  refine⟨e,Array.mem_toList_iff.1 he,hb,h3.imp id ?_⟩
  rintro⟨x,hx,hx1,hx2⟩
  obtain⟨x',hx',hxe⟩:=inS x hx
  refine⟨x',hx',by rw[hxe,hx1],?_⟩
  have e1:=C6 hx
  have e2:=C6 (d6 E hx')
  have same:∀{a b:EN},a∈kY ops→b∈kY ops→a.at_=b.at_→a.mask=b.mask:=by
   intro a b ha hb hab
   unfold kY idx at ha hb
   obtain⟨ya,hya,rfl⟩:=List.mem_map.1 ha
   obtain⟨yb,hyb,rfl⟩:=List.mem_map.1 hb
   obtain⟨ka,hka,rfl⟩:=List.getElem_of_mem hya
   obtain⟨kb,hkb,rfl⟩:=List.getElem_of_mem hyb
   simp only[List.getElem_zip,List.getElem_range]at hab
   subst hab
   rfl
  rw[same (d6 E hx') hx hxe]
  exact hx2
 ·have:=(h1 z.2 (d6 E hz)).2.2.1
  unfold fits at this
  have:=List.all_eq_true.1 this y.2 (d6 E hy)
  rw[NI nt hd]at this
  simp only[aI,Bool.or_eq_true,beq_eq,Bool.not_eq_true']at this
  rcases this.1 with((h|h)|h)|h
  ·exact .inl h
  ·exact .inr (.inl h)
  ·exact .inr (.inr h)
  ·exfalso
   have h:=List.any_eq_false.1 h d hl
   exact h (tM.2 rfl)
 ·have:=(h1 z.2 (d6 E hz)).2.2.1
  unfold fits at this
  have:=List.all_eq_true.1 this y.2 (d6 E hy)
  rw[NI nt hd',NI nt hd]at this
  simp only[aI,Bool.or_eq_true,beq_eq,Bool.not_eq_true']at this
  rcases this.2 with h|h
  ·exact h
  ·rw[tM.2 rfl]at h;cases h
 ·have:=(sp l1 z l2 e).1
  omega
 ·rcases(sp l1 z l2 e).2.2.2.1 y.2 (d6 E hy) hm with h|h
  ·cases h
  ·exact h
end
end
section
section
variable{P:Program}{E:bE TypeInfo}{ρ ρ':Ren}{h h':aL}{w w':World}
theorem dI.adopt(s:dI E ρ h w){id:Nat}{m:HC}{o:AO}(hm:ρ id=some m)(hlt:id<h.aA)(hO:OR ρ w E m o)(hl:¬dQ ρ h m.blk)(hf:¬ρ.F m.blk):
  dI E ρ ⟨fS h.t id (some o),h.aA⟩ w:=by
 have hget:∀c,(fS h.t id (some o)).get c=if c=id then some o else h.t.get c:=fun c=>bE.get_tset _ _ _ c
 refine⟨?_,?_,?_,s.ren,s.low,?_,s.old⟩
 ·intro b o' hb
  simp only[hget]at hb
  split at hb
  ·rename_i e;subst e;cases hb;exact⟨m,hm,hO⟩
  ·exact s.obj b o' hb
 ·intro b b' o1 o2 m1 m2 h1 h2 r1 r2 e
  simp only[hget]at h1 h2
  split at h1<;>split at h2
  ·rename_i e1 e2;rw[e1,e2]
  ·rename_i e1 e2
   exfalso;subst e1;rw[hm]at r1;cases r1;exact hl ⟨_,_,_,h2,r2,e.symm⟩
  ·rename_i e1 e2
   exfalso;subst e2;rw[hm]at r2;cases r2;exact hl ⟨_,_,_,h1,r1,e⟩
  ·exact s.inj _ _ _ _ _ _ h1 h2 r1 r2 e
 ·intro b hb
  have hb:h.aA≤b:=hb
  simp only[hget]
  rw[if_neg (by omega)]
  exact s.fresh b hb
 ·intro b o' m' hb e hF
  simp only[hget]at hb
  split at hb
  ·rename_i e';subst e';rw[hm]at e;cases e;exact hf hF
  ·exact s.cold b o' m' hb e hF
theorem NG{id:Nat}{m:HC}{o:AO}(hm:ρ id=some m){k:Nat}(hk:dQ ρ ⟨fS h.t id (some o),h.aA⟩ k):dQ ρ h k∨k=m.blk:=by
 obtain⟨b,o',m',hb,hm',rfl⟩:=hk
 simp only[bE.get_tset]at hb
 split at hb
 ·rename_i e;subst e;rw[hm]at hm';cases hm';exact .inr rfl
 ·exact .inl ⟨b,o',m',hb,hm',rfl⟩
theorem jD.mono{base:Nat}{r:Option Nat}{L L':Nat→Prop}(hk:∀b,b<w.heap.size→¬L b→w'.heap[b]?=w.heap[b]?∧¬L' b)
  (hl:∀(l:Nat) (rec:Loop),w.heap[l]?=some (.loop rec)→∃rec':Loop,w'.heap[l]?=some (.loop rec')) {ds:List Deferred} (f:jD base r w L ds):jD base r w' L' ds:=by
 cases r with
 |none=>
  have key:∀(ds:List Deferred),oE base ds w L→oE base ds w' L':=by
   intro ds
   induction ds with
   |nil=>exact fun _=>trivial
   |cons d ds ih=>
    rintro⟨b,h1,h2,h3,h4,h5,h6⟩
    obtain⟨q1,q2⟩:=hk b (Array.getElem?_eq_some_iff.1 h3).1 h4
    exact⟨b,h1,h2,by rw[q1];exact h3,q2,h5,ih h6⟩
  exact key ds f
 |some l=>
  obtain⟨h1,rec,h2⟩:=f
  exact⟨h1,hl l rec h2⟩
end
section
variable(P:Program)(E:bE TypeInfo)(T:bE cX)(M:Nat→String→Option (Nat×Option fV))(ops:Array Oper)(nt base:Nat)
def nC:List Pl→List aL→PT→aL→(eK→Prop)→Prop
 | [],_,t,h,Q=>Q (.norm t h)
 |z::rest,hist,t,h,Q=>
  match wX (dJ E nt ops.toList z.2.op).act with
  | .plain=>(wanted t (dJ E nt ops.toList z.2.op).guard=true∧∃v h1,fZ T M t ⟨h.t,base+z.2.at_⟩ (dJ E nt ops.toList z.2.op).act= .ok v h1∧nC rest hist (put t v (dJ E nt ops.toList z.2.op).dst) ⟨h1.t,h.aA⟩ Q)∨
    (wanted t (dJ E nt ops.toList z.2.op).guard=false∧xX t (dJ E nt ops.toList z.2.op).guard=true∧nC rest hist (put t bS (dJ E nt ops.toList z.2.op).dst) h Q)
  | .read=>(wanted t (dJ E nt ops.toList z.2.op).guard=true∧∃v,(∀k,k≤z.1-nP E (bM E ops.toList) z.2→∃hk h1,hist[k]?=some hk∧fZ T M t hk (dJ E nt ops.toList z.2.op).act= .ok v h1)∧nC rest hist (put t v (dJ E nt ops.toList z.2.op).dst) h Q)∨
    (wanted t (dJ E nt ops.toList z.2.op).guard=false∧xX t (dJ E nt ops.toList z.2.op).guard=true∧nC rest hist (put t bS (dJ E nt ops.toList z.2.op).dst) h Q)
  | .eff=>(wanted t (dJ E nt ops.toList z.2.op).guard=true∧∃R:AV→aL→Prop,(∃v h',R v h')∧(∀t',yS (dJ E nt ops.toList z.2.op).act t t'→mM P E z.2.op t' h R)∧∀v h',R v h'→nC rest (h'::hist) (put t v (dJ E nt ops.toList z.2.op).dst) h' Q)∨
    (wanted t (dJ E nt ops.toList z.2.op).guard=false∧xX t (dJ E nt ops.toList z.2.op).guard=true∧nC rest (h::hist) (put t bS (dJ E nt ops.toList z.2.op).dst) h Q)
end
section
variable{P:Program}{E:bE TypeInfo}{T:bE cX}{M:Nat→String→Option (Nat×Option fV)}{ops:Array Oper}{nt base:Nat}{Q:eK→Prop}
theorem zV(pf:C5 E nt ops.toList (bM E ops.toList)){z:Pl}(hz:z∈bM E ops.toList):
  ∃g d,mA nt ops.toList z.2.op.guard=some g∧qR nt z.2.op.dst=some d∧dJ E nt ops.toList z.2.op=⟨g,cJ E z.2.op.op,d⟩∧lB nt z=d:=by
 obtain⟨g,d,hg,hd⟩:=pf.given z hz
 exact⟨g,d,hg,hd,by unfold dJ D1;rw[hg,hd],by unfold lB;rw[hd];rfl⟩
def Ag(E:bE TypeInfo)(nt:Nat)(ops:Array Oper)(z:Pl)(t u:PT):Prop:=∀p,p∈C4 E nt ops.toList z→t.get p=u.get p
theorem Ag.agree{z:Pl}{t u:PT}(h:Ag E nt ops z t u):yS (cJ E z.2.op.op) t u:=by
 intro c hc
 cases c with
 |val v=>rfl
 |tmp p=>exact h p (by unfold C4 looks;exact List.mem_append_left _ (List.mem_filterMap.2 ⟨.tmp p,hc,rfl⟩))
theorem Ag.guard{z:Pl}{t u:PT}(h:Ag E nt ops z t u){g:Option (bH×Bool)}(hg:mA nt ops.toList z.2.op.guard=some g):wanted t g=wanted u g∧xX t g=xX u g:=by
 cases g with
 |none=>exact⟨rfl,rfl⟩
 |some pw=>
  obtain⟨p,b⟩:=pw
  have:=h p (by unfold C4 looks;rw[hg];simp)
  exact⟨by show isB b (t.get p)=isB b (u.get p);rw[this],by show okB (t.get p)=okB (u.get p);rw[this]⟩
theorem jC{t:PT}{v:AV}{d:Option bH}{p:bH}(h:d≠some p):(put t v d).get p=t.get p:=by
 cases d with
 |none=>rfl
 |some q=>exact PT.get_set_other v q p t (fun e=>h (by rw[e]))
theorem vO{t:PT}{v:AV}{d:Option bH}{p:bH}(h:d=some p):(put t v d).get p=v:=by
 subst h
 exact PT.get_set_same v p t
def i9(listed:Array Bool)(z:Pl):Prop:=listed.getD z.2.at_ false=true
def Good(E:bE TypeInfo)(nt:Nat)(ops:Array Oper)(rest:List Pl)(listed:Array Bool)(tE tb:PT)(z:Pl)(u:PT):Prop:=
 ∀p,p∈C4 E nt ops.toList z→((∃y,y∈rest∧i9 listed y∧lB nt y=some p∧z.2.mask.testBit y.2.at_=true)→u.get p=tE.get p)∧
  ((∀y,y∈rest→i9 listed y→lB nt y=some p→¬z.2.mask.testBit y.2.at_=true)→u.get p=tb.get p)
def NH(E:bE TypeInfo)(T:bE cX)(M:Nat→String→Option (Nat×Option fV))(ops:Array Oper)(nt base:Nat)(hist:List aL)(hb:aL)(ρ:Ren)(w:World)(z:Pl)(u:PT)(v:AV):Prop:=
 (wanted u (dJ E nt ops.toList z.2.op).guard=false∧xX u (dJ E nt ops.toList z.2.op).guard=true∧v=bS)∨
 (wanted u (dJ E nt ops.toList z.2.op).guard=true∧wX (cJ E z.2.op.op)= .plain∧lI (cJ E z.2.op.op)=false∧∀h,fZ T M u h (cJ E z.2.op.op)= .ok v h)∨
 (wanted u (dJ E nt ops.toList z.2.op).guard=true∧wX (cJ E z.2.op.op)= .plain∧lI (cJ E z.2.op.op)=true∧∃o f m,(∀h,fZ T M u h (cJ E z.2.op.op)=eY h o f)∧v=f (base+z.2.at_)∧ρ (base+z.2.at_)=some m∧OR ρ w E m o∧¬dQ ρ hb m.blk∧¬ρ.F m.blk)∨
 (wanted u (dJ E nt ops.toList z.2.op).guard=true∧wX (cJ E z.2.op.op)= .read∧∃k hk h1,nP E (bM E ops.toList) z.2≤k∧k<hist.length∧hist[hist.length-1-k]?=some hk∧fZ T M u hk (cJ E z.2.op.op)= .ok v h1)
structure Inv(P:Program)(E:bE TypeInfo)(T:bE cX)(M:Nat→String→Option (Nat×Option fV))(ops:Array Oper)(nt base:Nat)(Q:eK→Prop)(bs:Nat)(r:Option Nat)(ρ0:Ren)(h0:aL)(w0:World)
  (pre rest:List Pl) (hist:List aL) (tb:PT) (hb:aL) (listed:Array Bool) (tE:PT) (ρ:Ren) (w:World) (a:Act):Prop where
 split:bM E ops.toList=pre++rest
 len:hist.length=lA E pre+1
 head:hist[0]?=some hb
 sem:nC P E T M ops nt base rest hist tb hb Q
 size:listed.size=ops.size
 lpre:∀z,z∈pre→i9 listed z
 closed:∀z,z∈bM E ops.toList→i9 listed z→∀y,y∈bM E ops.toList→z.2.mask.testBit y.2.at_=true→i9 listed y
 noeff:∀z,z∈rest→i9 listed z→iJ E z.2.op=false
 tmps:∀p,(∀z,z∈rest→i9 listed z→lB nt z≠some p)→tE.get p=tb.get p
 early:∀z,z∈rest→i9 listed z→∃u v,Good E nt ops rest listed tE tb z u∧(∀p,lB nt z=some p→tE.get p=v)∧NH E T M ops nt base hist hb ρ w z u v
 fresh:∀z,z∈rest→¬i9 listed z→ρ (base+z.2.at_)=none
 parked:∀z y m m',z∈rest→y∈rest→ρ (base+z.2.at_)=some m→ρ (base+y.2.at_)=some m'→z.2.at_≠y.2.at_→m.blk≠m'.blk
 young:∀z m,z∈rest→ρ (base+z.2.at_)=some m→w0.heap.size≤m.blk
 stp:gQ ρ0 h0 w0 ρ hb w
 at_:At E bs r nt ρ hb w tE a
 frame:jD bs r w (fun k=>dQ ρ hb k∨∃z m,z∈rest∧ρ (base+z.2.at_)=some m∧k=m.blk) a.defers
 aA:h0.aA=base∧base+ops.size≤hb.aA
structure sB(P:Program)(E:bE TypeInfo)(T:bE cX)(M:Nat→String→Option (Nat×Option fV))(ops:Array Oper)(nt base:Nat)(Q:eK→Prop)(hist:List aL)(tb:PT)(listed:Array Bool)(tE:PT)
  (s1 s2:List Pl) (t:PT) (hist':List aL) (h':aL):Prop where
 a:∀y,y∈s1→i9 listed y→∀p,lB nt y=some p→t.get p=tE.get p
 b:∀p,(∀y,y∈s1→lB nt y≠some p)→t.get p=tb.get p
 c:∃news,hist'=news++hist∧news.length=lA E s1
 d:nC P E T M ops nt base s2 hist' t h' Q
end
end
section
section
variable{P:Program}{E:bE TypeInfo}{T:bE cX}{M:Nat→String→Option (Nat×Option fV)}{ops:Array Oper}{nt base:Nat}{Q:eK→Prop}
variable{bs:Nat}{r:Option Nat}{ρ0 ρ:Ren}{h0 hb h':aL}{w0 w:World}{pre rest s1 s2:List Pl}{hist hist':List aL}{tb tE t:PT}{listed:Array Bool}{a:Act}{z:Pl}
variable(pf:C5 E nt ops.toList (bM E ops.toList))
include pf
theorem mL{pl1 pl2:List Pl}(e:bM E ops.toList=pl1++z::pl2){y:Pl}(hy:y∈pl1):y.2.at_≠z.2.at_:=pf.once pl1 z pl2 e y hy
theorem yP{pl1 pl2:List Pl}(e:bM E ops.toList=pl1++z::pl2){y:Pl}(hy:y∈pl2):z.2.at_≠y.2.at_:=by
 obtain⟨a,b,rfl⟩:=List.append_of_mem hy
 exact pf.once (pl1++z::a) y b (by rw[e];simp) z (by simp)
theorem sB.ag(inv:Inv P E T M ops nt base Q bs r ρ0 h0 w0 pre rest hist tb hb listed tE ρ w a)(hs:rest=s1++z::s2)(q:sB P E T M ops nt base Q hist tb listed tE s1 (z::s2) t hist' h')
  (hm:∀y,y∈bM E ops.toList→z.2.mask.testBit y.2.at_=true→i9 listed y) {u:PT} (g:Good E nt ops rest listed tE tb z u):Ag E nt ops z t u:=by
 have hpl:bM E ops.toList=(pre++s1)++z::s2:=by rw[inv.split,hs];simp
 have hz:z∈bM E ops.toList:=by rw[hpl];simp
 intro p hp
 by_cases hex:∃y,y∈rest∧i9 listed y∧lB nt y=some p∧z.2.mask.testBit y.2.at_=true
 ·obtain⟨y,hy,hl,hd,hmy⟩:=hex
  have hyp:y∈bM E ops.toList:=by rw[inv.split];simp[hy]
  obtain⟨x,hx,hxe⟩:=pf.topo _ _ _ hpl y hyp hmy
  have hy1:y∈s1:=by
   rw[hs]at hy
   rcases List.mem_append.1 hy with h|h
   ·exact h
   ·exfalso
    rcases List.mem_cons.1 h with h|h
    ·subst h
     exact mL pf hpl hx hxe
    ·obtain⟨c,d,rfl⟩:=List.append_of_mem h
     exact pf.once ((pre++s1)++z::c) y d (by rw[hpl];simp) x (by rcases List.mem_append.1 hx with h|h<;>simp[h]) hxe
  rw[q.a y hy1 hl p hd,(g p hp).1 ⟨y,hy,hl,hd,hmy⟩]
 ·have hne:∀y,y∈rest→i9 listed y→lB nt y=some p→¬z.2.mask.testBit y.2.at_=true:=fun y h1 h2 h3 h4=>hex ⟨y,h1,h2,h3,h4⟩
  rw[(g p hp).2 hne]
  refine q.b p (fun y hy hd=> ?_)
  have hyr:y∈rest:=by rw[hs];simp[hy]
  have hyp:y∈bM E ops.toList:=by rw[inv.split];simp[hyr]
  rcases pf.fits z hz y hyp p hd hp with h|h|h
  ·exact hne y hyr (hm y hyp h) hd h
  ·obtain⟨c,d,rfl⟩:=List.append_of_mem hy
   obtain⟨x,hx,hxe⟩:=pf.topo (pre++c) y (d++z::s2) (by rw[hpl];simp) z hz h
   exact mL pf hpl (by rcases List.mem_append.1 hx with h|h<;>simp[h]) hxe
  ·exact mL pf hpl (y:=y) (by simp[hy]) h.symm
theorem Inv.good(inv:Inv P E T M ops nt base Q bs r ρ0 h0 w0 pre rest hist tb hb listed tE ρ w a)(hz:z∈rest)(hl:¬i9 listed z)
  (hm:∀y,y∈bM E ops.toList→z.2.mask.testBit y.2.at_=true→i9 listed y):Good E nt ops rest listed tE tb z tE:=by
 have hzp:z∈bM E ops.toList:=by rw[inv.split];simp[hz]
 intro p hp
 refine⟨fun _=>rfl,fun hne=>inv.tmps p (fun y hy hly hd=> ?_)⟩
 have hyp:y∈bM E ops.toList:=by rw[inv.split];simp[hy]
 rcases pf.fits z hzp y hyp p hd hp with h|h|h
 ·exact hne y hy hly hd h
 ·exact hl (inv.closed y hyp hly z hzp h)
 ·exact hl (by unfold i9;rw[h];exact hly)
theorem sB.put(hpl:bM E ops.toList=(pre++s1)++z::s2)(q:sB P E T M ops nt base Q hist tb listed tE s1 (z::s2) t hist' h'){v:AV}{d:Option bH}(hd:lB nt z=d){news:List aL}{hist2:List aL}{h2:aL}
  (hv:i9 listed z→∀p,d=some p→tE.get p=v) (hn:news++hist'=hist2) (hne:news.length=lA E [z]) (sem:nC P E T M ops nt base s2 hist2 (Ev.put t v d) h2 Q):
  sB P E T M ops nt base Q hist tb listed tE (s1++ [z]) s2 (Ev.put t v d) hist2 h2:=by
 refine⟨fun y hy hl p hp=> ?_,fun p hp=> ?_,?_,sem⟩
 ·rcases List.mem_append.1 hy with h|h
  ·rw[jC,q.a y h hl p hp]
   intro e
   have hyp:y∈bM E ops.toList:=by rw[hpl];simp[h]
   exact mL pf hpl (y:=y) (by simp[h]) (pf.uniq y hyp z (by rw[hpl];simp) p hp (by rw[hd];exact e))
  ·simp only[List.mem_singleton]at h
   subst h
   rw[hp]at hd
   subst hd
   rw[vO rfl,hv hl p rfl]
 ·rw[jC (by rw[←hd];exact hp z (by simp))]
  exact q.b p (fun y hy=>hp y (by simp[hy]))
 ·obtain⟨n1,e1,e2⟩:=q.c
  exact⟨news++n1,by rw[←hn,e1];simp,by rw[jR,List.length_append,e2,hne];omega⟩
theorem sB.early(inv:Inv P E T M ops nt base Q bs r ρ0 h0 w0 pre rest hist tb hb listed tE ρ w a)(hs:rest=s1++z::s2)(q:sB P E T M ops nt base Q hist tb listed tE s1 (z::s2) t hist' h')(hl:i9 listed z):
  ∃t2 h2,sB P E T M ops nt base Q hist tb listed tE (s1++ [z]) s2 t2 hist' h2∧(h2=h'∨∃o m,h2=⟨fS h'.t (base+z.2.at_) (some o),h'.aA⟩∧ρ (base+z.2.at_)=some m∧OR ρ w E m o∧¬dQ ρ hb m.blk∧¬ρ.F m.blk):=by
 have hpl:bM E ops.toList=(pre++s1)++z::s2:=by rw[inv.split,hs];simp
 have hz:z∈bM E ops.toList:=by rw[hpl];simp
 have hzr:z∈rest:=by rw[hs];simp
 obtain⟨u,v,hg,hv,ho⟩:=inv.early z hzr hl
 have ag:=sB.ag pf inv hs q (inv.closed z hz hl) hg
 obtain⟨g,d,hgg,hdd,hst,hdp⟩:=zV (E:=E) pf hz
 have hag:=ag.agree
 obtain⟨hw,hu⟩:=ag.guard hgg
 have hne:lA E [z]=0:=by rw[pF,if_neg (by rw[inv.noeff z hzr hl];simp)]
 have hv':i9 listed z→∀p,d=some p→tE.get p=v:=fun _ p e=>hv p (by rw[hdp,e])
 have hd:=q.d
 unfold nC at hd
 unfold NH at ho
 rw[hst]at hd ho
 simp only at hd ho
 have skip:∀{D:nC P E T M ops nt base s2 hist' (Ev.put t bS d) h' Q},v=bS→∃t2 h2,sB P E T M ops nt base Q hist tb listed tE (s1++ [z]) s2 t2 hist' h2∧(h2=h'∨∃o m,h2=⟨fS h'.t (base+z.2.at_) (some o),h'.aA⟩∧ρ (base+z.2.at_)=some m∧OR ρ w E m o∧¬dQ ρ hb m.blk∧¬ρ.F m.blk):=
  fun{D} e=>⟨_,_,sB.put pf hpl q hdp (news:= []) (by rw[e]at hv';exact hv') rfl (by rw[hne];rfl) D,.inl rfl⟩
 cases hc:wX (cJ E z.2.op.op)with
 |eff=>
  exfalso
  have:=inv.noeff z hzr hl
  unfold iJ at this
  rw[hc]at this
  cases this
 |plain=>
  simp only[hc,reduceCtorEq,false_and,and_false,or_false]at hd ho
  rcases hd with⟨d1,v',h1,d2,d3⟩|⟨d1,d2,d3⟩
  ·rw[nD T M _ hag]at d2
   rcases ho with⟨o1,o2,o3⟩|⟨o1,-,o2,o3⟩|⟨o1,-,o2,o,f,m,o3,o4,o5,o6,o7,o8⟩
   ·rw[hw,o1]at d1;cases d1
   ·rw[o3]at d2
    cases d2
    exact⟨_,_,sB.put pf hpl q hdp (news:= []) hv' rfl (by rw[hne];rfl) d3,.inl (by cases h';rfl)⟩
   ·rw[o3]at d2
    obtain⟨e1,e2⟩:=DJ d2
    have e1:v'=v:=by rw[e1,o4]
    subst e1;subst e2
    exact⟨_,_,sB.put pf hpl q hdp (news:= []) hv' rfl (by rw[hne];rfl) d3,.inr ⟨o,m,rfl,o5,o6,o7,o8⟩⟩
  ·rcases ho with⟨o1,o2,o3⟩|⟨o1,-,o2,o3⟩|⟨o1,-,o2,o3⟩
   ·exact skip (D:=d3) o3
   ·rw[hw,o1]at d1;cases d1
   ·rw[hw,o1]at d1;cases d1
 |read=>
  simp only[hc,reduceCtorEq,false_and,and_false,or_false,false_or]at hd ho
  rcases hd with⟨d1,v',d2,d3⟩|⟨d1,d2,d3⟩
  ·rcases ho with⟨o1,o2,o3⟩|⟨o1,-,k,hk,h1,k1,k2,k3,k4⟩
   ·rw[hw,o1]at d1;cases d1
   ·obtain⟨news,n1,n2⟩:=q.c
    have hz1:z.1=lA E pre+lA E s1:=by rw[pf.num _ _ _ hpl,jR]
    have hlen:=inv.len
    have hle:news.length+(hist.length-1-k)≤z.1-nP E (bM E ops.toList) z.2:=by omega
    obtain⟨hk',h1',e1,e2⟩:=d2 _ hle
    rw[n1,List.getElem?_append_right (by omega),show news.length+(hist.length-1-k)-news.length=hist.length-1-k by omega,k3]at e1
    cases e1
    rw[nD T M _ hag,k4]at e2
    cases e2
    exact⟨_,_,sB.put pf hpl q hdp (news:= []) hv' rfl (by rw[hne];rfl) d3,.inl rfl⟩
  ·rcases ho with⟨o1,o2,o3⟩|⟨o1,-,o2⟩
   ·exact skip (D:=d3) o3
   ·rw[hw,o1]at d1;cases d1
theorem sB.step(inv:Inv P E T M ops nt base Q bs r ρ0 h0 w0 pre rest hist tb hb listed tE ρ w a)(hs:rest=s1++z::s2)(q:sB P E T M ops nt base Q hist tb listed tE s1 (z::s2) t hist' h'):
  ∃t2 hist2 h2,sB P E T M ops nt base Q hist tb listed tE (s1++ [z]) s2 t2 hist2 h2:=by
 by_cases hl:i9 listed z
 ·obtain⟨t2,h2,q2,_⟩:=sB.early pf inv hs q hl
  exact⟨t2,_,h2,q2⟩
 ·have hpl:bM E ops.toList=(pre++s1)++z::s2:=by rw[inv.split,hs];simp
  have hz:z∈bM E ops.toList:=by rw[hpl];simp
  obtain⟨g,d,hgg,hdd,hst,hdp⟩:=zV (E:=E) pf hz
  have hd:=q.d
  unfold nC at hd
  rw[hst]at hd
  simp only at hd
  have hv:∀(v:AV),i9 listed z→∀p,d=some p→tE.get p=v:=fun v h=>absurd h hl
  have hisE:iJ E z.2.op=match wX (cJ E z.2.op.op)with| .eff=>true|_=>false:=rfl
  cases hc:wX (cJ E z.2.op.op)with
  |eff=>
   rw[hc]at hisE
   have hne:lA E [z]=1:=by rw[pF,if_pos (by simpa using hisE)]
   simp only[hc]at hd
   rcases hd with⟨_,R,⟨v,h1,hR⟩,_,d3⟩|⟨_,_,d3⟩
   ·exact⟨_,_,_,sB.put pf hpl q hdp (news:= [h1]) (hv v) rfl (by rw[hne];rfl) (d3 v h1 hR)⟩
   ·exact⟨_,_,_,sB.put pf hpl q hdp (news:= [h']) (hv bS) rfl (by rw[hne];rfl) d3⟩
  |plain=>
   rw[hc]at hisE
   have hne:lA E [z]=0:=by rw[pF,if_neg (by simp[hisE])]
   simp only[hc]at hd
   rcases hd with⟨_,v,h1,_,d3⟩|⟨_,_,d3⟩
   ·exact⟨_,_,_,sB.put pf hpl q hdp (news:= []) (hv v) rfl (by rw[hne];rfl) d3⟩
   ·exact⟨_,_,_,sB.put pf hpl q hdp (news:= []) (hv bS) rfl (by rw[hne];rfl) d3⟩
  |read=>
   rw[hc]at hisE
   have hne:lA E [z]=0:=by rw[pF,if_neg (by simp[hisE])]
   simp only[hc]at hd
   rcases hd with⟨_,v,_,d3⟩|⟨_,_,d3⟩
   ·exact⟨_,_,_,sB.put pf hpl q hdp (news:= []) (hv v) rfl (by rw[hne];rfl) d3⟩
   ·exact⟨_,_,_,sB.put pf hpl q hdp (news:= []) (hv bS) rfl (by rw[hne];rfl) d3⟩
theorem Inv.rch0(inv:Inv P E T M ops nt base Q bs r ρ0 h0 w0 pre rest hist tb hb listed tE ρ w a):sB P E T M ops nt base Q hist tb listed tE [] rest tb hist hb:=
 ⟨fun _ h=>by simp at h,fun _ _=>rfl,⟨[],rfl,rfl⟩,inv.sem⟩
theorem Inv.peek(inv:Inv P E T M ops nt base Q bs r ρ0 h0 w0 pre rest hist tb hb listed tE ρ w a):∀(s done:List Pl),rest=done++(s++s2)→(∃t hist' h',sB P E T M ops nt base Q hist tb listed tE done (s++s2) t hist' h')→
  ∃t hist' h',sB P E T M ops nt base Q hist tb listed tE (done++s) s2 t hist' h'
 | [],done,_,h=>by simpa using h
 |z::s,done,hs,⟨t,hist',h',q⟩=>by
  obtain⟨t2,hist2,h2,q2⟩:=sB.step pf inv (z:=z) (s1:=done) (s2:=s++s2) hs q
  have:=Inv.peek inv s (done++ [z]) (by rw[hs];simp) ⟨t2,hist2,h2,q2⟩
  simpa using this
theorem Inv.adopt(inv:Inv P E T M ops nt base Q bs r ρ0 h0 w0 pre rest hist tb hb listed tE ρ w a):∀(s done:List Pl),rest=done++(s++s2)→(∀z,z∈s→i9 listed z)→
  (∃t h',sB P E T M ops nt base Q hist tb listed tE done (s++s2) t hist h'∧dI E ρ h' w∧h'.aA=hb.aA∧∀k,dQ ρ h' k→dQ ρ hb k∨∃y m,y∈done∧ρ (base+y.2.at_)=some m∧k=m.blk)→
  ∃t h',sB P E T M ops nt base Q hist tb listed tE (done++s) s2 t hist h'∧dI E ρ h' w∧h'.aA=hb.aA∧∀k,dQ ρ h' k→dQ ρ hb k∨∃y m,y∈done++s∧ρ (base+y.2.at_)=some m∧k=m.blk
 | [],done,_,_,h=>by simpa using h
 |z::s,done,hs,hl,⟨t,h',q,sim,hnx,hlv⟩=>by
  have hpl:bM E ops.toList=(pre++done)++z::(s++s2):=by rw[inv.split,hs];simp
  obtain⟨t2,h2,q2,e⟩:=sB.early pf inv (z:=z) (s1:=done) (s2:=s++s2) hs q (hl z (by simp))
  have hzr:z∈rest:=by rw[hs];simp
  have key:dI E ρ h2 w∧h2.aA=hb.aA∧∀k,dQ ρ h2 k→dQ ρ hb k∨∃y m,y∈done++ [z]∧ρ (base+y.2.at_)=some m∧k=m.blk:=by
   rcases e with e|⟨o,m,e,e1,e2,e3,e4⟩
   ·subst e
    exact⟨sim,hnx,fun k hk=>(hlv k hk).imp id fun⟨y,m,h1,h2,h3⟩=>⟨y,m,by simp[h1],h2,h3⟩⟩
   ·subst e
    have hlt:z.2.at_<ops.size:=by
     have:=pf.op z (by rw[hpl];simp)
     have:=(aD.1 this).1
     simpa using this
    have hnl:¬dQ ρ h' m.blk:=by
     intro hk
     rcases hlv _ hk with hk|⟨y,m',h1,h2,h3⟩
     ·exact e3 hk
     ·exact inv.parked z y m m' hzr (by rw[hs];simp[h1]) e1 h2 (fun e=>mL pf hpl (y:=y) (by simp[h1]) e.symm) h3
    refine⟨sim.adopt e1 (by rw[hnx];have:=inv.aA;omega) e2 hnl e4,hnx,fun k hk=> ?_⟩
    rcases NG e1 hk with hk|hk
    ·exact(hlv k hk).imp id fun⟨y,m,h1,h2,h3⟩=>⟨y,m,by simp[h1],h2,h3⟩
    ·exact .inr ⟨z,m,by simp,e1,hk⟩
  have:=Inv.adopt inv s (done++ [z]) (by rw[hs];simp) (fun y hy=>hl y (by simp[hy])) ⟨t2,h2,q2,key⟩
  simpa using this
end
end
section
section
variable{P:Program}{E:bE TypeInfo}{T:bE cX}{M:Nat→String→Option (Nat×Option fV)}{ops:Array Oper}{nt base:Nat}{Q:eK→Prop}
variable{bs:Nat}{r:Option Nat}{ρ0 ρ ρ2:Ren}{h0 hb hb2 h':aL}{w0 w w2:World}{pre rest s1 s2:List Pl}{hist hist' hist2:List aL}{tb tE t u:PT}{listed:Array Bool}{a:Act}{z:Pl}{v:AV}{v':Value}
theorem NH.mono(o:NH E T M ops nt base hist hb ρ w z u v)(hk:n6 ρ w ρ2 w2)(hb':∀m,ρ (base+z.2.at_)=some m→¬dQ ρ hb m.blk→w2.heap[m.blk]?=w.heap[m.blk]?∧¬dQ ρ2 hb2 m.blk∧(¬ρ.F m.blk→¬ρ2.F m.blk))(hh:∃news,hist2=news++hist):
  NH E T M ops nt base hist2 hb2 ρ2 w2 z u v:=by
 rcases o with o|o|⟨o1,o2,o3,o,f,m,o4,o5,o6,o7,o8,o9⟩|⟨o1,o2,k,hk',h1,k1,k2,k3,k4⟩
 ·exact .inl o
 ·exact .inr (.inl o)
 ·obtain⟨q1,q2,q3⟩:=hb' m o6 o8
  exact .inr (.inr (.inl ⟨o1,o2,o3,o,f,m,o4,o5,hk.ren _ _ o6,OR.mono hk q1 o7,q2,q3 o9⟩))
 ·obtain⟨news,rfl⟩:=hh
  refine .inr (.inr (.inr ⟨o1,o2,k,hk',h1,k1,by simp;omega,?_,k4⟩))
  rw[List.getElem?_append_right (by simp;omega)]
  rw[show(news++hist).length-1-k-news.length=hist.length-1-k by simp;omega]
  exact k3
theorem zU{y:Pl}(hs:listed.size=ops.size)(hz:z.2.at_<ops.size):i9 (listed.setIfInBounds z.2.at_ true) y↔i9 listed y∨y.2.at_=z.2.at_:=by
 unfold i9
 simp only[Array.getD_eq_getD_getElem?,Array.getElem?_setIfInBounds]
 by_cases e:z.2.at_=y.2.at_
 ·rw[if_pos e,if_pos (by omega)]
  simp[e]
 ·rw[if_neg e]
  have:¬y.2.at_=z.2.at_:=fun h=>e h.symm
  simp[this]
theorem PE{tm:PT}(h:RT ρ w tm a.tmps)(hsz:a.tmps.size=nt){dst:Option Nat}{d:Option bH}(hd:qR nt dst=some d)(hv:RV ρ w v v'):RT ρ w (put tm v d) (a.put dst v').tmps∧(a.put dst v').tmps.size=nt∧(a.put dst v').defers=a.defers:=by
 cases dst with
 |none=>
  simp only[qR,aF]at hd
  subst hd
  exact⟨h,hsz,rfl⟩
 |some x=>
  simp only[qR,bN,aI,blt_eq]at hd
  split at hd
  case isFalse=>cases hd
  rename_i hlt
  simp only[aF]at hd
  subst hd
  exact⟨h.put (by omega) hlt.2 hv,by simp[Act.put,hsz],rfl⟩
variable(pf:C5 E nt ops.toList (bM E ops.toList))
include pf
theorem C2{y:Pl}(hy:y∈bM E ops.toList)(hz:z∈bM E ops.toList)(e:y.2.at_=z.2.at_):y=z:=by
 obtain⟨c,d,hcd⟩:=List.append_of_mem hy
 rw[hcd]at hz
 rcases List.mem_append.1 hz with h|h
 ·exact absurd e.symm (mL pf hcd h)
 ·rcases List.mem_cons.1 h with h|h
  ·exact h.symm
  ·exact absurd e (yP pf hcd h)
theorem C3(hz:z∈bM E ops.toList):z.2.at_<ops.size:=by
 have:=(aD.1 (pf.op z hz)).1
 simpa using this
theorem Inv.more(inv:Inv P E T M ops nt base Q bs r ρ0 h0 w0 pre rest hist tb hb listed tE ρ w a)(hz:z∈rest)(hl:¬i9 listed z)(hm:∀y,y∈bM E ops.toList→z.2.mask.testBit y.2.at_=true→i9 listed y)
  (hne:iJ E z.2.op=false) {d:Option bH} (hd:qR nt z.2.op.dst=some d) (k:n6 ρ w ρ2 w2) (hρ:∀b,b≠base+z.2.at_→ρ2 b=ρ b) (hblk:∀b,b<w.heap.size→¬dQ ρ hb b→w2.heap[b]?=w.heap[b]?) (hliv:∀b,dQ ρ2 hb b→dQ ρ hb b) (hfr:∀b,b<w.heap.size→¬dQ ρ hb b→ρ2.F b→ρ.F b)
  (hnew:∀m,ρ2 (base+z.2.at_)=some m→w.heap.size≤m.blk) (sim2:dI E ρ2 hb w2) (rv:RV ρ2 w2 v v') (st:gQ ρ0 h0 w0 ρ2 hb w2) (hlo:∀(l:Nat) (rec:Loop),w.heap[l]?=some (.loop rec)→∃rec':Loop,w2.heap[l]?=some (.loop rec'))
  (hsz:w.heap.size≤w2.heap.size) (eo:NH E T M ops nt base hist hb ρ2 w2 z tE v):Inv P E T M ops nt base Q bs r ρ0 h0 w0 pre rest hist tb hb (listed.setIfInBounds z.2.at_ true) (put tE v d) ρ2 w2 (a.put z.2.op.dst v'):=by
 have hzp:z∈bM E ops.toList:=by rw[inv.split];simp[hz]
 have inpl:∀{y},y∈rest→y∈bM E ops.toList:=fun{y} h=>by rw[inv.split];simp[h]
 have hzl:=C3 pf hzp
 have ls:∀{y:Pl},i9 (listed.setIfInBounds z.2.at_ true) y↔i9 listed y∨y.2.at_=z.2.at_:=zU inv.size hzl
 have hdp:lB nt z=d:=by unfold lB;rw[hd];rfl
 have hself:¬z.2.mask.testBit z.2.at_=true:=fun h=>by
  obtain⟨c,e,hcd⟩:=List.append_of_mem hzp
  obtain⟨x,hx,hxe⟩:=pf.topo c z e hcd z hzp h
  exact mL pf hcd hx hxe
 have dne:∀{y:Pl} {p:bH},y∈bM E ops.toList→y.2.at_≠z.2.at_→lB nt y=some p→d≠some p:=fun{y p} hy hye hp e=>hye (pf.uniq y hy z hzp p hp (by rw[hdp];exact e))
 have sz':(listed.setIfInBounds z.2.at_ true).size=ops.size:=by simp[inv.size]
 refine⟨inv.split,inv.len,inv.head,inv.sem,sz',fun y hy=>ls.2 (.inl (inv.lpre y hy)),fun y hy hly x hx hmx=> ?_,fun y hy hly=> ?_,fun p hp=> ?_,fun y hy hly=> ?_,fun y hy hly=> ?_,fun y1 y2 m1 m2 h1 h2 r1 r2 hne=> ?_,fun y m hy hm'=> ?_,st,?_,?_,inv.aA⟩
 ·rcases ls.1 hly with h|h
  ·exact ls.2 (.inl (inv.closed y hy h x hx hmx))
  ·have:=C2 pf hy hzp h
   subst this
   exact ls.2 (.inl (hm x hx hmx))
 ·rcases ls.1 hly with h|h
  ·exact inv.noeff y hy h
  ·have:=C2 pf (inpl hy) hzp h
   subst this
   exact hne
 ·rw[jC (by rw[←hdp];exact hp z hz (ls.2 (.inr rfl)))]
  exact inv.tmps p (fun y hy hly=>hp y hy (ls.2 (.inl hly)))
 ·by_cases e:y.2.at_=z.2.at_
  ·have:=C2 pf (inpl hy) hzp e
   subst this
   have g:=inv.good pf hz hl hm
   refine⟨tE,v,fun p hp=>⟨fun⟨x,hx,hlx,hdx,hmx⟩=> ?_,fun hn=>(g p hp).2 (fun x hx hlx=>hn x hx (ls.2 (.inl hlx)))⟩,fun p hp=>vO (by rw[←hdp];exact hp),eo⟩
   have hxe:x.2.at_≠y.2.at_:=fun h=>hself (by rw[←h];exact hmx)
   rw[jC (dne (inpl hx) hxe hdx)]
  ·have hly:i9 listed y:=(ls.1 hly).resolve_right e
   obtain⟨u,vy,hg,hv,ho⟩:=inv.early y hy hly
   have hmz:¬y.2.mask.testBit z.2.at_=true:=fun h=>hl (inv.closed y (inpl hy) hly z hzp h)
   refine⟨u,vy,fun p hp=>⟨fun⟨x,hx,hlx,hdx,hmx⟩=> ?_,fun hn=>(hg p hp).2 (fun x hx hlx=>hn x hx (ls.2 (.inl hlx)))⟩,fun p hp=> ?_,ho.mono k (fun m hm' hnl=>⟨hblk _ (inv.at_.sim.low _ _ hm') hnl,fun h=>hnl (hliv _ h),fun hf h=>hf (hfr _ (inv.at_.sim.low _ _ hm') hnl h)⟩) ⟨[],rfl⟩⟩
   ·have hxe:x.2.at_≠z.2.at_:=fun h=>hmz (by rw[←h];exact hmx)
    rw[jC (dne (inpl hx) hxe hdx)]
    exact(hg p hp).1 ⟨x,hx,(ls.1 hlx).resolve_right hxe,hdx,hmx⟩
   ·rw[jC (dne (inpl hy) e hp)]
    exact hv p hp
 ·have hye:y.2.at_≠z.2.at_:=fun h=>hly (ls.2 (.inr h))
  rw[hρ _ (by omega)]
  exact inv.fresh y hy (fun h=>hly (ls.2 (.inl h)))
 ·by_cases e1:y1.2.at_=z.2.at_<;>by_cases e2:y2.2.at_=z.2.at_
  ·exact absurd (e1.trans e2.symm) hne
  ·rw[e1]at r1
   rw[hρ _ (by omega)]at r2
   have:=hnew _ r1
   have:=inv.at_.sim.low _ _ r2
   omega
  ·rw[e2]at r2
   rw[hρ _ (by omega)]at r1
   have:=hnew _ r2
   have:=inv.at_.sim.low _ _ r1
   omega
  ·rw[hρ _ (by omega)]at r1 r2
   exact inv.parked y1 y2 m1 m2 h1 h2 r1 r2 hne
 ·by_cases e:y.2.at_=z.2.at_
  ·rw[e]at hm'
   exact Nat.le_trans inv.stp.size (hnew _ hm')
  ·rw[hρ _ (by omega)]at hm'
   exact inv.young y m hy hm'
 ·obtain⟨q1,q2,q3⟩:=PE (v':=v') (a:=a) (inv.at_.rt.mono k) inv.at_.size hd rv
  refine⟨sim2,⟨k.frz 0 inv.at_.glob.1,fun off ho=> ?_⟩,q1,q2,inv.at_.small,?_,Nat.le_trans inv.at_.low hsz⟩
  ·obtain⟨n,n1,n2⟩:=inv.at_.glob.2 off ho
   exact⟨n,n1,by rw[k.mem 0 inv.at_.glob.1];exact n2⟩
  ·rw[q3]
   exact inv.frame.mono (fun b hb hnl=>⟨hblk b hb (fun h=>hnl (.inl h)),fun h=>hnl (.inl (hliv _ h))⟩) hlo
 ·have q3:(a.put z.2.op.dst v').defers=a.defers:=by cases z.2.op.dst<;>rfl
  rw[q3]
  refine inv.frame.mono (fun b hb hnl=>⟨hblk b hb (fun h=>hnl (.inl h)),?_⟩) hlo
  rintro(h|⟨y,m,hy,hm',rfl⟩)
  ·exact hnl (.inl (hliv _ h))
  ·by_cases e:y.2.at_=z.2.at_
   ·rw[e]at hm'
    have:=hnew _ hm'
    omega
   ·rw[hρ _ (by omega)]at hm'
    exact hnl (.inr ⟨y,m,hy,hm',rfl⟩)
end
end
section
theorem ER{a:fC}(h:wX a= .plain):fA a=true:=by
 cases a<;>first|rfl|skip
 rename_i c args
 cases c<;>first|rfl|(simp[wX,qS]at h)
theorem GZ{a:fC}(h:wX a= .read):fA a=true:=by
 cases a<;>first|rfl|skip
 rename_i c args
 cases c<;>first|rfl|(simp[wX,qS]at h)
section
variable{P:Program}{E:bE TypeInfo}(hE:∀t i,E.get t=some i→P.info? t=some i)(hF:∀t ks,FY E t= .flat ks→P.stoodInHeld t=false∧P.eqGuardType P.depth t=false)
variable{T:bE cX}{M:Nat→String→Option (Nat×Option fV)}{ops:Array Oper}{nt base:Nat}{Q:eK→Prop}
variable{bs n:Nat}{r:Option Nat}{ρ0 ρ:Ren}{h0 hb:aL}{w0 w:World}{pre rest s1 s2:List Pl}{hist:List aL}{tb tE t:PT}{listed:Array Bool}{a:Act}{z:Pl}
variable(pf:C5 E nt ops.toList (bM E ops.toList))
include hE hF pf in
theorem Inv.do_early(inv:Inv P E T M ops nt base Q bs r ρ0 h0 w0 pre rest hist tb hb listed tE ρ w a)(hz:z∈rest)(hl:¬i9 listed z)(hm:∀y,y∈bM E ops.toList→z.2.mask.testBit y.2.at_=true→i9 listed y)
  (hne:iJ E z.2.op=false) {K:Act→World→Prop} {Qx:Exit→Act→World→Prop}
  (hK:∀tE' ρ' w' a',Inv P E T M ops nt base Q bs r ρ0 h0 w0 pre rest hist tb hb (listed.setIfInBounds z.2.at_ true) tE' ρ' w' a'→K a' w'):wpOpIn (Fc r) n P ops Qx z.2.at_ K a w:=by
 have hzp:z∈bM E ops.toList:=by rw[inv.split];simp[hz]
 obtain⟨g,d,hgg,hdd,hst,hdp⟩:=zV (E:=E) pf hzp
 have hop:ops[z.2.at_]?=some z.2.op:=by simpa using pf.op z hzp
 obtain⟨s1,s2,hs⟩:=List.append_of_mem hz
 obtain⟨t,hist',h',q⟩:=Inv.peek pf inv (s2:=z::s2) s1 [] (by simpa using hs) ⟨_,_,_,by rw[←hs];exact inv.rch0 pf⟩
 have q:sB P E T M ops nt base Q hist tb listed tE s1 (z::s2) t hist' h':=q
 have ag:Ag E nt ops z t tE:=q.ag pf inv hs hm (inv.good pf hz hl hm)
 have hag:=ag.agree
 obtain⟨hw,hu⟩:=ag.guard hgg
 obtain⟨g1,g2⟩:=vQ (ops:=ops) inv.at_ hgg
 have hfr:ρ (base+z.2.at_)=none:=inv.fresh z hz hl
 have same:∀{v:AV},wanted tE g=true→fA (cJ E z.2.op.op)=true→fZ T M tE hb (cJ E z.2.op.op)= .ok v hb→
   (∀ρ' w',NH E T M ops nt base hist hb ρ' w' z tE v)→z.2.op.wpIn (Fc r) n P a w K Qx:=by
  intro v hwt hn e eo
  have q:=KM hE hF T M iY (Q:=fun v1 h1=>v1=v∧h1=hb) hn e ⟨rfl,rfl⟩
  refine q bs nt n r ρ w a K Qx inv.at_ (fun ρ' w' v' v1 h1 hq st s' rv=> ?_)
  obtain⟨rfl,rfl⟩:=hq
  have hρ:∀b,ρ' b=ρ b:=fun b=>st.out b (by omega)
  exact hK _ _ _ _ (inv.more pf hz hl hm hne hdd st.toKeep (fun b _=>hρ b) st.keep (fun b ⟨b',o',m',q1,q2,q3⟩=>⟨b',o',m',q1,by rw[←hρ];exact q2,q3⟩) (fun b hb' hnl hF=>(st.frn b hF).elim id (fun h=>h.elim (fun h=>absurd h hnl) (fun h=>by omega))) (fun m h=>by rw[hρ,hfr]at h;cases h) s' rv (inv.stp.trans st) (fun l rec e=>let⟨r',h1,_⟩:=st.loops l rec e;⟨r',h1⟩) st.size (eo _ _))
 unfold wpOpIn
 simp only[hop]
 have hd:=q.d
 unfold nC at hd
 rw[hst]at hd
 simp only at hd
 have skip:wanted t g=false→xX t g=true→(if Region.wanted z.2.op (yielded ops a.tmps)=true then z.2.op.wpIn (Fc r) n P a w K Qx else(∀f,z.2.op.about P w a.eval=some f→(Fc r).fn f)∧K (a.put z.2.op.dst undef) w):=by
  intro d1 d2
  rw[hw]at d1
  rw[hu]at d2
  rw[if_neg (by rw[g2 d1 d2];simp)]
  exact⟨fun _ _=>trivial,hK _ _ _ _ (inv.more pf hz hl hm hne hdd ⟨fun _ _ e=>e,fun _ _ _=>rfl,fun _ e=>e⟩ (fun _ _=>rfl) (fun _ _ _=>rfl) (fun _ h=>h) (fun _ _ _ h=>h) (fun m h=>by rw[hfr]at h;cases h) inv.at_.sim lD inv.stp
   (fun l rec e=>⟨rec,e⟩) (aE _) (.inl (by rw[hst];exact⟨d1,d2,rfl⟩)))⟩
 cases hc:wX (cJ E z.2.op.op)with
 |eff=>
  exfalso
  unfold iJ at hne
  rw[hc]at hne
  cases hne
 |read=>
  simp only[hc]at hd
  rcases hd with⟨d1,v,d2,d3⟩|⟨d1,d2,d3⟩
  ·rw[hw]at d1
   rw[if_pos (g1 d1)]
   obtain⟨news,n1,n2⟩:=q.c
   have hpl:bM E ops.toList=(pre++s1)++z::s2:=by rw[inv.split,hs];simp
   have hz1:z.1=lA E pre+lA E s1:=by rw[pf.num _ _ _ hpl,jR]
   have hcnt:nP E (bM E ops.toList) z.2≤lA E pre:=by
    unfold nP lA
    rw[inv.split,List.filter_append,List.length_append]
    have h1:(rest.filter fun d=>iJ E d.2.op&&z.2.mask.testBit d.2.at_)= []:=by
     rw[List.filter_eq_nil_iff]
     intro y hy hh
     rw[aI]at hh
     have:=hm y (by rw[inv.split];simp[hy]) hh.2
     rw[inv.noeff y hy this]at hh
     cases hh.1
    rw[h1]
    have:∀(l:List Pl),(l.filter fun d=>iJ E d.2.op&&z.2.mask.testBit d.2.at_).length≤(l.filter fun d=>iJ E d.2.op).length:=by
     intro l
     induction l with
     |nil=>simp
     |cons x l ih=>
      simp only[List.filter_cons]
      cases iJ E x.2.op<;>cases z.2.mask.testBit x.2.at_<;>simp<;>omega
    have:=this pre
    simp
    omega
   obtain⟨hk,h1,e1,e2⟩:=d2 news.length (by omega)
   rw[n1,List.getElem?_append_right (aE _),Nat.sub_self,inv.head]at e1
   cases e1
   rw[nD T M _ hag]at e2
   have:=R4 T M hc e2
   subst this
   have hlen:=inv.len
   exact same d1 (GZ hc) e2 (fun ρ' w'=> .inr (.inr (.inr ⟨by rw[hst];exact d1,hc,lA E pre,_,_,hcnt,by omega,by rw[hlen,show lA E pre+1-1-lA E pre=0 by omega];exact inv.head,e2⟩)))
  ·exact skip d1 d2
 |plain=>
  simp only[hc]at hd
  rcases hd with⟨d1,v,h1,d2,d3⟩|⟨d1,d2,d3⟩
  ·rw[hw]at d1
   rw[if_pos (g1 d1)]
   rw[nD T M _ hag]at d2
   cases hal:lI (cJ E z.2.op.op)with
   |false=>
    rcases C7 T M hc hal tE with⟨v1,p1⟩|p1
    ·exact same d1 (ER hc) (p1 hb) (fun ρ' w'=> .inr (.inl ⟨by rw[hst];exact d1,hc,hal,p1⟩))
    ·rw[p1]at d2;cases d2
   |true=>
    rcases R3 T M hal tE with⟨o,f,hf,p1⟩|p1
    ·obtain⟨m,X,w1,v',hmb,hw1,hr,hO,hv⟩:=Z8 hE T M hal hf (p1 hb) inv.at_.rt inv.at_.sim
     have hdf:∀c,z.2.op.op≠ .defer c:=fun c e=>by rw[e]at hal;cases hal
     refine⟨fun f _=>trivial,?_⟩
     rw[Oper.semAt_eq _ _ _ hdf,hr]
     have hwh:w1.heap=w.heap:=by rcases hw1 with e|e<;>subst e<;>rfl
     have hold:∀k,k<w.heap.size→(w1.alloc X).heap[k]?=w.heap[k]?:=fun k hk=>by
      rw[heap_alloc_old w1 X k (by rw[hwh];exact hk),hwh]
     have hlt:=C3 pf hzp
     have hnx:=inv.aA
     let ρ2:Ren:=⟨fun b=>if b=base+z.2.at_ then some m else ρ b,ρ.F⟩
     have hρ:∀b,b≠base+z.2.at_→ρ2 b=ρ b:=fun b e=>by show(if _ then _ else _)=_;rw[if_neg e]
     have hρz:ρ2 (base+z.2.at_)=some m:=by show(if _ then _ else _)=_;rw[if_pos rfl]
     have hren:∀b m',ρ b=some m'→ρ2 b=some m':=fun b m' e=>by
      rw[hρ b (fun e'=>by rw[e',hfr]at e;cases e)];exact e
     have hdead:∀b o,hb.t.get b=some o→b≠base+z.2.at_:=fun b o h e=>by
      obtain⟨m',h1,_⟩:=inv.at_.sim.obj b o h
      rw[e,hfr]at h1;cases h1
     have hliv:∀k,dQ ρ2 hb k→dQ ρ hb k:=fun k ⟨b,o',m',q1,q2,q3⟩=>⟨b,o',m',q1,by rw[hρ b (hdead b o' q1)]at q2;exact q2,q3⟩
     have k:n6 ρ w ρ2 (w1.alloc X):=⟨hren,fun k hk o=>fB (hold k (inv.at_.sim.old k hk)),fun _ e=>e⟩
     have s:=inv.at_.sim
     have hszX:(w1.alloc X).heap.size=w.heap.size+1:=by rw[World.size_alloc,hwh]
     have sim2:dI E ρ2 hb (w1.alloc X):=by
      refine⟨fun b o' hb'=> ?_,fun b b' o1 o2 m1 m2 h1 h2 r1 r2 e=> ?_,s.fresh,fun b hb'=> ?_,fun b m' e=> ?_,fun b o' m' hb' e hF=> ?_,fun k hk=>by rw[hszX];have:=s.old k hk;omega⟩
      ·obtain⟨m',hm',hor⟩:=s.obj b o' hb'
       exact⟨m',hren _ _ hm',hor.mono k (hold _ (s.low _ _ hm'))⟩
      ·rw[hρ b (hdead _ _ h1)]at r1
       rw[hρ b' (hdead _ _ h2)]at r2
       exact s.inj _ _ _ _ _ _ h1 h2 r1 r2 e
      ·rw[hρ b (by omega)];exact s.ren b hb'
      ·by_cases e':b=base+z.2.at_
       ·subst e';rw[hρz]at e;cases e;omega
       ·rw[hρ b e']at e;have:=s.low _ _ e;omega
      ·rw[hρ b (hdead _ _ hb')]at e;exact s.cold _ _ _ hb' e hF
     have st:gQ ρ0 h0 w0 ρ2 hb (w1.alloc X):=by
      have i:=inv.stp
      refine⟨fun b m' e=>hren _ _ (i.ext b m' e),by rw[hszX];have:=i.size;omega,fun k hk hnl=>by rw[hold k (Nat.lt_of_lt_of_le hk i.size)];exact i.keep k hk hnl,fun k hk=>i.live k (hliv k hk),i.aA,fun b hb'=>by rw[hρ b (by omega)];exact i.out b hb',
       ?_,?_,?_,fun l rr e=> ?_,fun k hk=> ?_,i.frz,i.frn⟩
      ·have:=i.os;rcases hw1 with e|e<;>subst e<;>exact this
      ·have:=i.tape;rcases hw1 with e|e<;>subst e<;>exact this
      ·have:=i.output;rcases hw1 with e|e<;>subst e<;>exact this
      ·obtain⟨r',q1,q2⟩:=i.loops l rr e
       exact⟨r',by rw[hold l (Array.getElem?_eq_some_iff.1 q1).1];exact q1,q2⟩
      ·rw[hold k (s.old k (i.frz k hk))];exact i.keepF k hk
     refine hK _ ρ2 _ _ (inv.more pf (v:=f (base+z.2.at_)) hz hl hm hne hdd k hρ (fun b hb' _=>hold b hb') hliv (fun _ _ _ h=>h) (fun m' e=>by rw[hρz]at e;cases e;omega) sim2 (hv _ _ _ hρz) st
      (fun l rec e=>⟨rec,by rw[hold l (Array.getElem?_eq_some_iff.1 e).1];exact e⟩) (by rw[hszX];omega) (.inr (.inr (.inl ⟨by rw[hst];exact d1,hc,hal,o,f,m,p1,rfl,hρz,hO ρ2 k,fun h=> ?_,fun h=> ?_⟩))))
     ·obtain⟨b,o',m',_,q2,q3⟩:=hliv _ h
      have:=s.low _ _ q2
      omega
     ·have:=s.old _ h
      omega
    ·rw[p1]at d2;cases d2
  ·exact skip d1 d2
end
end
section
section
variable{P:Program}{E:bE TypeInfo}{T:bE cX}{M:Nat→String→Option (Nat×Option fV)}{ops:Array Oper}{nt base:Nat}{Q:eK→Prop}
variable{bs n:Nat}{r:Option Nat}{ρ0 ρ:Ren}{h0 hb:aL}{w0 w:World}{pre rest s1 s2:List Pl}{hist:List aL}{tb tE t:PT}{listed:Array Bool}{a:Act}{z:Pl}
variable(pf:C5 E nt ops.toList (bM E ops.toList))
include pf
theorem Inv.past(inv:Inv P E T M ops nt base Q bs r ρ0 h0 w0 pre rest hist tb hb listed tE ρ w a)(hs:rest=s1++z::s2)(hl:¬i9 listed z)(hm:∀y,y∈bM E ops.toList→z.2.mask.testBit y.2.at_=true→i9 listed y)
  (hl1:∀y,y∈s1→i9 listed y) (he:iJ E z.2.op=true) {h' h1:aL} (q:sB P E T M ops nt base Q hist tb listed tE s1 (z::s2) t hist h') (hlv:∀k,dQ ρ h' k→dQ ρ hb k∨∃y m,y∈s1∧ρ (base+y.2.at_)=some m∧k=m.blk)
  (hnx:h'.aA=hb.aA) {d:Option bH} (hdd:qR nt z.2.op.dst=some d) {ρ':Ren} {w':World} {v:AV} {v':Value} (st:gQ ρ h' w ρ' h1 w') (sim':dI E ρ' h1 w') (rv:RV ρ' w' v v')
  (sem:nC P E T M ops nt base s2 (h1::hist) (put t v d) h1 Q):
  Inv P E T M ops nt base Q bs r ρ0 h0 w0 (pre++(s1++ [z])) s2 (h1::hist) (put t v d) h1 (listed.setIfInBounds z.2.at_ true) (put tE v d) ρ' w' (a.put z.2.op.dst v'):=by
 have hpl:bM E ops.toList=(pre++s1)++z::s2:=by rw[inv.split,hs];simp
 have hz:z∈rest:=by rw[hs];simp
 have hzp:z∈bM E ops.toList:=by rw[hpl];simp
 have inpl:∀{y},y∈rest→y∈bM E ops.toList:=fun{y} h=>by rw[inv.split];simp[h]
 have in2:∀{y},y∈s2→y∈rest:=fun{y} h=>by rw[hs];simp[h]
 have hzl:=C3 pf hzp
 have ls:∀{y:Pl},i9 (listed.setIfInBounds z.2.at_ true) y↔i9 listed y∨y.2.at_=z.2.at_:=zU inv.size hzl
 have hdp:lB nt z=d:=by unfold lB;rw[hdd];rfl
 have dne:∀{y:Pl} {p:bH},y∈bM E ops.toList→y.2.at_≠z.2.at_→lB nt y=some p→d≠some p:=fun{y p} hy hye hp e=>hye (pf.uniq y hy z hzp p hp (by rw[hdp];exact e))
 have ne2:∀{y},y∈s2→y.2.at_≠z.2.at_:=fun h e=>yP pf hpl h e.symm
 have ne1:∀{y},y∈s1→y.2.at_≠z.2.at_:=fun{y} h=>mL pf hpl (y:=y) (by simp[h])
 have lst2:∀{y},y∈s2→i9 (listed.setIfInBounds z.2.at_ true) y→i9 listed y:=fun h hly=>(ls.1 hly).resolve_right (ne2 h)
 have h0e:lA E s1=0:=by
  obtain⟨news,n1,n2⟩:=q.c
  have:=congrArg List.length n1
  rw[List.length_append]at this
  omega
 have hin:∀{y},y∈bM E ops.toList→base+y.2.at_<h'.aA:=fun{y} h=>by
  have:=C3 pf h
  have:=inv.aA
  omega
 have outp:∀{y},y∈bM E ops.toList→ρ' (base+y.2.at_)=ρ (base+y.2.at_):=fun{y} h=>st.out _ (.inl (hin h))
 have pk:∀{y m},y∈s2→ρ (base+y.2.at_)=some m→¬dQ ρ hb m.blk→¬dQ ρ h' m.blk:=fun{y m} hy hm' hnl hk=>by
  rcases hlv _ hk with h|⟨x,m',hx,hx',e⟩
  ·exact hnl h
  ·refine inv.parked y x m m' (in2 hy) (by rw[hs];simp[hx]) hm' hx' (fun e'=> ?_) e
   obtain⟨c,e2,hcd⟩:=List.append_of_mem hy
   exact pf.once ((pre++s1)++z::c) y e2 (by rw[hpl,hcd];simp) x (by simp[hx]) e'.symm
 have lvx:∀k,dQ ρ h' k→dQ ρ hb k∨∃y m,y∈rest∧ρ (base+y.2.at_)=some m∧k=m.blk:=fun k hk=>(hlv k hk).imp id fun⟨y,m,q1,q2,q3⟩=>⟨y,m,by rw[hs];simp[q1],q2,q3⟩
 have st0:gQ ρ0 h0 w0 ρ h' w:=by
  have i:=inv.stp
  refine⟨i.ext,i.size,i.keep,fun k hk=> ?_,by rw[hnx];exact i.aA,fun b hb'=>i.out b (by rw[hnx]at hb';exact hb'),i.os,i.tape,i.output,i.loops,i.keepF,i.frz,i.frn⟩
  rcases lvx k hk with h|⟨y,m,q1,q2,rfl⟩
  ·exact i.live k h
  ·exact .inr (inv.young y m q1 q2)
 refine⟨by rw[hpl];simp,by rw[List.length_cons,inv.len,jR,jR,h0e,pF,if_pos he],rfl,sem,by simp[inv.size],fun y hy=> ?_,fun y hy hly x hx hmx=> ?_,fun y hy hly=>inv.noeff y (in2 hy) (lst2 hy hly),fun p hp=> ?_,fun y hy hly=> ?_,fun y hy hly=> ?_,
  fun y1 y2 m1 m2 h1' h2' r1 r2 hne=> ?_,fun y m hy hm'=> ?_,st0.trans st,?_,?_,?_⟩
 ·rcases List.mem_append.1 hy with h|h
  ·exact ls.2 (.inl (inv.lpre y h))
  ·rcases List.mem_append.1 h with h|h
   ·exact ls.2 (.inl (hl1 y h))
   ·simp only[List.mem_singleton]at h
    exact ls.2 (.inr (by rw[h]))
 ·rcases ls.1 hly with h|h
  ·exact ls.2 (.inl (inv.closed y hy h x hx hmx))
  ·have:=C2 pf hy hzp h
   subst this
   exact ls.2 (.inl (hm x hx hmx))
 ·by_cases hdq:d=some p
  ·rw[vO hdq,vO hdq]
  ·rw[jC hdq,jC hdq]
   by_cases hex:∃y,y∈s1∧lB nt y=some p
   ·obtain⟨y,hy,hyp⟩:=hex
    rw[q.a y hy (hl1 y hy) p hyp]
   ·have hno:∀y,y∈s1→lB nt y≠some p:=fun y hy e=>hex ⟨y,hy,e⟩
    rw[q.b p hno]
    refine inv.tmps p (fun y hy hly=> ?_)
    rw[hs]at hy
    rcases List.mem_append.1 hy with h|h
    ·exact hno y h
    ·rcases List.mem_cons.1 h with h|h
     ·subst h;exact absurd hly hl
     ·exact hp y h (ls.2 (.inl hly))
 ·have hlo:=lst2 hy hly
  obtain⟨u,vy,hg,hv,ho⟩:=inv.early y (in2 hy) hlo
  have hyp:=inpl (in2 hy)
  have hmz:¬y.2.mask.testBit z.2.at_=true:=fun h=>hl (inv.closed y hyp hlo z hzp h)
  refine⟨u,vy,fun p hp=>⟨fun⟨x,hx,hlx,hdx,hmx⟩=> ?_,fun hn=> ?_⟩,fun p hp=> ?_,ho.mono st.toKeep (fun m hm' hnl=> ?_) ⟨[h1],rfl⟩⟩
  ·rw[jC (dne (inpl (in2 hx)) (ne2 hx) hdx)]
   exact(hg p hp).1 ⟨x,in2 hx,lst2 hx hlx,hdx,hmx⟩
  ·by_cases hex:∃x,x∈rest∧i9 listed x∧lB nt x=some p∧y.2.mask.testBit x.2.at_=true
   ·obtain⟨x,hx,hlx,hdx,hmx⟩:=hex
    have hx1:x∈s1:=by
     have hx':=hx
     rw[hs]at hx'
     rcases List.mem_append.1 hx' with h|h
     ·exact h
     ·rcases List.mem_cons.1 h with h|h
      ·subst h;exact absurd hlx hl
      ·exact absurd hmx (hn x h (ls.2 (.inl hlx)) hdx)
    rw[jC (dne (inpl hx) (ne1 hx1) hdx),q.a x hx1 hlx p hdx]
    exact(hg p hp).1 ⟨x,hx,hlx,hdx,hmx⟩
   ·rw[(hg p hp).2 (fun x hx hlx hdx hmx=>hex ⟨x,hx,hlx,hdx,hmx⟩)]
    have hbef:∀x,x∈s1∨x=z→lB nt x=some p→False:=by
     intro x hx hdx
     have hxr:x∈rest:=by rw[hs];rcases hx with h|h<;>simp[h]
     obtain⟨c,e,hcd⟩:=List.append_of_mem hy
     have hpl2:bM E ops.toList=((pre++s1)++z::c)++y::e:=by rw[hpl,hcd];simp
     have hxy:x.2.at_≠y.2.at_:=mL pf hpl2 (y:=x) (by rcases hx with h|h<;>simp[h])
     rcases pf.fits y hyp x (inpl hxr) p hdx hp with h|h|h
     ·rcases hx with hx|hx
      ·exact hex ⟨x,hxr,hl1 x hx,hdx,h⟩
      ·subst hx;exact hmz h
     ·obtain⟨c',e',hcd'⟩:=List.append_of_mem (inpl hxr)
      obtain⟨x2,hx2,hx2e⟩:=pf.topo c' x e' hcd' y hyp h
      have hx2p:x2∈bM E ops.toList:=by rw[hcd'];simp[hx2]
      have:=C2 pf hx2p hyp hx2e
      subst this
      obtain⟨c2,e2,rfl⟩:=List.append_of_mem hx2
      have h3:bM E ops.toList=c2++x2::(e2++x::e'):=by rw[hcd'];simp
      have hx1':x∈(pre++s1)++z::c:=by rcases hx with h|h<;>simp[h]
      obtain⟨c3,e3,hc3⟩:=List.append_of_mem hx1'
      have h4:bM E ops.toList=c3++x::(e3++x2::e):=by rw[hpl2,hc3];simp
      have hb1:x.2.at_≠x2.2.at_:=hxy
      have f:∀(l:List Pl) (A B C A' B' C':List Pl),l=A++x2::(B++x::C)→l=A'++x::(B'++x2::C')→(∀l1 z l2,l=l1++z::l2→∀y,y∈l1→y.2.at_≠z.2.at_)→False:=by
       intro l
       induction l with
       |nil=>intro A B C A' B' C' h;simp at h
       |cons o l ih=>
        intro A B C A' B' C' e1 e2 hone
        have hone':∀l1 z l2,l=l1++z::l2→∀y,y∈l1→y.2.at_≠z.2.at_:=fun l1 z l2 e y hy=>hone (o::l1) z l2 (by rw[e];rfl) y (by simp[hy])
        cases A with
        |nil=>
         simp only[List.nil_append,List.cons.injEq]at e1
         obtain⟨rfl,e1⟩:=e1
         cases A' with
         |nil=>simp only[List.nil_append,List.cons.injEq]at e2;exact hb1 (by rw[e2.1])
         |cons o' A'=>
          simp only[List.cons_append,List.cons.injEq]at e2
          exact hone (o::(A'++x::B')) o C' (by rw[e2.2];simp) o (by simp) rfl
        |cons o1 A=>
         simp only[List.cons_append,List.cons.injEq]at e1
         cases A' with
         |nil=>
          simp only[List.nil_append,List.cons.injEq]at e2
          obtain⟨rfl,e2⟩:=e2
          exact hone (o::(A++x2::B)) o C (by rw[e1.2];simp) o (by simp) rfl
         |cons o2 A'=>
          simp only[List.cons_append,List.cons.injEq]at e2
          exact ih A B C A' B' C' e1.2 e2.2 hone'
      exact f _ _ _ _ _ _ _ h3 h4 pf.once
     ·exact hxy h.symm
    rw[jC (fun e=>hbef z (.inr rfl) (by rw[hdp];exact e)),q.b p (fun x hx hdx=>hbef x (.inl hx) hdx)]
  ·rw[jC (dne hyp (ne2 hy) hp)]
   exact hv p hp
  ·have hnl':=pk hy hm' hnl
   have hlt:=inv.at_.sim.low _ _ hm'
   exact⟨st.keep _ hlt hnl',fun h=>(st.live _ h).elim hnl' (fun h=>by omega),fun hf h=>(st.frn _ h).elim hf (fun h=>h.elim hnl' (fun h=>by omega))⟩
 ·rw[outp (inpl (in2 hy))]
  exact inv.fresh y (in2 hy) (fun h=>hly (ls.2 (.inl h)))
 ·rw[outp (inpl (in2 h1'))]at r1
  rw[outp (inpl (in2 h2'))]at r2
  exact inv.parked y1 y2 m1 m2 (in2 h1') (in2 h2') r1 r2 hne
 ·rw[outp (inpl (in2 hy))]at hm'
  exact inv.young y m (in2 hy) hm'
 ·obtain⟨q1,q2,q3⟩:=PE (v':=v') (a:=a) (inv.at_.rt.stp st) inv.at_.size hdd rv
  refine⟨sim',inv.at_.glob.stp st,q1,q2,inv.at_.small,?_,Nat.le_trans inv.at_.low st.size⟩
  rw[q3]
  refine inv.frame.mono (fun b hb hnl=> ?_) (fun l rec e=>let⟨r',h1,_⟩:=st.loops l rec e;⟨r',h1⟩)
  have hnl':¬dQ ρ h' b:=fun h=>hnl (lvx b h)
  exact⟨st.keep b hb hnl',fun h=>(st.live b h).elim hnl' (fun h=>by omega)⟩
 ·have q3:(a.put z.2.op.dst v').defers=a.defers:=by cases z.2.op.dst<;>rfl
  rw[q3]
  refine inv.frame.mono (fun b hb hnl=> ?_) (fun l rec e=>let⟨r',h1,_⟩:=st.loops l rec e;⟨r',h1⟩)
  have hnl':¬dQ ρ h' b:=fun h=>hnl (lvx b h)
  refine⟨st.keep b hb hnl',?_⟩
  rintro(h|⟨y,m,hy,hm',rfl⟩)
  ·exact(st.live b h).elim hnl' (fun h=>by omega)
  ·rw[outp (inpl (in2 hy))]at hm'
   exact hnl (.inr ⟨y,m,in2 hy,hm',rfl⟩)
 ·have:=st.aA
  have:=inv.aA
  exact⟨this.1,by omega⟩
theorem Inv.do_eff(inv:Inv P E T M ops nt base Q bs r ρ0 h0 w0 pre rest hist tb hb listed tE ρ w a)(hz:z∈rest)(hl:¬i9 listed z)(hm:∀y,y∈bM E ops.toList→z.2.mask.testBit y.2.at_=true→i9 listed y)
  (he:iJ E z.2.op=true) {K:Act→World→Prop} {Qx:Exit→Act→World→Prop}
  (hK:∀pre' rest' hist' tb' hb' tE' ρ' w' a',Inv P E T M ops nt base Q bs r ρ0 h0 w0 pre' rest' hist' tb' hb' (listed.setIfInBounds z.2.at_ true) tE' ρ' w' a'→K a' w'):wpOpIn (Fc r) n P ops Qx z.2.at_ K a w:=by
 have hzp:z∈bM E ops.toList:=by rw[inv.split];simp[hz]
 obtain⟨g,d,hgg,hdd,hst,hdp⟩:=zV (E:=E) pf hzp
 have hop:ops[z.2.at_]?=some z.2.op:=by simpa using pf.op z hzp
 obtain⟨s1,s2,hs⟩:=List.append_of_mem hz
 have hpl:bM E ops.toList=(pre++s1)++z::s2:=by rw[inv.split,hs];simp
 have hl1:∀y,y∈s1→i9 listed y:=fun y hy=>hm y (by rw[hpl];simp[hy]) (pf.eff _ _ _ hpl he y (by simp[hy]))
 obtain⟨t,h',q,sim,hnx,hlv⟩:=Inv.adopt pf inv (s2:=z::s2) s1 [] (by simpa using hs) hl1 ⟨_,_,by rw[←hs];exact inv.rch0 pf,inv.at_.sim,rfl,fun k hk=> .inl hk⟩
 have q:sB P E T M ops nt base Q hist tb listed tE s1 (z::s2) t hist h':=q
 have ag:Ag E nt ops z t tE:=q.ag pf inv hs hm (inv.good pf hz hl hm)
 obtain⟨hw,hu⟩:=ag.guard hgg
 obtain⟨g1,g2⟩:=vQ (ops:=ops) inv.at_ hgg
 unfold wpOpIn
 simp only[hop]
 have hd:=q.d
 unfold nC at hd
 rw[hst]at hd
 simp only at hd
 have hc:wX (cJ E z.2.op.op)= .eff:=by
  unfold iJ at he
  cases hc:wX (cJ E z.2.op.op)<;>rw[hc]at he<;>first|rfl|cases he
 simp only[hc]at hd
 have lvx:∀k,dQ ρ h' k→dQ ρ hb k∨∃y m,y∈rest∧ρ (base+y.2.at_)=some m∧k=m.blk:=fun k hk=>(hlv k hk).imp id fun⟨y,m,q1,q2,q3⟩=>⟨y,m,by rw[hs];simp at q1;simp[q1],q2,q3⟩
 rcases hd with⟨d1,R,_,d2,d3⟩|⟨d1,d2,d3⟩
 ·rw[hw]at d1
  rw[if_pos (g1 d1)]
  have hat:At E bs r nt ρ h' w tE a:=⟨sim,inv.at_.glob,inv.at_.rt,inv.at_.size,inv.at_.small,inv.frame.mono (fun b hb hnl=>⟨rfl,fun h=>hnl (lvx b h)⟩) (fun l rec e=>⟨rec,e⟩),inv.at_.low⟩
  refine d2 tE ag.agree bs nt n r ρ w a K Qx hat (fun ρ' w' v' v h1 hR st sim' rv=> ?_)
  exact hK _ _ _ _ _ _ _ _ _ (inv.past pf hs hl hm hl1 he q (by simpa using hlv) hnx hdd st sim' rv (d3 v h1 hR))
 ·rw[hw]at d1
  rw[hu]at d2
  rw[if_neg (by rw[g2 d1 d2];simp)]
  exact⟨fun _ _=>trivial,hK _ _ _ _ _ _ _ _ _ (inv.past pf hs hl hm hl1 he q (by simpa using hlv) hnx hdd (gQ.refl _ _ _) sim lD d3)⟩
theorem Inv.finish(inv:Inv P E T M ops nt base Q bs r ρ0 h0 w0 pre rest hist tb hb listed tE ρ w a)(hl:∀y,y∈rest→i9 listed y):vS E bs r nt ρ0 h0 w0 Q .normal a w:=by
 obtain⟨t,h',q,sim,hnx,hlv⟩:=Inv.adopt pf inv (s2:= []) rest [] (by simp) hl ⟨_,_,by rw[List.append_nil];exact inv.rch0 pf,inv.at_.sim,rfl,fun k hk=> .inl hk⟩
 have q:sB P E T M ops nt base Q hist tb listed tE rest [] t hist h':=q
 have lvx:∀k,dQ ρ h' k→dQ ρ hb k∨∃y m,y∈rest∧ρ (base+y.2.at_)=some m∧k=m.blk:=fun k hk=>(hlv k hk).imp id fun⟨y,m,q1,q2,q3⟩=>⟨y,m,by simpa using q1,q2,q3⟩
 have hsem:Q (.norm t h'):=q.d
 refine⟨_,hsem,rfl,ρ,?_,sim,fun i hi=> ?_,inv.at_.size,inv.frame.mono (fun b hb hnl=>⟨rfl,fun h=>hnl (lvx b h)⟩) (fun l rec e=>⟨rec,e⟩)⟩
 ·have i:=inv.stp
  refine⟨i.ext,i.size,i.keep,fun k hk=> ?_,by rw[hnx];exact i.aA,fun b hb'=>i.out b (by rw[hnx]at hb';exact hb'),i.os,i.tape,i.output,i.loops,i.keepF,i.frz,i.frn⟩
  rcases lvx k hk with h|⟨y,m,q1,q2,rfl⟩
  ·exact i.live k h
  ·exact .inr (inv.young y m q1 q2)
 ·have:t.get (aM i)=tE.get (aM i):=by
   by_cases hex:∃y,y∈rest∧lB nt y=some (aM i)
   ·obtain⟨y,hy,hyp⟩:=hex
    exact q.a y hy (hl y hy) _ hyp
   ·rw[q.b _ (fun y hy e=>hex ⟨y,hy,e⟩),inv.tmps _ (fun y hy _ e=>hex ⟨y,hy,e⟩)]
  rw[this]
  exact inv.at_.rt i hi
end
end
section
section
variable{P:Program}{E:bE TypeInfo}(hE:∀t i,E.get t=some i→P.info? t=some i)(hF:∀t ks,FY E t= .flat ks→P.stoodInHeld t=false∧P.eqGuardType P.depth t=false)
variable{T:bE cX}{M:Nat→String→Option (Nat×Option fV)}{ops:Array Oper}{nt base:Nat}{Q:eK→Prop}
variable{bs n:Nat}{r:Option Nat}{ρ0:Ren}{h0:aL}{w0:World}
theorem KK{listed:Array Bool}{z:Pl}(h:listed.getD z.2.at_ true=false):¬i9 listed z:=by
 unfold i9
 simp only[Array.getD_eq_getD_getElem?]at h⊢
 cases hx:listed[z.2.at_]? with
 |none=>rw[hx]at h;simp at h
 |some b=>rw[hx]at h;simp at h;simp[h]
theorem RX{listed:Array Bool}{z:Pl}(hz:z.2.at_<listed.size)(h:¬i9 listed z):listed.getD z.2.at_ true=false:=by
 unfold i9 at h
 simp only[Array.getD_eq_getD_getElem?]at h⊢
 rw[Array.getElem?_eq_getElem hz]at h⊢
 simpa using h
theorem KL{listed:Array Bool}:∀{l:List Pl},(∃y,y∈l∧¬i9 listed y)→∃l1 z l2,l=l1++z::l2∧¬i9 listed z∧∀y,y∈l1→i9 listed y
 | [],⟨y,hy,_⟩=>by simp at hy
 |x::l,⟨y,hy,hl⟩=>by
  by_cases hx:i9 listed x
  ·obtain⟨l1,z,l2,e,h1,h2⟩:=KL (l:=l) (listed:=listed) ⟨y,by
    rcases List.mem_cons.1 hy with h|h
    ·subst h;exact absurd hx hl
    ·exact h,hl⟩
   exact⟨x::l1,z,l2,by rw[e];rfl,h1,fun y hy=>by
    rcases List.mem_cons.1 hy with h|h
    ·subst h;exact hx
    ·exact h2 y h⟩
  ·exact⟨[],x,l,rfl,hx,fun y hy=>by simp at hy⟩
theorem filter_lt{α:Type}{p q:α→Bool}:∀{l:List α},(∀x,x∈l→q x=true→p x=true)→(∃x,x∈l∧p x=true∧q x=false)→(l.filter q).length<(l.filter p).length
 | [],_,⟨x,hx,_⟩=>by simp at hx
 |y::l,h,⟨x,hx,hp,hq⟩=>by
  have le:∀{l:List α},(∀x,x∈l→q x=true→p x=true)→(l.filter q).length≤(l.filter p).length:=by
   intro l
   induction l with
   |nil=>simp
   |cons z l ih=>
    intro h
    have:=ih (fun x hx=>h x (by simp[hx]))
    have hz:=h z (by simp)
    simp only[List.filter_cons]
    cases hq:q z
    ·cases p z<;>simp<;>omega
    ·rw[hz hq];simp;omega
  rcases List.mem_cons.1 hx with e|hx
  ·subst e
   simp only[List.filter_cons,hp,hq]
   have:=le (l:=l) (fun x hx=>h x (by simp[hx]))
   simp;omega
  ·have:=filter_lt (l:=l) (fun x hx=>h x (by simp[hx])) ⟨x,hx,hp,hq⟩
   have hy:=h y (by simp)
   simp only[List.filter_cons]
   cases hq:q y
   ·cases p y<;>simp<;>omega
   ·rw[hy hq];simp;omega
theorem C1:∀(N:Nat) (l:List Nat),l.Nodup→(∀i,i∈l→i<N)→l.length≤N
 |0,l,_,h=>by
  cases l with
  |nil=>simp
  |cons x l=>exact absurd (h x (by simp)) (by omega)
 |N+1,l,hn,h=>by
  by_cases hN:N∈l
  ·obtain⟨a,b,rfl⟩:=List.append_of_mem hN
   rw[List.nodup_append]at hn
   obtain⟨n1,n2,n3⟩:=hn
   rw[List.nodup_cons]at n2
   have:=C1 N (a++b) (List.nodup_append.2 ⟨n1,n2.2,fun x hx y hy=>n3 x hx y (by simp[hy])⟩) (fun i hi=>by
    rcases List.mem_append.1 hi with h'|h'
    ·have h1:=h i (by simp[h'])
     have h2:i≠N:=n3 i h' N (by simp)
     omega
    ·have h1:=h i (by simp[h'])
     have h2:i≠N:=fun e=>n2.1 (e▸h')
     omega)
   simp at this⊢
   omega
  ·have:=C1 N l hn (fun i hi=>by
    have h1:=h i hi
    have h2:i≠N:=fun e=>hN (e▸hi)
    omega)
   omega
section
variable(pf:C5 E nt ops.toList (bM E ops.toList))
include hE hF pf
theorem UL:∀(fuel:Nat) (pre rest:List Pl) (hist:List aL) (tb:PT) (hb:aL) (listed:Array Bool) (tE:PT) (ρ:Ren) (w:World) (a:Act),Inv P E T M ops nt base Q bs r ρ0 h0 w0 pre rest hist tb hb listed tE ρ w a→
  ((bM E ops.toList).filter fun z=> !(listed.getD z.2.at_ false)).length≤fuel→wpAnyIn (Fc r) n P .any ops (vS E bs r nt ρ0 h0 w0 Q) fuel listed a w:=by
 intro fuel
 induction fuel with
 |zero=>
  intro pre rest hist tb hb listed tE ρ w a inv hc
  have hall:∀y,y∈bM E ops.toList→i9 listed y:=by
   intro y hy
   have:=List.filter_eq_nil_iff.1 (List.length_eq_zero_iff.1 (Nat.le_zero.1 hc)) y hy
   simpa[i9]using this
  refine⟨?_,inv.finish pf (fun y hy=>hall y (by rw[inv.split];simp[hy]))⟩
  rw[List.eq_nil_iff_forall_not_mem]
  intro i hi
  obtain⟨q1,o,q2,-⟩:=mem_ready.1 hi
  obtain⟨z,hz,rfl⟩:=pf.all i o (by simpa using q2)
  exact KK q1 (hall z hz)
 |succ fuel ih=>
  intro pre rest hist tb hb listed tE ρ w a inv hc
  refine⟨fun hr=>inv.finish pf (fun y hy=> ?_),fun i hi=> ?_⟩
  ·apply Classical.byContradiction
   intro hly
   obtain⟨l1,z,l2,e,h1,h2⟩:=KL (l:=bM E ops.toList) (listed:=listed) ⟨y,by rw[inv.split];simp[hy],hly⟩
   have hz:z∈bM E ops.toList:=by rw[e];simp
   have:z.2.at_∈Region.ready .any ops listed:=by
    refine mem_ready.2 ⟨RX (by rw[inv.size];exact C3 pf hz) h1,z.2.op,by simpa using pf.op z hz,fun ed hed hb=> ?_⟩
    obtain⟨m1,m2⟩:=pf.direct z hz ed hed hb
    obtain⟨y',hy',hye⟩:=pf.all ed.on _ (aC m2)
    obtain⟨x,hx,hxe⟩:=pf.topo _ _ _ e y' hy' (by rw[hye];exact m1)
    have:=h2 x hx
    unfold i9 at this
    rw[hxe,hye]at this
    exact this
   rw[hr]at this
   simp at this
  ·obtain⟨q1,o,q2,q3⟩:=mem_ready.1 hi
   obtain⟨z,hz,rfl⟩:=pf.all i o (by simpa using q2)
   have hl:=KK q1
   have hzr:z∈rest:=by
    have:=hz
    rw[inv.split]at this
    rcases List.mem_append.1 this with h|h
    ·exact absurd (inv.lpre z h) hl
    ·exact h
   have hop:ops[z.2.at_]?=some z.2.op:=by simpa using pf.op z hz
   rw[hop]at q2
   cases q2
   have hm:∀y,y∈bM E ops.toList→z.2.mask.testBit y.2.at_=true→i9 listed y:=by
    intro y hy hmy
    obtain⟨e,he,hb,h⟩:=pf.mask z hz y hy hmy
    have hle:=q3 e he hb
    rcases h with h|⟨x,hx,hxe,hxm⟩
    ·unfold i9;rw[←h];exact hle
    ·exact inv.closed x hx (by unfold i9;rw[hxe];exact hle) y hy hxm
   have hcnt:((bM E ops.toList).filter fun y=> !((listed.setIfInBounds z.2.at_ true).getD y.2.at_ false)).length≤fuel:=by
    have hzl:=C3 pf hz
    have:=filter_lt (l:=bM E ops.toList) (p:=fun y=> !(listed.getD y.2.at_ false)) (q:=fun y=> !((listed.setIfInBounds z.2.at_ true).getD y.2.at_ false)) (fun y hy h=>by
     have h:¬i9 (listed.setIfInBounds z.2.at_ true) y:=by simpa[i9]using h
     rw[zU inv.size hzl]at h
     simpa[i9]using fun h'=>h (.inl h')) ⟨z,hz,by simpa[i9]using hl,by
     have:=(zU (y:=z) inv.size hzl).2 (.inr rfl)
     unfold i9 at this
     rw[this]
     rfl⟩
    omega
   cases he:iJ E z.2.op with
   |true=>exact inv.do_eff pf hzr hl hm he (fun pre' rest' hist' tb' hb' tE' ρ' w' a' inv'=>ih _ _ _ _ _ _ _ _ _ _ inv' hcnt)
   |false=>exact inv.do_early hE hF pf hzr hl hm he (fun tE' ρ' w' a' inv'=>ih _ _ _ _ _ _ _ _ _ _ inv' hcnt)
end
include hE hF in
theorem UM(hm:P.follows .mixedOrders=true){id:Nat}{t:PT}{h:aL}(hok:D2 E nt ops.toList=true)
  (hD:nC P E T M ops nt h.aA (bM E ops.toList) [⟨h.t,h.aA+ops.size⟩] t ⟨h.t,h.aA+ops.size⟩ Q):zW P E nt (.region id ops true) t h Q:=by
 intro bs r n ρ w a x
 have pf:=RZ E nt hok
 refine wpIn_region_any hm ?_
 have hz:∀z:Pl,z∈bM E ops.toList→ρ (h.aA+z.2.at_)=none:=fun z _=>x.sim.ren _ (by omega)
 have hnl:∀z:Pl,¬i9 (Array.replicate ops.size false) z:=fun z=>by
  unfold i9
  simp only[Array.getD_eq_getD_getElem?,Array.getElem?_replicate]
  split<;>simp
 refine UL hE hF pf ops.size [] (bM E ops.toList) _ t _ (Array.replicate ops.size false) t ρ w.drew a ⟨rfl,rfl,rfl,hD,by simp,fun z h=>by simp at h,fun z _ h=>absurd h (hnl z),fun z _ h=>absurd h (hnl z),fun _ _=>rfl,fun z _ h=>absurd h (hnl z),fun z h _=>hz z h,
  fun z y m m' h _ e=>(by rw[hz z h]at e;cases e),fun z m h e=>(by rw[hz z h]at e;cases e),?_,?_,?_,rfl,aE _⟩ ?_
 ·have t:=gQ.drew ρ h w
  exact⟨t.ext,t.size,t.keep,t.live,by show h.aA≤h.aA+ops.size;omega,fun _ _=>rfl,t.os,t.tape,t.output,t.loops,t.keepF,t.frz,t.frn⟩
 ·have s:=x.sim.drew
  exact⟨⟨s.obj,s.inj,fun b hb=>s.fresh b (Nat.le_trans (Nat.le_add_right _ _) hb),fun b hb=>s.ren b (Nat.le_trans (Nat.le_add_right _ _) hb),s.low,s.cold,s.old⟩,x.glob.stp (gQ.drew ρ h w),x.rt.stp (gQ.drew ρ h w),x.size,x.small,(by have:=x.frame.stp (gQ.drew ρ h w);exact this),x.low⟩
 ·refine jD.mono (w:=w) (w':=w.drew) (fun b _ hb=>⟨rfl,?_⟩) (fun l rec e=>⟨rec,e⟩) x.frame
  rintro(h'|⟨z,m,h1,h2,_⟩)
  ·exact hb h'
  ·rw[hz z h1]at h2;cases h2
 ·refine Nat.le_trans (List.length_filter_le _ _) ?_
  have key:∀(l:List Pl),(∀z,z∈l→z.2.at_<ops.size)→(∀l1 z l2,l=l1++z::l2→∀y,y∈l1→y.2.at_≠z.2.at_)→l.length≤ops.size:=by
   intro l h1 h2
   have hnd:(l.map fun z=>z.2.at_).Nodup:=by
    have:∀(l:List Pl),(∀l1 z l2,l=l1++z::l2→∀y,y∈l1→y.2.at_≠z.2.at_)→(l.map fun z=>z.2.at_).Nodup:=by
     intro l
     induction l with
     |nil=>intro _;simp
     |cons z l ih=>
      intro h
      rw[List.map_cons,List.nodup_cons]
      refine⟨?_,ih (fun l1 z' l2 e y hy=>h (z::l1) z' l2 (by rw[e];rfl) y (by simp[hy]))⟩
      intro hh
      obtain⟨y,hy,hye⟩:=List.mem_map.1 hh
      obtain⟨c,d,rfl⟩:=List.append_of_mem hy
      exact h (z::c) y d rfl z (by simp) hye.symm
    exact this l h2
   have:=C1 ops.size _ hnd (fun i hi=>by
    obtain⟨z,hz,rfl⟩:=List.mem_map.1 hi
    exact h1 z hz)
   simpa using this
  exact key _ (fun z hz=>C3 pf hz) pf.once
end
end
section
mutual
def idless:AV→Bool
 | .bool _=>true
 | .int .. =>true
 | .str _=>true
 | .gptr .. =>true
 | .rptr l=>bP l
 | .nilp=>true
 | .rslice l _ _ _=>bP l
 | .aB=>true
 | .nilm=>true
 | .func (.func _) f c=>bP f&&bP c
 | .nilf=>true
 | .iface _ v=>idless v
 | .nili=>true
 | .agg l=>bP l
 | .tuple l=>bP l
 |_=>false
def bP:List AV→Bool
 | []=>true
 |v::l=>idless v&&bP l
end
mutual
inductive Fz(t:bE AO)(n0:Nat):AV→AV→Prop
 |same {v}:idless v=true→Fz t n0 v v
 |ptr {b off}:b<n0→Fz t n0 (.ptr b off) (.ptr b off)
 |map {b}:b<n0→Fz t n0 (.map b) (.map b)
 |old {b off len cap kind}:b<n0→Fz t n0 (.slice b off len cap kind) (.slice b off len cap kind)
 |slice {b off len cap kind l m l2}:n0≤b→t.get b=some (.cells l)→oD t n0 ((l.drop off).take m) l2→Fz t n0 (.slice b off len cap kind) (.rslice l2 len len false)
 |aB:Fz t n0 .aB (.rslice [] 0 0 false)
 |agg {l l2}:oD t n0 l l2→Fz t n0 (.agg l) (.agg l2)
 |tuple {l l2}:oD t n0 l l2→Fz t n0 (.tuple l) (.tuple l2)
inductive oD(t:bE AO)(n0:Nat):List AV→List AV→Prop
 |nil:oD t n0 [] []
 |cons {v v2 l l2}:Fz t n0 v v2→oD t n0 l l2→oD t n0 (v::l) (v2::l2)
end
def Z6(t:bE AO)(n0:Nat)(o o' o2:Option AO):Prop:=
 o2=none∨(o2=o'∧o'=o)∨(∃l l2,o'=some (.cells l)∧o2=some (.cells l2)∧oD t n0 l l2)∨(∃es c,o'=some (.map es c)∧o2=o'∧∀e,e∈es→idless e.1=true∧idless e.2.1=true)
structure Z7(h h':aL)(v v2:AV)(h2:aL):Prop where
 val:Fz h'.t h.aA v v2
 aA:h2.aA=h.aA
 new:∀b,h.aA≤b→h2.t.get b=none∨h2.t.get b=h.t.get b
 obj:∀b,b<h.aA→Z6 h'.t h.aA (h.t.get b) (h'.t.get b) (h2.t.get b)
section
variable{E:bE TypeInfo}{ρ ρ1 ρ2:Ren}{w w1:World}
mutual
theorem RV.idless(hF:∀k,ρ1.F k→ρ2.F k):∀(a:AV) (v:Value),idless a=true→RV ρ1 w a v→RV ρ2 w a v
 | .bool _,_,_,h=>h
 | .int _ _,_,_,h=>h
 | .str _,_,_,h=>h
 | .ptr _ _,_,hi,_=>by simp[Ev.idless]at hi
 | .gptr _ _,_,_,h=>h
 | .rptr l,_,hi,⟨k,off,e,hk,hc⟩=>⟨k,off,e,hF k hk,RC.idless hF l k off hi hc⟩
 | .nilp,_,_,h=>h
 | .slice _ _ _ _ _,_,hi,_=>by simp[Ev.idless]at hi
 | .rslice l _ _ _,_,_,.inl h=> .inl h
 | .rslice l _ _ _,_,hi,.inr ⟨k,off,c,e,hle,hlc,hex,hk,hc⟩=> .inr ⟨k,off,c,e,hle,hlc,hex,hF k hk,hc.imp id (RC.idless hF l k off hi)⟩
 | .aB,_,_,h=>h
 | .map _,_,hi,_=>by simp[Ev.idless]at hi
 | .nilm,_,_,h=>h
 | .func fn f c,_,hi,⟨fn',f',c',e,hf,hc,hn⟩=>by
  cases fn with
  |func g=>
   simp only[Ev.idless,aI]at hi
   exact⟨fn',f',c',e,dH.idless hF f _ hi.1 hf,dH.idless hF c _ hi.2 hc,hn⟩
  |_=>simp[Ev.idless]at hi
 | .nilf,_,_,h=>h
 | .iface _ x,_,hi,⟨u,e,h⟩=>⟨u,e,RV.idless hF x u hi h⟩
 | .nili,_,_,h=>h
 | .agg l,_,hi,⟨vs,e,h,ho⟩=>⟨vs,e,dH.idless hF l _ hi h,ho⟩
 | .tuple l,_,hi,⟨vs,e,h⟩=>⟨vs,e,dH.idless hF l _ hi h⟩
 | .other,_,_,h=>h
theorem dH.idless(hF:∀k,ρ1.F k→ρ2.F k):∀(l:List AV) (vs:List Value),bP l=true→dH ρ1 w l vs→dH ρ2 w l vs
 | [],_,_,h=>h
 |a::l,_,hi,⟨v,us,e,ha,hl⟩=>by
  simp only[bP,aI]at hi
  exact⟨v,us,e,RV.idless hF a v hi.1 ha,dH.idless hF l us hi.2 hl⟩
theorem RC.idless(hF:∀k,ρ1.F k→ρ2.F k):∀(l:List AV) (k off:Nat),bP l=true→RC ρ1 w l k off→RC ρ2 w l k off
 | [],_,_,_,h=>h
 |a::l,k,off,hi,⟨⟨v,hc,ho,ha⟩,hr⟩=>by
  simp only[bP,aI]at hi
  exact⟨⟨v,hc,ho,RV.idless hF a v hi.1 ha⟩,RC.idless hF l k (off+1) hi.2 hr⟩
end
mutual
theorem RV.carry(hr:∀b m,ρ b=some m→ρ2 b=ρ1 b)(hF:∀k,ρ1.F k→ρ2.F k):∀(a:AV) (v0 v:Value),RV ρ w a v0→RV ρ1 w1 a v→RV ρ2 w1 a v
 | .bool _,_,_,_,h=>h
 | .int _ _,_,_,_,h=>h
 | .str _,_,_,_,h=>h
 | .ptr _ _,_,_,⟨m0,e0,_⟩,⟨m,e,h⟩=>⟨m,by rw[hr _ _ e0];exact e,h⟩
 | .gptr _ _,_,_,_,h=>h
 | .rptr l,_,_,⟨k0,off0,_,_,hc0⟩,⟨k,off,e,hk,hc⟩=>⟨k,off,e,hF k hk,RC.carry hr hF l k0 off0 k off hc0 hc⟩
 | .nilp,_,_,_,h=>h
 | .slice _ _ _ _ _,_,_,⟨m0,_,_,e0,_⟩,⟨m,c,o,e,h⟩=>⟨m,c,o,by rw[hr _ _ e0];exact e,h⟩
 | .rslice l _ _ _,_,_,_,.inl h=> .inl h
 | .rslice l _ _ _,_,_,.inl ⟨h0,h1,_⟩,.inr ⟨k,off,c,e,hle,hlc,hex,hk,hc⟩=> .inl ⟨h0,h1,.inr ⟨⟨k,off,none⟩,c,by rw[e,h0],fun h=>by rw[hex h,h1]⟩⟩
 | .rslice l _ _ _,_,_,.inr ⟨k0,off0,c0,_,h1,h2,_,_,hc0⟩,.inr ⟨k,off,c,e,hle,hlc,hex,hk,hc⟩=>by
  rcases hc0 with hc0|hc0
  ·exact .inl ⟨by omega,by omega,.inr ⟨⟨k,off,none⟩,c,by rw[e];congr 1;omega,fun h=>by rw[hex h];omega⟩⟩
  ·exact .inr ⟨k,off,c,e,hle,hlc,hex,hF k hk,hc.imp id (RC.carry hr hF l k0 off0 k off hc0)⟩
 | .aB,_,_,_,h=>h
 | .map _,_,_,⟨m0,e0,_⟩,⟨m,e,h⟩=>⟨m,by rw[hr _ _ e0];exact e,h⟩
 | .nilm,_,_,_,h=>h
 | .func fn f c,_,_,⟨fn0,f0,c0,_,hf0,hc0,hn0⟩,⟨fn',f',c',e,hf,hc,hn⟩=>⟨fn',f',c',e,dH.carry hr hF f _ _ hf0 hf,dH.carry hr hF c _ _ hc0 hc,by
   cases fn<;>first
    |exact hn
    |(obtain⟨m0,e0,_⟩:=hn0;obtain⟨m,e1,e2⟩:=hn;exact⟨m,by rw[hr _ _ e0];exact e1,e2⟩)⟩
 | .nilf,_,_,_,h=>h
 | .iface _ x,_,_,⟨u0,_,h0⟩,⟨u,e,h⟩=>⟨u,e,RV.carry hr hF x u0 u h0 h⟩
 | .nili,_,_,_,h=>h
 | .agg l,_,_,⟨vs0,_,h0,_⟩,⟨vs,e,h,ho⟩=>⟨vs,e,dH.carry hr hF l _ _ h0 h,ho⟩
 | .tuple l,_,_,⟨vs0,_,h0⟩,⟨vs,e,h⟩=>⟨vs,e,dH.carry hr hF l _ _ h0 h⟩
 | .other,_,_,_,h=>h
theorem dH.carry(hr:∀b m,ρ b=some m→ρ2 b=ρ1 b)(hF:∀k,ρ1.F k→ρ2.F k):∀(l:List AV) (vs0 vs:List Value),dH ρ w l vs0→dH ρ1 w1 l vs→dH ρ2 w1 l vs
 | [],_,_,_,h=>h
 |a::l,_,_,⟨v0,us0,_,ha0,hl0⟩,⟨v,us,e,ha,hl⟩=>⟨v,us,e,RV.carry hr hF a v0 v ha0 ha,dH.carry hr hF l us0 us hl0 hl⟩
theorem RC.carry(hr:∀b m,ρ b=some m→ρ2 b=ρ1 b)(hF:∀k,ρ1.F k→ρ2.F k):∀(l:List AV) (k0 off0 k off:Nat),RC ρ w l k0 off0→RC ρ1 w1 l k off→RC ρ2 w1 l k off
 | [],_,_,_,_,_,h=>h
 |a::l,k0,off0,k,off,⟨⟨v0,_,_,ha0⟩,hr0⟩,⟨⟨v,hc,ho,ha⟩,hr1⟩=>⟨⟨v,hc,ho,RV.carry hr hF a v0 v ha0 ha⟩,RC.carry hr hF l k0 (off0+1) k (off+1) hr0 hr1⟩
end
theorem RM.carry(hr:∀b m,ρ b=some m→ρ2 b=ρ1 b)(hF:∀k,ρ1.F k→ρ2.F k):∀(l:List kU) (es0 es:List MapEntry),RM ρ w l es0→RM ρ1 w1 l es→RM ρ2 w1 l es
 | [],_,_,_,h=>h
 |(_,_,_)::l,_,_,⟨e0,r0,_,hk0,hv0,_,hr0⟩,⟨e,r,he,hk,hv,hb,hr1⟩=>⟨e,r,he,RV.carry hr hF _ _ _ hk0 hk,RV.carry hr hF _ _ _ hv0 hv,hb,RM.carry hr hF l r0 r hr0 hr1⟩
theorem OR.carry(hr:∀b m,ρ b=some m→ρ2 b=ρ1 b)(hF:∀k,ρ1.F k→ρ2.F k){m0 m:HC}{o:AO}(h0:OR ρ w E m0 o)(h1:OR ρ1 w1 E m o):OR ρ2 w1 E m o:=by
 cases o with
 |cells l=>exact⟨h1.1,h1.2.1,RC.carry hr hF l _ _ _ _ h0.2.2 h1.2.2⟩
 |map es c=>
  obtain⟨en0,_,hr0⟩:=h0
  obtain⟨en,he,hr1⟩:=h1
  exact⟨en,he,RM.carry hr hF es _ _ hr0 hr1⟩
 |siter s p=>exact h1
 |miter mo s se la=>
  obtain⟨hz,mo',he,hm1⟩:=h1
  obtain⟨_,mo0,_,hm0⟩:=h0
  refine⟨hz,mo',he,?_⟩
  cases mo with
  |none=>exact hm1
  |some b=>
   obtain⟨m0,e0,_⟩:=hm0
   obtain⟨m1,e1,e2⟩:=hm1
   exact⟨m1,by rw[hr _ _ e0];exact e1,e2⟩
 |loop r=>
  obtain⟨l0,_,hl0⟩:=h0
  obtain⟨l,he,hl⟩:=h1
  exact⟨l,he,⟨hl.state,hl.pend,hl.small,hl.params,hl.assign,hl.body,fun t ht=>RV.carry hr hF _ _ _ (hl0.tmps t ht) (hl.tmps t ht),hl.few⟩⟩
theorem Fz.cellA{t:bE AO}{n0:Nat}{v v2:AV}(h:Fz t n0 v v2):Ev.cellA v2=Ev.cellA v:=by cases h<;>rfl
theorem oD.allCells{t:bE AO}{n0:Nat}:∀{l l2:List AV},oD t n0 l l2→Ev.aZ l2=Ev.aZ l
 |_,_,.nil=>rfl
 |_,_,.cons h hl=>by simp only[Ev.aZ,h.cellA,oD.allCells hl]
theorem oD.length{t:bE AO}{n0:Nat}:∀{l l2:List AV},oD t n0 l l2→l2.length=l.length
 |_,_,.nil=>rfl
 |_,_,.cons h hl=>by simp[oD.length hl]
def Ren.cool(ρ:Ren)(n0:Nat)(t:bE AO):Ren:=⟨fun b=>if b<n0 then ρ b else none,fun k=>ρ.F k∨∃b o m,n0≤b∧t.get b=some o∧ρ b=some m∧k=m.blk⟩
mutual
theorem Fz.sound{h':aL}{n0:Nat}(s:dI E ρ h' w):∀{v v2:AV} {u:Value},Fz h'.t n0 v v2→RV ρ w v u→RV (ρ.cool n0 h'.t) w v2 u
 |_,_,_,.same hi,r=>RV.idless (fun k hk=>Or.inl hk) _ _ hi r
 |_,_,_,.ptr hb,⟨m,e,h⟩=>⟨m,by show(if _ then _ else _)=_;rw[if_pos hb];exact e,h⟩
 |_,_,_,.map hb,⟨m,e,h⟩=>⟨m,by show(if _ then _ else _)=_;rw[if_pos hb];exact e,h⟩
 |_,_,_,.old hb,⟨m,c,o,e,h⟩=>⟨m,c,o,by show(if _ then _ else _)=_;rw[if_pos hb];exact e,h⟩
 |_,_,_,.slice (off:=off) (m:=mm) hb hg hl,⟨m,c,o,e,hu,ho,h1,h2,h3,h4⟩=>by
  obtain⟨m',e',hor⟩:=s.obj _ _ hg
  rw[e]at e'
  cases e'
  refine .inr ⟨m.blk,o,c,hu,aE _,by omega,fun h=>(by cases h),.inr ⟨_,_,m,hb,hg,e,rfl⟩,?_⟩
  rcases ho with ho|ho
  ·exact .inl ho
  ·right
   subst ho
   exact oD.soundC s hl (RC.take mm (RC.drop off hor.2.2))
 |_,_,_,.aB,r=> .inl ⟨rfl,rfl,.inl r⟩
 |_,_,_,.agg hl,⟨vs,e,h,ho⟩=>⟨vs,e,oD.soundV s hl h,by rw[hl.allCells];exact ho⟩
 |_,_,_,.tuple hl,⟨vs,e,h⟩=>⟨vs,e,oD.soundV s hl h⟩
theorem oD.soundV{h':aL}{n0:Nat}(s:dI E ρ h' w):∀{l l2:List AV} {us:List Value},oD h'.t n0 l l2→dH ρ w l us→dH (ρ.cool n0 h'.t) w l2 us
 |_,_,_,.nil,r=>r
 |_,_,_,.cons h hl,⟨v,us,e,ha,hr⟩=>⟨v,us,e,Fz.sound s h ha,oD.soundV s hl hr⟩
theorem oD.soundC{h':aL}{n0:Nat}(s:dI E ρ h' w):∀{l l2:List AV} {k off:Nat},oD h'.t n0 l l2→RC ρ w l k off→RC (ρ.cool n0 h'.t) w l2 k off
 |_,_,_,_,.nil,r=>r
 |_,_,_,_,.cons h hl,⟨⟨v,hc,ho,ha⟩,hr⟩=>⟨⟨v,hc,by rw[h.cellA];exact ho,Fz.sound s h ha⟩,oD.soundC s hl hr⟩
end
theorem RM.idless(hF:∀k,ρ1.F k→ρ2.F k):∀(l:List kU) (es:List MapEntry),(∀e,e∈l→Ev.idless e.1=true∧Ev.idless e.2.1=true)→RM ρ1 w l es→RM ρ2 w l es
 | [],_,_,h=>h
 |(k,x,b)::l,_,hi,⟨e,r,he,hk,hv,hb,hr⟩=>⟨e,r,he,RV.idless hF _ _ (hi (k,x,b) (by simp)).1 hk,RV.idless hF _ _ (hi (k,x,b) (by simp)).2 hv,hb,RM.idless hF l r (fun e he=>hi e (by simp[he])) hr⟩
theorem Z7.sound{h h' h2:aL}{v v2:AV}{u:Value}(c:Z7 h h' v v2 h2)(s0:dI E ρ h w)(st:gQ ρ h w ρ1 h' w1)(s1:dI E ρ1 h' w1)(r:RV ρ1 w1 v u):
  ∃ρ2,gQ ρ h w ρ2 h2 w1∧dI E ρ2 h2 w1∧RV ρ2 w1 v2 u:=by
 have hlt:∀{b m},ρ b=some m→b<h.aA:=fun{b m} e=>by
  rcases Nat.lt_or_ge b h.aA with hb|hb
  ·exact hb
  ·rw[s0.ren b hb]at e;cases e
 have hF:∀k,ρ1.F k→(ρ1.cool h.aA h'.t).F k:=fun k hk=>Or.inl hk
 have hcar:∀b m,ρ b=some m→(ρ1.cool h.aA h'.t) b=ρ1 b:=fun b m e=>by show(if _ then _ else _)=_;rw[if_pos (hlt e)]
 have hnew:∀b,h.aA≤b→h2.t.get b=none:=fun b hb=>(c.new b hb).elim id (fun e=>by rw[e,s0.fresh b hb])
 have hget:∀{b o},h2.t.get b=some o→b<h.aA∧∃o',h'.t.get b=some o':=fun{b o} e=>by
  rcases Nat.lt_or_ge b h.aA with hb|hb
  ·refine⟨hb,?_⟩
   rcases c.obj b hb with q|⟨q1,_⟩|⟨l,l2,q1,q2,_⟩|⟨es,cl,q1,q2,_⟩
   ·rw[e]at q;cases q
   ·exact⟨o,by rw[←q1];exact e⟩
   ·exact⟨_,q1⟩
   ·exact⟨_,q1⟩
  ·rw[hnew b hb]at e;cases e
 have hρ2:∀{b m},(ρ1.cool h.aA h'.t) b=some m→ρ1 b=some m:=fun{b m} e=>by
  have e:(if b<h.aA then ρ1 b else none)=some m:=e
  split at e
  ·exact e
  ·cases e
 have hlive:∀k,dQ (ρ1.cool h.aA h'.t) h2 k→dQ ρ1 h' k:=fun k ⟨b,o,m,q1,q2,q3⟩=>let⟨_,o',hg⟩:=hget q1;⟨b,o',m,hg,hρ2 q2,q3⟩
 refine⟨ρ1.cool h.aA h'.t,⟨fun b m e=>by rw[hcar b m e];exact st.ext b m e,st.size,st.keep,fun k hk=>st.live k (hlive k hk),Nat.le_of_eq c.aA.symm,fun b _=> ?_,st.os,st.tape,st.output,st.loops,st.keepF,fun k hk=> .inl (st.frz k hk),fun k hk=> ?_⟩,
  ⟨fun b o hb=> ?_,fun b b' o o' m m' h1 h3 r1 r3 e=> ?_,fun b hb=>hnew b (by rw[c.aA]at hb;exact hb),fun b hb=> ?_,fun b m e=>s1.low b m (hρ2 e),fun b o m hb e hf=> ?_,fun k hk=> ?_⟩,Fz.sound s1 c.val r⟩
 ·show(if _ then _ else _)=_
  by_cases hb:b<h.aA
  ·rw[if_pos hb];exact st.out b (.inl hb)
  ·rw[if_neg hb];exact(s0.ren b (by omega)).symm
 ·rcases hk with hk|⟨b,o,m,hb,hg,hm,rfl⟩
  ·exact st.frn k hk
  ·exact .inr (st.live _ ⟨b,o,m,hg,hm,rfl⟩)
 ·obtain⟨hblt,o',hg⟩:=hget hb
  obtain⟨m,hm,hor⟩:=s1.obj b o' hg
  refine⟨m,by show(if _ then _ else _)=_;rw[if_pos hblt];exact hm,?_⟩
  rcases c.obj b hblt with q|⟨q1,q2⟩|⟨l,l2,q1,q2,q3⟩|⟨es,cl,q1,q2,q3⟩
  ·rw[hb]at q;cases q
  ·rw[hb,hg]at q1
   cases q1
   rw[hg]at q2
   obtain⟨m0,hm0,hor0⟩:=s0.obj b o q2.symm
   exact OR.carry hcar hF hor0 hor
  ·rw[hg]at q1
   cases q1
   rw[hb]at q2
   cases q2
   exact⟨hor.1,by rw[q3.length];exact hor.2.1,oD.soundC s1 q3 hor.2.2⟩
  ·rw[hg]at q1
   cases q1
   rw[hb,hg]at q2
   cases q2
   obtain⟨en,he,hr⟩:=hor
   exact⟨en,he,RM.idless hF es _ q3 hr⟩
 ·obtain⟨_,o1,g1⟩:=hget h1
  obtain⟨_,o2,g2⟩:=hget h3
  exact s1.inj _ _ _ _ _ _ g1 g2 (hρ2 r1) (hρ2 r3) e
 ·show(if _ then _ else _)=_
  rw[c.aA]at hb
  rw[if_neg (by omega)]
 ·obtain⟨hblt,o1,g1⟩:=hget hb
  rcases hf with hf|⟨b',o',m',hb',hg,hm',e'⟩
  ·exact s1.cold b o1 m g1 (hρ2 e) hf
  ·have:=s1.inj _ _ _ _ _ _ g1 hg (hρ2 e) hm' e'
   omega
 ·rcases hk with hk|⟨b,o,m,hb,hg,hm,rfl⟩
  ·exact s1.old k hk
  ·exact s1.low b m hm
end
section
variable{P:Program}{E:bE TypeInfo}
theorem gW.cool{f:Nat}{args:List AV}{h:aL}{R Q:AV→aL→Prop}(q:gW P E f args h R)(hq:∀v h',R v h'→∃v2 h2,Z7 h h' v v2 h2∧Q v2 h2):gW P E f args h Q:=by
 intro r n ρ w vs s hg hv
 rcases q r n ρ w vs s hg hv with⟨h1,h2⟩|⟨v,v',h',ρ1,h1,h2,st,s1,h3,h4⟩
 ·refine .inl ⟨h1,CallsIn.mono h2 ?_⟩
  intro e w' he
  cases e with
  |returned v'=>
   obtain⟨v,h',hR,ρ1,st,s1,r1⟩:=he
   obtain⟨v2,h2,c,hQ⟩:=hq v h' hR
   obtain⟨ρ2,q1,q2,q3⟩:=c.sound s st s1 r1
   exact⟨v2,h2,hQ,ρ2,q1,q2,q3⟩
  |panicked c=>exact he.elim
  |outgrown=>exact he.elim
 ·obtain⟨v2,h2',c,hQ⟩:=hq v h' h2
  obtain⟨ρ2,q1,q2,q3⟩:=c.sound s st s1 h3
  exact .inr ⟨v2,v',h2',ρ2,h1,hQ,q1,q2,q3,h4⟩
end
end
section
inductive Job where
 |code (c:CC) (t:PT) (h:aL)
 |rounds (k:Nat) (b:CC) (t:PT) (h:aL)
 |ops (l:List jB) (t:PT) (h:aL)
 |draw (base:Nat) (l:List rD) (hist:List aL) (t:PT) (h:aL)
 |step (a:fC) (t:PT) (h:aL)
 |fn (f:Nat) (args:List AV) (h:aL)
 |yld (l:Nat) (args:List AV) (h:aL)
inductive vN where
 |res (r:eK)
 |val (v:AV) (h:aL)
inductive qC:List AV→List AV→Prop
 |nil:qC [] []
 |same {v l m}:qC l m→qC (v::l) (v::m)
 |aB {l m}:qC l m→qC (.aB::l) (.rslice [] 0 0 false::m)
 |cut {a b:List AV} {len cap ex l m}:qC l m→qC (.rslice (a++b) len cap ex::l) (.rslice a len len false::m)
section
variable(T:bE cX)(M:Nat→String→Option (Nat×Option fV))
inductive W(X:Nat→List AV→aL→(AV→aL→Prop)→Prop):Job→(vN→Prop)→Prop
 |skip {t h Q}:Q (.res (.norm t h))→W X (.code .skip t h) Q
 |opsC {l t h Q}:W X (.ops l t h) Q→W X (.code (.ops l) t h) Q
 |drawC {n l t h Q}:W X (.draw h.aA l [⟨h.t,h.aA+n⟩] t ⟨h.t,h.aA+n⟩) Q→W X (.code (.draw n l) t h) Q
 |seq {a b t h R Q}:W X (.code a t h) R→(∀t' h',R (.res (.norm t' h'))→W X (.code b t' h') Q)→(∀r,R (.res r)→(∀t' h',r≠ .norm t' h')→Q (.res r))→W X (.code (.seq a b) t h) Q
 |condT {c x y t h Q}:cH t c= .bool true→W X (.code x t h) Q→W X (.code (.cond c x y) t h) Q
 |condF {c x y t h Q}:cH t c= .bool false→W X (.code y t h) Q→W X (.code (.cond c x y) t h) Q
 |block {id b t h R Q}:W X (.code b t h) R→(∀r,R (.res r)→Q (.res (jM id r)))→W X (.code (.block id b) t h) Q
 |loop {k b t h Q}:W X (.rounds k b t h) Q→W X (.code (.loop b) t h) Q
 |range {f ps asn body t h g first captured R Q}:cH t f= .func (.func g) first captured→
   W X (.fn g (first++([.func (.yield h.aA) [] []]++captured)) (xT h (.loop {state:= .ready,pending:=none,tmps:=t,params:=ps,assign:=asn,body:=body}))) R→
   (∀v h2,R (.val v h2)→∃res,sO h.aA t h2 (aP h2 h.aA)=res∧res≠ .fail∧Q (.res res))→W X (.code (.range f ps asn body) t h) Q
 |exit {id t h Q}:Q (.res (.exit id t h))→W X (.code (.exit id) t h) Q
 |ret {t h Q}:Q (.res (.ret t h))→W X (.code .ret t h) Q
 |weaken {c t t' h Q}:(∀p,t'.get p=t.get p∨t'.get p= .other)→W X (.code c t' h) Q→W X (.code c t h) Q
 |rounds {k b t h R Q}:W X (.code b t h) R→(∀t' h',R (.res (.norm t' h'))→W X (.rounds k b t' h') Q)→(∀r,R (.res r)→(∀t' h',r≠ .norm t' h')→Q (.res r))→W X (.rounds (k+1) b t h) Q
 |nil {t h Q}:Q (.res (.norm t h))→W X (.ops [] t h) Q
 |cons {s l t h R Q}:wanted t s.guard=true→W X (.step s.act t h) R→(∀v h',R (.val v h')→W X (.ops l (put t v s.dst) h') Q)→W X (.ops (s::l) t h) Q
 |pass {s l t h Q}:wanted t s.guard=false→xX t s.guard=true→W X (.ops l (put t bS s.dst) h) Q→W X (.ops (s::l) t h) Q
 |dnil {base hist t h Q}:Q (.res (.norm t h))→W X (.draw base [] hist t h) Q
 |dplain {base i s l hist t h v h1 Q}:wanted t s.guard=true→fZ T M t ⟨h.t,base+i⟩ s.act= .ok v h1→W X (.draw base l hist (put t v s.dst) ⟨h1.t,h.aA⟩) Q→W X (.draw base (.plain i s::l) hist t h) Q
 |dplainP {base i s l hist t h Q}:wanted t s.guard=false→xX t s.guard=true→W X (.draw base l hist (put t bS s.dst) h) Q→W X (.draw base (.plain i s::l) hist t h) Q
 |dread {base m s l hist t h v Q}:wanted t s.guard=true→(∀k,k≤m→∃hk h1,hist[k]?=some hk∧fZ T M t hk s.act= .ok v h1)→W X (.draw base l hist (put t v s.dst) h) Q→W X (.draw base (.read m s::l) hist t h) Q
 |dreadP {base m s l hist t h Q}:wanted t s.guard=false→xX t s.guard=true→W X (.draw base l hist (put t bS s.dst) h) Q→W X (.draw base (.read m s::l) hist t h) Q
 |deff {base s l hist t h R Q}:wanted t s.guard=true→W X (.step s.act t h) R→(∀v h',R (.val v h')→W X (.draw base l (h'::hist) (put t v s.dst) h') Q)→W X (.draw base (.eff s::l) hist t h) Q
 |deffP {base s l hist t h Q}:wanted t s.guard=false→xX t s.guard=true→W X (.draw base l (h::hist) (put t bS s.dst) h) Q→W X (.draw base (.eff s::l) hist t h) Q
 |act {a t h v h' Q}:fA a=true→fZ T M t h a= .ok v h'→Q (.val v h')→W X (.step a t h) Q
 |nilq {op x y t h l len ex Q}:op= .eql∨op= .neq→cH t x= .rslice l len 0 ex→cH t y= .aB→Q (.val (.bool true) h)→Q (.val (.bool false) h)→W X (.step (.bin op .sl x y) t h) Q
 |next{it t h b mb since aQ last es c Q}:cH t it= .ptr b 0→aP h b=some (.miter (some mb) since aQ last)→gY h mb=some (es,c)→(pJ aQ||(pJ es|| !(sL last es)))=true→
   (∀v h',PF h b mb since aQ c (leftOf aQ es) v h'→Q (.val v h'))→W X (.step (.next false it) t h) Q
 |value {f args t h g first captured Q}:cH t f= .func (.func g) first captured→W X (.fn g (first++(fY t args++captured)) h) Q→W X (.step (.call (.value f) args) t h) Q
 |yield {f args t h l Q}:cH t f= .func (.yield l) [] []→W X (.yld l (fY t args) h) Q→W X (.step (.call (.value f) args) t h) Q
 |invoke {r name args t h ty y y' f ct Q}:cH t r= .iface ty y→M ty name=some (f,ct)→sM h y ct=some y'→W X (.fn f (y'::fY t args) h) Q→W X (.step (.call (.invoke r name) args) t h) Q
 |fn {f args h cf R Q}:T.get f=some cf→cf.ext=0→args.length≤cf.nt→W X (.code cf.code (pt args 0 .leaf) h) R→(∀r,R (.res r)→∃v h',tU cf.res r= .ok v h'∧Q (.val v h'))→W X (.fn f args h) Q
 |ext {f args h cf v h' Q}:T.get f=some cf→cf.ext=1→aAu h args= .ok v h'→Q (.val v h')→W X (.fn f args h) Q
 |cool {f args h R Q}:W X (.fn f args h) R→(∀v h',R (.val v h')→∃v2 h2,Z7 h h' v v2 h2∧Q (.val v2 h2))→W X (.fn f args h) Q
 |nilw {f args args' h Q}:qC args args'→W X (.fn f args' h) Q→W X (.fn f args h) Q
 |known {f args h Q}:X f args h (fun v h'=>Q (.val v h'))→(∃v h',Q (.val v h'))→W X (.fn f args h) Q
 |yld {l args h r0 tm0 Ra Rb Q}:aP h l=some (.loop r0)→kO r0.tmps r0.params args=some tm0→W X (.code r0.assign tm0 h) Ra→(∀res,Ra (.res res)→∃tm1 h1 r1,res= .norm tm1 h1∧aP h1 l=some (.loop r1)∧qN r1.state=true)→
   (∀tm1 h1 r1,Ra (.res (.norm tm1 h1))→aP h1 l=some (.loop r1)→W X (.code r0.body tm1 (bI h1 l (.loop {r1 with state:= .busy}))) Rb)→
   (∀res,Rb (.res res)→∃v h',DV l res= .ok v h'∧Q (.val v h'))→W X (.yld l args h) Q
end
section
variable{T:bE cX}{M:Nat→String→Option (Nat×Option fV)}{X:Nat→List AV→aL→(AV→aL→Prop)→Prop}
def Has:Job→(vN→Prop)→Prop
 | .code ..,Q=>∃r,Q (.res r)
 | .rounds ..,Q=>∃r,Q (.res r)
 | .ops ..,Q=>∃r,Q (.res r)
 | .draw ..,Q=>∃r,Q (.res r)
 | .step ..,Q=>∃v h,Q (.val v h)
 | .fn ..,Q=>∃v h,Q (.val v h)
 | .yld ..,Q=>∃v h,Q (.val v h)
theorem UK{h:aL}{b mb since c:Nat}{aQ:List Nat}(left:List kU):∃v h',PF h b mb since aQ c left v h':=by
 cases left with
 |nil=>exact⟨_,_,.inr ⟨fun e he=>by simp at he,rfl,rfl⟩⟩
 |cons e l=>exact⟨_,_,.inl ⟨e,by simp,rfl,rfl⟩⟩
theorem W.has{j:Job}{Q:vN→Prop}(h:W T M X j Q):Has j Q:=by
 induction h with
 |skip q=>exact⟨_,q⟩
 |opsC _ ih=>exact ih
 |drawC _ ih=>exact ih
 |seq _ _ h3 ih1 ih2=>
  obtain⟨r,hr⟩:=ih1
  cases r with
  |norm t h=>exact ih2 t h hr
  |ret t h=>exact⟨_,h3 _ hr (fun _ _=>by simp)⟩
  |exit i t h=>exact⟨_,h3 _ hr (fun _ _=>by simp)⟩
  |fail=>exact⟨_,h3 _ hr (fun _ _=>by simp)⟩
 |condT _ _ ih=>exact ih
 |condF _ _ ih=>exact ih
 |block _ h2 ih=>obtain⟨r,hr⟩:=ih;exact⟨_,h2 r hr⟩
 |loop _ ih=>exact ih
 |range _ _ h3 ih=>obtain⟨v,h,hr⟩:=ih;obtain⟨res,_,_,q⟩:=h3 v h hr;exact⟨res,q⟩
 |exit q=>exact⟨_,q⟩
 |ret q=>exact⟨_,q⟩
 |weaken _ _ ih=>exact ih
 |rounds _ _ h3 ih1 ih2=>
  obtain⟨r,hr⟩:=ih1
  cases r with
  |norm t h=>exact ih2 t h hr
  |ret t h=>exact⟨_,h3 _ hr (fun _ _=>by simp)⟩
  |exit i t h=>exact⟨_,h3 _ hr (fun _ _=>by simp)⟩
  |fail=>exact⟨_,h3 _ hr (fun _ _=>by simp)⟩
 |nil q=>exact⟨_,q⟩
 |cons _ _ _ ih1 ih2=>obtain⟨v,h,hr⟩:=ih1;exact ih2 v h hr
 |pass _ _ _ ih=>exact ih
 |dnil q=>exact⟨_,q⟩
 |dplain _ _ _ ih=>exact ih
 |dplainP _ _ _ ih=>exact ih
 |dread _ _ _ ih=>exact ih
 |dreadP _ _ _ ih=>exact ih
 |deff _ _ _ ih1 ih2=>obtain⟨v,h,hr⟩:=ih1;exact ih2 v h hr
 |deffP _ _ _ ih=>exact ih
 |act _ _ q=>exact⟨_,_,q⟩
 |nilq _ _ _ q _=>exact⟨_,_,q⟩
 |next _ _ _ _ q=>obtain⟨v,h,hn⟩:=UK _;exact⟨v,h,q v h hn⟩
 |value _ _ ih=>exact ih
 |yield _ _ ih=>exact ih
 |invoke _ _ _ _ ih=>exact ih
 |fn _ _ _ _ h5 ih=>obtain⟨r,hr⟩:=ih;obtain⟨v,h,_,q⟩:=h5 r hr;exact⟨v,h,q⟩
 |ext _ _ _ q=>exact⟨_,_,q⟩
 |cool _ h2 ih=>obtain⟨v,h,hr⟩:=ih;obtain⟨v2,h3,_,q⟩:=h2 v h hr;exact⟨v2,h3,q⟩
 |nilw _ _ ih=>exact ih
 |known _ q=>exact q
 |yld _ _ _ h4 _ h6 ih1 ih2=>
  obtain⟨r,hr⟩:=ih1
  obtain⟨tm1,h1,r1,rfl,e1,e2⟩:=h4 r hr
  obtain⟨rb,hrb⟩:=ih2 tm1 h1 r1 hr e1
  obtain⟨v,h,_,q⟩:=h6 rb hrb
  exact⟨v,h,q⟩
theorem W.mono{j:Job}{Q Q':vN→Prop}(h:W T M X j Q)(hX:∀f args h (Q Q':AV→aL→Prop),X f args h Q→(∀v h',Q v h'→Q' v h')→X f args h Q'):(∀x,Q x→Q' x)→W T M X j Q':=by
 induction h generalizing Q' with
 |skip q=>exact fun m=> .skip (m _ q)
 |opsC _ ih=>exact fun m=> .opsC (ih m)
 |drawC _ ih=>exact fun m=> .drawC (ih m)
 |seq h1 _ h3 _ ih2=>exact fun m=> .seq h1 (fun t h hr=>ih2 t h hr m) (fun r hr hn=>m _ (h3 r hr hn))
 |condT h1 _ ih=>exact fun m=> .condT h1 (ih m)
 |condF h1 _ ih=>exact fun m=> .condF h1 (ih m)
 |block h1 h2 ih=>exact fun m=> .block h1 (fun r hr=>m _ (h2 r hr))
 |loop _ ih=>exact fun m=> .loop (ih m)
 |range h1 h2 h3 ih=>exact fun m=> .range h1 h2 (fun v h hr=>let⟨res,a,b,q⟩:=h3 v h hr;⟨res,a,b,m _ q⟩)
 |exit q=>exact fun m=> .exit (m _ q)
 |ret q=>exact fun m=> .ret (m _ q)
 |weaken h1 _ ih=>exact fun m=> .weaken h1 (ih m)
 |rounds h1 _ h3 _ ih2=>exact fun m=> .rounds h1 (fun t h hr=>ih2 t h hr m) (fun r hr hn=>m _ (h3 r hr hn))
 |nil q=>exact fun m=> .nil (m _ q)
 |cons h1 h2 _ _ ih2=>exact fun m=> .cons h1 h2 (fun v h hr=>ih2 v h hr m)
 |pass h1 h2 _ ih=>exact fun m=> .pass h1 h2 (ih m)
 |dnil q=>exact fun m=> .dnil (m _ q)
 |dplain h1 h2 _ ih=>exact fun m=> .dplain h1 h2 (ih m)
 |dplainP h1 h2 _ ih=>exact fun m=> .dplainP h1 h2 (ih m)
 |dread h1 h2 _ ih=>exact fun m=> .dread h1 h2 (ih m)
 |dreadP h1 h2 _ ih=>exact fun m=> .dreadP h1 h2 (ih m)
 |deff h1 h2 _ _ ih2=>exact fun m=> .deff h1 h2 (fun v h hr=>ih2 v h hr m)
 |deffP h1 h2 _ ih=>exact fun m=> .deffP h1 h2 (ih m)
 |act h1 h2 q=>exact fun m=> .act h1 h2 (m _ q)
 |nilq h1 h2 h3 q q'=>exact fun m=> .nilq h1 h2 h3 (m _ q) (m _ q')
 |next h1 h2 h3 h4 q=>exact fun m=> .next h1 h2 h3 h4 (fun v h hn=>m _ (q v h hn))
 |value h1 _ ih=>exact fun m=> .value h1 (ih m)
 |yield h1 _ ih=>exact fun m=> .yield h1 (ih m)
 |invoke h1 h2 h3 _ ih=>exact fun m=> .invoke h1 h2 h3 (ih m)
 |fn h1 h2 h3 h4 h5 ih=>exact fun m=> .fn h1 h2 h3 h4 (fun r hr=>let⟨v,h,a,q⟩:=h5 r hr;⟨v,h,a,m _ q⟩)
 |ext h1 h2 h3 q=>exact fun m=> .ext h1 h2 h3 (m _ q)
 |cool h1 h2 ih=>exact fun m=> .cool h1 (fun v h hr=>let⟨v2,h3,c,q⟩:=h2 v h hr;⟨v2,h3,c,m _ q⟩)
 |nilw h1 _ ih=>exact fun m=> .nilw h1 (ih m)
 |known h1 q=>exact fun m=> .known (hX _ _ _ _ _ h1 (fun v h' hq=>m _ hq)) (let⟨v,h,x⟩:=q;⟨v,h,m _ x⟩)
 |yld h1 h2 h3 h4 h5 h6=>exact fun m=> .yld h1 h2 h3 h4 h5 (fun r hr=>let⟨v,h,a,q⟩:=h6 r hr;⟨v,h,a,m _ q⟩)
theorem W.not_bad{j:Job}{Q:vN→Prop}(h:W T M X j Q):∀t h,j≠ .code .bad t h:=by
 induction h<;>intro t h e<;>first|(simp at e;done)|skip
 rename_i ih
 simp only[Job.code.injEq]at e
 obtain⟨rfl,rfl,rfl⟩:=e
 exact ih _ _ rfl
end
end
section
section
variable{P:Program}{E:bE TypeInfo}{nt:Nat}
theorem ZW{c:Code}(e:cc E nt c= .skip):c= .skip∨∃l,c= .label l:=by
 cases c with
 |skip=>exact .inl rfl
 |label l=>exact .inr ⟨l,rfl⟩
 |region id ops d=>cases d<;>simp only[cc,bN,reduceCtorEq]at e;split at e<;>cases e
 |rangeFunc f ps a b=>simp only[cc,bN]at e;split at e<;>cases e
 |_=>simp[cc]at e
theorem aCC{c:Code}{l:List jB}(e:cc E nt c= .ops l):∃id ops,c= .region id ops false∧l=ops.toList.map (dJ E nt ops.toList):=by
 cases c with
 |region id ops d=>
  cases d with
  |false=>simp only[cc,CC.ops.injEq]at e;exact⟨id,ops,rfl,e.symm⟩
  |true=>simp only[cc,bN]at e;split at e<;>cases e
 |rangeFunc f ps a b=>simp only[cc,bN]at e;split at e<;>cases e
 |_=>simp[cc]at e
theorem ZX{c:Code}{n:Nat}{l:List rD}(e:cc E nt c= .draw n l):∃id ops,c= .region id ops true∧D2 E nt ops.toList=true∧n=ops.size∧l=V1 E nt ops.toList:=by
 cases c with
 |region id ops d=>
  cases d with
  |false=>simp[cc]at e
  |true=>
   simp only[cc,bN]at e
   split at e
   ·rename_i h
    simp only[CC.draw.injEq]at e
    exact⟨id,ops,rfl,h,e.1.symm,e.2.symm⟩
   ·cases e
 |rangeFunc f ps a b=>simp only[cc,bN]at e;split at e<;>cases e
 |_=>simp[cc]at e
theorem aCD{c:Code}{a b:CC}(e:cc E nt c= .seq a b):∃a0 b0,c= .seq a0 b0∧cc E nt a0=a∧cc E nt b0=b:=by
 cases c with
 |seq a0 b0=>simp only[cc,CC.seq.injEq]at e;exact⟨a0,b0,rfl,e.1,e.2⟩
 |region id ops d=>cases d<;>simp only[cc,bN,reduceCtorEq]at e;split at e<;>cases e
 |rangeFunc f ps a b=>simp only[cc,bN]at e;split at e<;>cases e
 |_=>simp[cc]at e
theorem PC{c:Code}{q:CO}{a b:CC}(e:cc E nt c= .cond q a b):∃q0 a0 b0,c= .cond q0 a0 b0∧cO q0=q∧cc E nt a0=a∧cc E nt b0=b:=by
 cases c with
 |cond q0 a0 b0=>simp only[cc,CC.cond.injEq]at e;exact⟨q0,a0,b0,rfl,e.1,e.2.1,e.2.2⟩
 |region id ops d=>cases d<;>simp only[cc,bN,reduceCtorEq]at e;split at e<;>cases e
 |rangeFunc f ps a b=>simp only[cc,bN]at e;split at e<;>cases e
 |_=>simp[cc]at e
theorem UG{c:Code}{i:Nat}{b:CC}(e:cc E nt c= .block i b):∃b0,c= .block i b0∧cc E nt b0=b:=by
 cases c with
 |block i0 b0=>simp only[cc,CC.block.injEq]at e;exact⟨b0,by rw[e.1],e.2⟩
 |region id ops d=>cases d<;>simp only[cc,bN,reduceCtorEq]at e;split at e<;>cases e
 |rangeFunc f ps a b=>simp only[cc,bN]at e;split at e<;>cases e
 |_=>simp[cc]at e
theorem ZY{c:Code}{b:CC}(e:cc E nt c= .loop b):∃b0,c= .loop b0∧cc E nt b0=b:=by
 cases c with
 |loop b0=>simp only[cc,CC.loop.injEq]at e;exact⟨b0,rfl,e⟩
 |region id ops d=>cases d<;>simp only[cc,bN,reduceCtorEq]at e;split at e<;>cases e
 |rangeFunc f ps a b=>simp only[cc,bN]at e;split at e<;>cases e
 |_=>simp[cc]at e
theorem ZZ{c:Code}{i:Nat}(e:cc E nt c= .exit i):c= .exit i:=by
 cases c with
 |exit i0=>simp only[cc,CC.exit.injEq]at e;rw[e]
 |region id ops d=>cases d<;>simp only[cc,bN,reduceCtorEq]at e;split at e<;>cases e
 |rangeFunc f ps a b=>simp only[cc,bN]at e;split at e<;>cases e
 |_=>simp[cc]at e
theorem aCE{c:Code}(e:cc E nt c= .ret):c= .ret:=by
 cases c with
 |ret=>rfl
 |region id ops d=>cases d<;>simp only[cc,bN,reduceCtorEq]at e;split at e<;>cases e
 |rangeFunc f ps a b=>simp only[cc,bN]at e;split at e<;>cases e
 |_=>simp[cc]at e
theorem UH{c:Code}{f:CO}{ps:List bH}{a b:CC}(e:cc E nt c= .range f ps a b):∃f0 ps0 a0 b0,c= .rangeFunc f0 ps0 a0 b0∧cO f0=f∧ps=ps0.toList.map aM∧cc E nt a0=a∧cc E nt b0=b∧∀t∈ps0.toList,t<nt∧t<16000:=by
 cases c with
 |rangeFunc f0 ps0 a0 b0=>
  simp only[cc,bN]at e
  split at e
  ·rename_i h
   simp only[CC.range.injEq]at e
   refine⟨f0,ps0,a0,b0,rfl,e.1,e.2.1.symm,e.2.2.1,e.2.2.2,fun t ht=> ?_⟩
   have:=List.all_eq_true.1 h t ht
   simpa[blt_eq]using this
  ·cases e
 |region id ops d=>cases d<;>simp only[cc,bN,reduceCtorEq]at e;split at e<;>cases e
 |_=>simp[cc]at e
theorem RT.weaken{ρ:Ren}{w:World}{t t':PT}{tmps:Array Value}(h:∀p,t'.get p=t.get p∨t'.get p= .other)(r:RT ρ w t tmps):RT ρ w t' tmps:=by
 intro i hi
 rcases h (aM i)with e|e
 ·rw[e];exact r i hi
 ·rw[e];exact trivial
theorem ES.at{base:Nat}{r:Option Nat}{ρ0:Ren}{h0 h':aL}{w0 w':World}{tm tm':PT}{a a':Act}(x:At E base r nt ρ0 h0 w0 tm a)(d:ES E base r nt ρ0 h0 w0 tm' h' a' w'):∃ρ',gQ ρ0 h0 w0 ρ' h' w'∧At E base r nt ρ' h' w' tm' a':=
 let⟨ρ',s,s1,s2,s3,s4⟩:=d;⟨ρ',s,s1,x.glob.stp s,s2,s3,x.small,s4,Nat.le_trans x.low s.size⟩
end
section
variable(P:Program)(E:bE TypeInfo)(T:bE cX)(M:Nat→String→Option (Nat×Option fV))
def RU(nt k:Nat)(b:Code)(tm:PT)(h:aL)(Q:eK→Prop):Prop:=
 ∀(base:Nat) (r:Option Nat) (n:Nat) (ρ:Ren) (w:World) (a:Act) (ρ0:Ren) (h0:aL) (w0:World),gQ ρ0 h0 w0 ρ h w→At E base r nt ρ h w tm a→
  Code.roundsIn (Fc r) n P b (vS E base r nt ρ0 h0 w0 Q) k a w
def aL4:Job→(vN→Prop)→Prop
 | .code c t h,Q=>∀nt c0,cc E nt c0=c→zW P E nt c0 t h (fun r=>Q (.res r))
 | .rounds k b t h,Q=>∀nt b0,cc E nt b0=b→RU P E nt k b0 t h (fun r=>Q (.res r))
 | .ops l t h,Q=>∀nt (ops:Array Oper) lo,lo.map (dJ E nt ops.toList)=l→lX P E nt ops lo t h (fun r=>Q (.res r))
 | .draw base l hist t h,Q=>∀nt (ops:Array Oper) (rest:List Pl),rest.map (aAx E nt ops.toList (bM E ops.toList))=l→nC P E T M ops nt base rest hist t h (fun r=>Q (.res r))
 | .step a t h,Q=>∀t',yS a t t'→∀o,cJ E o.op=a→mM P E o t' h (fun v h'=>Q (.val v h'))
 | .fn f args h,Q=>gW P E f args h (fun v h'=>Q (.val v h'))
 | .yld l args h,Q=>NO P E l args h (fun v h'=>Q (.val v h'))
end
section
variable{P:Program}{E:bE TypeInfo}(hE:∀t i,E.get t=some i→P.info? t=some i)(hF:∀t ks,FY E t= .flat ks→P.stoodInHeld t=false∧P.eqGuardType P.depth t=false)
variable{T:bE cX}{M:Nat→String→Option (Nat×Option fV)}{X:Nat→List AV→aL→(AV→aL→Prop)→Prop}
theorem tL{nt:Nat}{ops:List Oper}{pl:List Pl}{z:Pl}{s:rD}(e:aAx E nt ops pl z=s):
  (∃i s0,s= .plain i s0∧s0=dJ E nt ops z.2.op∧wX s0.act= .plain∧i=z.2.at_)∨(∃m s0,s= .read m s0∧s0=dJ E nt ops z.2.op∧wX s0.act= .read∧m=z.1-nP E pl z.2)∨(∃s0,s= .eff s0∧s0=dJ E nt ops z.2.op∧wX s0.act= .eff):=by
 unfold aAx at e
 cases hc:wX (dJ E nt ops z.2.op).act with
 |plain=>simp only[hc]at e;exact .inl ⟨_,_,e.symm,rfl,hc,rfl⟩
 |read=>simp only[hc]at e;exact .inr (.inl ⟨_,_,e.symm,rfl,hc,rfl⟩)
 |eff=>simp only[hc]at e;exact .inr (.inr ⟨_,e.symm,rfl,hc⟩)
def KG:fC→Bool
 | .call .. =>true
 | .next .. =>true
 |_=>false
theorem kD{α:Type}{x:Option α}{f:α→fC}(h:∀a,KG (f a)=false):KG (cG (x.map f))=false:=by cases x with|none=>rfl|some a=>exact h a
theorem kE{α:Type}{x:Option α}{f:α→Option fC}(h:∀a,KG (cG (f a))=false):KG (cG (x.bind f))=false:=by cases x with|none=>rfl|some a=>exact h a
theorem aBd{b:Bool}{x y:Option fC}(h:KG (cG x)=false)(h':KG (cG y)=false):KG (cG (bif b then x else y))=false:=by cases b<;>assumption
theorem UI(E:bE TypeInfo)(op:Op)(hc:∀c,op≠ .call c)(hn:∀x s,op≠ .next x s):KG (cJ E op)=false:=by
 cases op with
 |call c=>exact absurd rfl (hc c)
 |next x s=>exact absurd rfl (hn x s)
 |makeFunc fn f c=>cases fn<;>rfl
 |makeMap t r=>cases r<;>rfl
 |convert sr d x=>simp only[cJ];split<;>first|rfl|(rename_i el _ _;cases LR E el<;>rfl)
 |makeInterface t x=>simp only[cJ];split<;>rfl
 |indexAddr t x i=>simp only[cJ];split<;>first|rfl|exact kD (fun _=>rfl)
 |index t x i=>simp only[cJ];split<;>first|rfl|exact kE (fun _=>kD (fun _=>rfl))
 |range t x=>simp only[cJ];split<;>rfl
 |typeAssert x xt t ok=>simp only[cJ];split<;>rfl
 |sliceToArrayPointer t x=>simp only[cJ];split<;>rfl
 |alloc t=>exact kD (fun _=>rfl)
 |build t ps=>exact kE (fun _=>kD (fun _=>rfl))
 |buildSlice t n ps=>exact kE (fun _=>kE (fun _=>aBd (kD (fun _=>rfl)) rfl))
 |load t x=>exact kD (fun _=>rfl)
 |store t x y=>exact kD (fun _=>rfl)
 |makeSlice t l c=>exact kE (fun _=>kE (fun _=>kD (fun _=>rfl)))
 |slice t x lo hi mx=>exact kD (fun _=>rfl)
 |field t x f=>exact kE (fun _=>kD (fun _=>rfl))
 |fieldAddr t x f=>exact kE (fun _=>kE (fun _=>aBd rfl rfl))
 |lookup t x k ok=>exact kE (fun _=>kD (fun _=>rfl))
 |mapUpdate t m k x=>exact kD (fun _=>rfl)
 |insert t m k x=>exact kD (fun _=>rfl)
 |mapEntry t m k=>exact kE (fun _=>kD (fun _=>rfl))
 |_=>rfl
def KI:fC→Bool
 | .bin .. =>true
 |_=>false
theorem kF{α:Type}{x:Option α}{f:α→fC}(h:∀a,KI (f a)=false):KI (cG (x.map f))=false:=by cases x with|none=>rfl|some a=>exact h a
theorem kH{α:Type}{x:Option α}{f:α→Option fC}(h:∀a,KI (cG (f a))=false):KI (cG (x.bind f))=false:=by cases x with|none=>rfl|some a=>exact h a
theorem aBe{b:Bool}{x y:Option fC}(h:KI (cG x)=false)(h':KI (cG y)=false):KI (cG (bif b then x else y))=false:=by cases b<;>assumption
theorem aCF(E:bE TypeInfo)(op:Op)(hc:∀o t x y u,op≠ .binOp o t x y u):KI (cJ E op)=false:=by
 cases op with
 |binOp o t x y u=>exact absurd rfl (hc o t x y u)
 |makeFunc fn f c=>cases fn<;>rfl
 |makeMap t r=>cases r<;>rfl
 |convert sr d x=>simp only[cJ];split<;>first|rfl|(rename_i el _ _;cases LR E el<;>rfl)
 |makeInterface t x=>simp only[cJ];split<;>rfl
 |indexAddr t x i=>simp only[cJ];split<;>first|rfl|exact kF (fun _=>rfl)
 |index t x i=>simp only[cJ];split<;>first|rfl|exact kH (fun _=>kF (fun _=>rfl))
 |range t x=>simp only[cJ];split<;>rfl
 |typeAssert x xt t ok=>simp only[cJ];split<;>rfl
 |sliceToArrayPointer t x=>simp only[cJ];split<;>rfl
 |alloc t=>exact kF (fun _=>rfl)
 |build t ps=>exact kH (fun _=>kF (fun _=>rfl))
 |buildSlice t n ps=>exact kH (fun _=>kH (fun _=>aBe (kF (fun _=>rfl)) rfl))
 |load t x=>exact kF (fun _=>rfl)
 |store t x y=>exact kF (fun _=>rfl)
 |makeSlice t l c=>exact kH (fun _=>kH (fun _=>kF (fun _=>rfl)))
 |slice t x lo hi mx=>exact kF (fun _=>rfl)
 |field t x f=>exact kH (fun _=>kF (fun _=>rfl))
 |fieldAddr t x f=>exact kH (fun _=>kH (fun _=>aBe rfl rfl))
 |lookup t x k ok=>exact kH (fun _=>kF (fun _=>rfl))
 |mapUpdate t m k x=>exact kF (fun _=>rfl)
 |insert t m k x=>exact kF (fun _=>rfl)
 |mapEntry t m k=>exact kH (fun _=>kF (fun _=>rfl))
 |_=>rfl
theorem RC.left{ρ:Ren}{w:World}{b:List AV}{k:Nat}:∀{a:List AV} {off:Nat},RC ρ w (a++b) k off→RC ρ w a k off
 | [],_,_=>trivial
 |_::a,_,h=>⟨h.1,RC.left (a:=a) h.2⟩
theorem qC.rv{ρ:Ren}{w:World}:∀{l m:List AV} {vs:List Value},qC l m→dH ρ w l vs→dH ρ w m vs
 |_,_,_,.nil,h=>h
 |_,_,_,.same q,⟨v,us,e,h1,h2⟩=>⟨v,us,e,h1,qC.rv q h2⟩
 |_,_,_,.aB q,⟨v,us,e,h1,h2⟩=>⟨v,us,e,.inl ⟨rfl,rfl,.inl h1⟩,qC.rv q h2⟩
 |_,_,_,.cut (a:=a) (b:=b) q,⟨v,us,e,h1,h2⟩=>by
  refine⟨v,us,e,?_,qC.rv q h2⟩
  rcases h1 with⟨h3,h4,h5⟩|⟨k,off,c,h3,h4,h5,h6,h7,h8⟩
  ·refine .inl ⟨h3,h3,?_⟩
   rcases h5 with h5|⟨ad,c,h5,h6⟩
   ·exact .inl h5
   ·exact .inr ⟨ad,c,h5,fun h=>by cases h⟩
  ·refine .inr ⟨k,off,c,h3,aE _,by omega,fun h=>(by cases h),h7,?_⟩
   rcases h8 with h8|h8
   ·exact .inl h8
   ·exact .inr (RC.left h8)
theorem qC.strs{l:List AV}{s:List Nat}{k:IntKind}{c:Int}(h:qC l [.str s,.int k c]):l= [.str s,.int k c]:=by
 cases h with
 |same h=>cases h with
  |same h=>cases h;rfl
theorem gW.nilw{f:Nat}{args args':List AV}{h:aL}{Q:AV→aL→Prop}(q:qC args args')(s:gW P E f args' h Q):gW P E f args h Q:=by
 intro r n ρ w vs hs hg hv
 rcases s r n ρ w vs hs hg (q.rv hv)with⟨h1,h2⟩|⟨v,v',h',ρ',h1,h2,h3,h4,h5,s,c,h6⟩
 ·exact .inl ⟨h1,h2⟩
 ·exact .inr ⟨v,v',h',ρ',h1,h2,h3,h4,h5,s,c,qC.strs (h6▸q)⟩
theorem aCG{o:Oper}{op:BinOp}{q:pN}{cx cy:CO}(e:cJ E o.op= .bin op q cx cy):∃t x y u,o.op= .binOp op t x y u∧FY E t=q∧cO x=cx∧cO y=cy:=by
 by_cases hc:∃a t x y u,o.op= .binOp a t x y u
 ·obtain⟨a,t,x,y,u,hc⟩:=hc
  rw[hc]at e
  simp only[cJ,fC.bin.injEq]at e
  exact⟨t,x,y,u,by rw[hc,e.1],e.2.1,e.2.2.1,e.2.2.2⟩
 ·have:=aCF E o.op (fun a t x y u h=>hc ⟨a,t,x,y,u,h⟩)
  rw[e]at this
  cases this
include hE in
theorem RW{o:Oper}{tm:PT}{h:aL}{op:BinOp}{cx cy:CO}{l:List AV}{len:Nat}{ex:Bool}{Q:AV→aL→Prop}(e:cJ E o.op= .bin op .sl cx cy)(hop:op= .eql∨op= .neq)(h1:cH tm cx= .rslice l len 0 ex)(h2:cH tm cy= .aB)
  (q1:Q (.bool true) h) (q2:Q (.bool false) h):mM P E o tm h Q:=by
 obtain⟨t,x,y,u,ho,hk,rfl,rfl⟩:=aCG e
 intro base nt n r ρ w a K Qx x' hK
 have hx:=bY x'.rt x
 have hy:=bY x'.rt y
 rw[h1]at hx
 rw[h2]at hy
 have hy:a.eval y= .slice none 0 0:=hy
 have hsl:∃el,P.underlying t=some (.slice el):=by
  unfold FY at hk
  cases hu:mV E t with
  |none=>rw[hu]at hk;cases hk
  |some d=>
   rw[hu]at hk
   cases d with
   |slice el=>exact⟨el,cL hE hu⟩
   |array m el=>simp only[yZ]at hk;split at hk<;>cases hk
   |struct fs=>simp only[yZ]at hk;split at hk<;>cases hk
   |_=>cases hk
 obtain⟨el,hu⟩:=hsl
 have hb:∃(p:Option Addr) (m c:Nat),a.eval x= .slice p m c:=by
  rcases hx with⟨rfl,_,h|⟨ad,c,h,_⟩⟩|⟨k,off,c,h,_⟩<;>exact⟨_,_,_,h⟩
 obtain⟨p,m,c,hb⟩:=hb
 have he:(Op.equal t (.slice p m c) (.slice none 0 0)).run P w= .ok (p.isNone&&true) w:=NW 9999 hu _ _ _ _ _ _ (.inr rfl)
 have hres:=binOp_eql (P:=P) (w:=w) (t:=t) (u:= .slice p m c) (u':= .slice none 0 0) rfl he
 have hg:(eqGuard op t x y (.slice p m c) (.slice none 0 0)).run P w= .ok () w:=nH (by simp) (by simp)
 have fin:∀b,(Go.binOp op t (.slice p m c) (.slice none 0 0)).run P w= .ok (.bool b) w→o.wpIn (Fc r) n P a w K Qx:=by
  intro b hr
  refine xM (v:= .bool b) (h':=h) (by rw[ho];simp) (by rw[ho];simp) (f8.pure x'.sim (v':= .bool b) ?_ rfl) (fun ρ' w' v' s1 s2 s3=> ?_)
  ·unfold execOp
   rw[ho]
   simp[hb,hy,hg,hr]
  ·cases b with
   |true=>exact hK ρ' w' v' _ h q1 s1 s2 s3
   |false=>exact hK ρ' w' v' _ h q2 s1 s2 s3
 rcases hop with rfl|rfl
 ·exact fin _ hres.1
 ·exact fin _ hres.2
theorem Z0{o:Oper}{it:CO}(e:cJ E o.op= .next false it):∃x,o.op= .next x false∧cO x=it:=by
 by_cases hc:∃c,o.op= .call c
 ·obtain⟨c,hc⟩:=hc;rw[hc]at e;cases e
 ·by_cases hn:∃x s,o.op= .next x s
  ·obtain⟨x,s,hn⟩:=hn
   rw[hn]at e
   simp only[cJ,fC.next.injEq]at e
   exact⟨x,by rw[hn,e.1],e.2⟩
  ·have:=UI E o.op (fun c h=>hc ⟨c,h⟩) (fun x s h=>hn ⟨x,s,h⟩)
   rw[e]at this
   cases this
theorem PD{o:Oper}{q:mE}{args:List CO}(e:cJ E o.op= .call q args):∃c,o.op= .call c∧D0 E c=q∧VV c.args=args:=by
 by_cases hc:∃c,o.op= .call c
 ·obtain⟨c,hc⟩:=hc;rw[hc]at e;simp only[cJ,fC.call.injEq]at e;exact⟨c,hc,e.1,e.2⟩
 ·by_cases hn:∃x s,o.op= .next x s
  ·obtain⟨x,s,hn⟩:=hn;rw[hn]at e;cases e
  ·have:=UI E o.op (fun c h=>hc ⟨c,h⟩) (fun x s h=>hn ⟨x,s,h⟩)
   rw[e]at this
   cases this
def NF:mE→Bool
 | .value _=>true
 | .invoke .. =>true
 |_=>false
theorem GY{α:Type}{x:Option α}{f:α→mE}(h:∀a,NF (f a)=false):NF (gI (x.map f))=false:=by cases x with|none=>rfl|some a=>exact h a
theorem Z5{α:Type}{x:Option α}{f:α→Option mE}(h:∀a,NF (gI (f a))=false):NF (gI (x.bind f))=false:=by cases x with|none=>rfl|some a=>exact h a
theorem aCH(E:bE TypeInfo)(t:Nat)(t1:Option Nat)(b:Builtin):NF (DY E t t1 b)=false:=by
 cases b<;>unfold DY<;>first
  |rfl
  |exact GY (fun _=>rfl)
  |exact Z5 (fun _=>GY (fun _=>rfl))
  |skip
 ·simp only[bN]
  split
  ·exact GY (fun _=>rfl)
  ·rfl
 all_goals(simp only;split<;>first|rfl|exact GY (fun _=>rfl))
theorem UJ(E:bE TypeInfo)(args:Array Operand)(ts:Array Nat)(b:Builtin):NF (D0 E ⟨.builtin b,args,ts⟩)=false:=by
 show NF (match ts[0]? with|some t=>bif DZ b ts.size then DY E t ts[1]? b else .bad|none=> .bad)=false
 cases ts[0]? with
 |none=>rfl
 |some t=>
  cases h:DZ b ts.size with
  |false=>simp only[h,cond_false];rfl
  |true=>simp only[h,cond_true];exact aCH E t _ b
theorem C0{o:Oper}{f:CO}{args:List CO}(e:cJ E o.op= .call (.value f) args):∃c f0,o.op= .call c∧c.callee= .value f0∧cO f0=f∧VV c.args=args:=by
 obtain⟨c,ho,hq,ha⟩:=PD e
 obtain⟨callee,aS,ts⟩:=c
 cases callee with
 |value f0=>simp only[D0,mE.value.injEq]at hq;exact⟨_,f0,ho,rfl,hq,ha⟩
 |invoke r n=>simp[D0]at hq
 |builtin b=>have:=UJ E aS ts b;rw[hq]at this;cases this
theorem KJ{o:Oper}{f:CO}{name:String}{args:List CO}(e:cJ E o.op= .call (.invoke f name) args):∃c f0,o.op= .call c∧c.callee= .invoke f0 name∧cO f0=f∧VV c.args=args:=by
 obtain⟨c,ho,hq,ha⟩:=PD e
 obtain⟨callee,aS,ts⟩:=c
 cases callee with
 |value f0=>simp[D0]at hq
 |invoke r n=>simp only[D0,mE.invoke.injEq]at hq;exact⟨_,r,ho,by rw[hq.2],hq.1,ha⟩
 |builtin b=>have:=UJ E aS ts b;rw[hq]at this;cases this
include hE hF in
theorem W.says(hm:P.follows .mixedOrders=true)(hT:∀f cf,T.get f=some cf→∃fn,P.funcs[f]?=some fn∧cf=bL E fn)(hM:NK P E M)
  (hext:∀f fn vs w v,P.funcs[f]?=some fn→fn.body=none→fn.name= "internal/bytealg.IndexByteString" →∀s c,c<256→vs= #[.string s,.int .u8 (.ofNat c)]→v= .int .i64 (nO (dY s) c 0)→(callFunc f vs).run P w= .ok (.value v) w)
  (hX:∀f args h Q,X f args h Q→gW P E f args h Q) {j:Job} {Q:vN→Prop} (h:W T M X j Q):aL4 P E T M j Q:=by
 induction h with
 |skip q=>
  intro nt c0 e base r n ρ w a x
  rcases ZW e with rfl|⟨l,rfl⟩
  ·exact wpIn_skip ⟨_,q,rfl,x.done⟩
  ·exact wpIn_label ⟨_,q,rfl,x.done⟩
 |opsC _ ih=>
  intro nt c0 e base r n ρ w a x
  obtain⟨id,ops,rfl,rfl⟩:=aCC e
  exact wpIn_region_list (ih nt ops ops.toList rfl base r n ρ _ w ρ w a (gQ.refl _ _ _) x)
 |drawC _ ih=>
  intro nt c0 e
  obtain⟨id,ops,rfl,hok,rfl,rfl⟩:=ZX e
  exact UM hE hF hm hok (ih nt ops _ rfl)
 |seq _ _ h3 ih1 ih2=>
  intro nt c0 e base r n ρ w a x
  obtain⟨a0,b0,rfl,ea,eb⟩:=aCD e
  refine wpIn_seq (Code.wpIn_mono ?_ (ih1 nt a0 ea base r n ρ w a x))
  rintro ex a1 w1 ⟨res,hr,p⟩
  cases res with
  |norm t h=>
   obtain⟨he,dn⟩:=p
   subst he
   obtain⟨ρ1,t1,x1⟩:=dn.at x
   exact Code.wpIn_mono (fun _ _ _ p=>p.from t1) (ih2 t h hr nt b0 eb base r n ρ1 w1 a1 x1)
  |ret t h=>obtain⟨he,dn⟩:=p;subst he;exact⟨_,h3 _ hr (fun _ _=>by simp),rfl,dn⟩
  |exit i t h=>obtain⟨he,dn⟩:=p;subst he;exact⟨_,h3 _ hr (fun _ _=>by simp),rfl,dn⟩
  |fail=>exact p.elim
 |condT h1 _ ih=>
  intro nt c0 e base r n ρ w a x
  obtain⟨q0,a0,b0,rfl,eq,ea,eb⟩:=PC e
  have hc:=bY x.rt q0
  rw[eq,h1]at hc
  exact wpIn_cond_true hc (ih nt a0 ea base r n ρ w a x)
 |condF h1 _ ih=>
  intro nt c0 e base r n ρ w a x
  obtain⟨q0,a0,b0,rfl,eq,ea,eb⟩:=PC e
  have hc:=bY x.rt q0
  rw[eq,h1]at hc
  exact wpIn_cond_false hc (ih nt b0 eb base r n ρ w a x)
 | @block id b t h R Q _ h2 ih=>
  intro nt c0 e base r n ρ w a x
  obtain⟨b0,rfl,eb⟩:=UG e
  refine wpIn_block (Code.wpIn_mono ?_ (ih nt b0 eb base r n ρ w a x))
  rintro ex a1 w1 ⟨res,hr,p⟩
  have q:=h2 res hr
  cases res with
  |norm t h=>obtain⟨he,dn⟩:=p;subst he;exact⟨_,q,rfl,dn⟩
  |ret t h=>obtain⟨he,dn⟩:=p;subst he;exact⟨_,q,rfl,dn⟩
  |exit i t h=>
   obtain⟨he,dn⟩:=p
   subst he
   show if i=id then _ else _
   by_cases hi:i=id
   ·rw[if_pos hi]
    refine⟨.norm t h,?_,rfl,dn⟩
    have:jM id (.exit i t h)= .norm t h:=by
     show(bif Nat.beq i id then eK.norm t h else eK.exit i t h)=_
     rw[beq_eq.2 hi];rfl
    rw[←this];exact q
   ·rw[if_neg hi]
    refine⟨.exit i t h,?_,rfl,dn⟩
    have:jM id (.exit i t h)= .exit i t h:=by
     show(bif Nat.beq i id then eK.norm t h else eK.exit i t h)=_
     cases hb:Nat.beq i id with
     |true=>exact absurd (beq_eq.1 hb) hi
     |false=>rfl
    rw[←this];exact q
  |fail=>exact p.elim
 |loop _ ih=>
  intro nt c0 e base r n ρ w a x
  obtain⟨b0,rfl,eb⟩:=ZY e
  exact wpIn_loop_rounds _ (ih nt b0 eb base r n ρ w a ρ _ w (gQ.refl _ _ _) x)
 |range h1 _ h3 ih=>
  intro nt c0 e base r n ρ w a x
  obtain⟨f0,ps0,a0,b0,rfl,ef,rfl,rfl,rfl,hp⟩:=UH e
  rw[←ef]at h1
  exact R5 hp h1 ih h3 x
 |exit q=>
  intro nt c0 e base r n ρ w a x
  rw[ZZ e]
  exact wpIn_exit ⟨_,q,rfl,x.done⟩
 |ret q=>
  intro nt c0 e base r n ρ w a x
  rw[aCE e]
  exact wpIn_ret ⟨_,q,rfl,x.done⟩
 |weaken h1 _ ih=>
  intro nt c0 e base r n ρ w a x
  exact ih nt c0 e base r n ρ w a ⟨x.sim,x.glob,x.rt.weaken h1,x.size,x.small,x.frame,x.low⟩
 |rounds _ _ h3 ih1 ih2=>
  intro nt b0 e base r n ρ w a ρ0 h0 w0 s0 x
  rw[roundsIn_succ]
  refine Code.wpIn_mono ?_ (ih1 nt b0 e base r n ρ w a x)
  rintro ex a1 w1 ⟨res,hr,p⟩
  cases res with
  |norm t h=>
   obtain⟨he,dn⟩:=p
   subst he
   obtain⟨ρ1,t1,x1⟩:=dn.at x
   exact ih2 t h hr nt b0 e base r n ρ1 w1 a1 ρ0 h0 w0 (s0.trans t1) x1
  |ret t h=>obtain⟨he,dn⟩:=p;subst he;exact⟨_,h3 _ hr (fun _ _=>by simp),rfl,dn.from s0⟩
  |exit i t h=>obtain⟨he,dn⟩:=p;subst he;exact⟨_,h3 _ hr (fun _ _=>by simp),rfl,dn.from s0⟩
  |fail=>exact p.elim
 |nil q=>
  intro nt ops lo e
  rw[List.map_eq_nil_iff]at e
  subst e
  exact lX.nil q
 |cons h1 h2 _ ih1 ih2=>
  intro nt ops lo e
  cases lo with
  |nil=>simp at e
  |cons o lo=>
   simp only[List.map_cons,List.cons.injEq]at e
   obtain⟨rfl,e⟩:=e
   have hb:(dJ E nt ops.toList o).act≠ .bad:=by
    intro hb
    rw[hb]at h2
    cases h2 with
    |act _ h _=>cases h
   have hc:=vR (E:=E) (nt:=nt) (ops:=ops.toList) (o:=o) (g:=(dJ E nt ops.toList o).guard) (act:=(dJ E nt ops.toList o).act) (d:=(dJ E nt ops.toList o).dst) rfl (.inl hb)
   exact lX.cons rfl hb h1 (ih1 _ (yS.refl _ _) o hc.2.2) (fun v h' hR=>ih2 v h' hR nt ops lo e)
 |pass h1 h2 _ ih=>
  intro nt ops lo e
  cases lo with
  |nil=>simp at e
  |cons o lo=>
   simp only[List.map_cons,List.cons.injEq]at e
   obtain⟨rfl,e⟩:=e
   exact lX.skip rfl h1 h2 (ih nt ops lo e)
 |dnil q=>
  intro nt ops rest e
  rw[List.map_eq_nil_iff]at e
  subst e
  exact q
 |dplain h1 h2 _ ih=>
  intro nt ops rest e
  cases rest with
  |nil=>simp at e
  |cons z rest=>
   simp only[List.map_cons,List.cons.injEq]at e
   obtain⟨e1,e2⟩:=e
   have:=ih nt ops rest e2
   rcases tL e1 with⟨i,s0,e,e',hc,ei⟩|⟨m,s0,e,_⟩|⟨s0,e,_⟩<;>cases e
   unfold nC
   subst e';subst ei
   simp only[hc]
   exact .inl ⟨h1,_,_,h2,this⟩
 |dplainP h1 h2 _ ih=>
  intro nt ops rest e
  cases rest with
  |nil=>simp at e
  |cons z rest=>
   simp only[List.map_cons,List.cons.injEq]at e
   obtain⟨e1,e2⟩:=e
   have:=ih nt ops rest e2
   rcases tL e1 with⟨i,s0,e,e',hc,ei⟩|⟨m,s0,e,_⟩|⟨s0,e,_⟩<;>cases e
   unfold nC
   subst e'
   simp only[hc]
   exact .inr ⟨h1,h2,this⟩
 |dread h1 h2 _ ih=>
  intro nt ops rest e
  cases rest with
  |nil=>simp at e
  |cons z rest=>
   simp only[List.map_cons,List.cons.injEq]at e
   obtain⟨e1,e2⟩:=e
   have:=ih nt ops rest e2
   rcases tL e1 with⟨i,s0,e,_⟩|⟨m,s0,e,e',hc,em⟩|⟨s0,e,_⟩<;>cases e
   unfold nC
   subst e';subst em
   simp only[hc]
   exact .inl ⟨h1,_,h2,this⟩
 |dreadP h1 h2 _ ih=>
  intro nt ops rest e
  cases rest with
  |nil=>simp at e
  |cons z rest=>
   simp only[List.map_cons,List.cons.injEq]at e
   obtain⟨e1,e2⟩:=e
   have:=ih nt ops rest e2
   rcases tL e1 with⟨i,s0,e,_⟩|⟨m,s0,e,e',hc,em⟩|⟨s0,e,_⟩<;>cases e
   unfold nC
   subst e'
   simp only[hc]
   exact .inr ⟨h1,h2,this⟩
 |deff h1 h2 _ ih1 ih2=>
  intro nt ops rest e
  cases rest with
  |nil=>simp at e
  |cons z rest=>
   simp only[List.map_cons,List.cons.injEq]at e
   obtain⟨e1,e2⟩:=e
   rcases tL e1 with⟨i,s0,e,_⟩|⟨m,s0,e,_⟩|⟨s0,e,e',hc⟩<;>cases e
   have hb:(dJ E nt ops.toList z.2.op).act≠ .bad:=by
    intro hb
    rw[e',hb]at h2
    cases h2 with
    |act _ h _=>cases h
   have hcs:=vR (E:=E) (nt:=nt) (ops:=ops.toList) (o:=z.2.op) (g:=(dJ E nt ops.toList z.2.op).guard) (act:=(dJ E nt ops.toList z.2.op).act) (d:=(dJ E nt ops.toList z.2.op).dst) rfl (.inl hb)
   unfold nC
   subst e'
   simp only[hc]
   obtain⟨v0,h0,hR⟩:=h2.has
   exact .inl ⟨h1,_,⟨v0,h0,hR⟩,fun t' ag=>ih1 t' ag _ hcs.2.2,fun v h' hR=>ih2 v h' hR nt ops rest e2⟩
 |deffP h1 h2 _ ih=>
  intro nt ops rest e
  cases rest with
  |nil=>simp at e
  |cons z rest=>
   simp only[List.map_cons,List.cons.injEq]at e
   obtain⟨e1,e2⟩:=e
   have:=ih nt ops rest e2
   rcases tL e1 with⟨i,s0,e,_⟩|⟨m,s0,e,_⟩|⟨s0,e,e',hc⟩<;>cases e
   unfold nC
   subst e'
   simp only[hc]
   exact .inr ⟨h1,h2,this⟩
 |act h1 h2 q=>
  intro t' ag o e
  subst e
  rw[nD T M _ ag]at h2
  exact KM hE hF T M iY h1 h2 q
 |nilq h1 h2 h3 q q'=>
  intro t' ag o e
  exact RW hE e h1 ((ag _ (by simp[rI])).symm.trans h2) ((ag _ (by simp[rI])).symm.trans h3) q q'
 |next h1 h2 h3 h4 q=>
  intro t' ag o e
  have h1':=(ag _ (by simp[rI])).symm.trans h1
  have ho:=Z0 e
  obtain⟨x,ho,hx⟩:=ho
  rw[←hx]at h1'
  exact R6 ho h1' h2 h3 h4 q
 |value h1 _ ih=>
  intro t' ag o e
  obtain⟨c,f0,ho,hc,hf,ha⟩:=C0 e
  have h1':=(ag _ (by simp[rI])).symm.trans h1
  rw[←hf]at h1'
  refine NL ho hc h1' ?_
  rw[ha,←jI (fun x hx=>ag x (by simp[rI,hx]))]
  exact ih
 |yield h1 _ ih=>
  intro t' ag o e
  obtain⟨c,f0,ho,hc,hf,ha⟩:=C0 e
  have h1':=(ag _ (by simp[rI])).symm.trans h1
  rw[←hf]at h1'
  refine NM ho hc h1' ?_
  rw[ha,←jI (fun x hx=>ag x (by simp[rI,hx]))]
  exact ih
 |invoke h1 h2 h3 _ ih=>
  intro t' ag o e
  obtain⟨c,f0,ho,hc,hf,ha⟩:=KJ e
  have h1':=(ag _ (by simp[rI])).symm.trans h1
  rw[←hf]at h1'
  refine KN M hM ho hc h1' h2 h3 ?_
  rw[ha,←jI (fun x hx=>ag x (by simp[rI,hx]))]
  exact ih
 | @fn f args h cf R Q h1 h2 h3 h4 h5 ih=>
  obtain⟨fn,hf,rfl⟩:=hT f cf h1
  unfold bL at h2 h3 h4 h5 ih
  cases hb:fn.body with
  |none=>rw[hb]at h2;simp only[bN]at h2;split at h2<;>cases h2
  |some c=>
   simp only[hb]at h2 h3 h4 h5 ih
   have hname:fn.name≠ "runtime.NumGoroutine" :=by
    intro hn
    rw[hn]at h2
    cases h2
   have hs:fn.ntmps≤16000:=by
    apply Classical.byContradiction
    intro hn
    have:Nat.ble fn.ntmps 16000=false:=by
     cases hx:Nat.ble fn.ntmps 16000 with
     |true=>exact absurd (ble_eq.1 hx) hn
     |false=>rfl
    rw[this]at h4
    exact h4.not_bad _ _ rfl
   have hbl:Nat.ble fn.ntmps 16000=true:=ble_eq.2 hs
   rw[hbl]at ih
   exact aCI hE hf hb hname h3 hs (ih fn.ntmps c rfl) h5
 | @ext f args h cf v h' Q h1 h2 h3 q=>
  obtain⟨fn,hf,rfl⟩:=hT f cf h1
  unfold bL at h2
  cases hb:fn.body with
  |none=>
   rw[hb]at h2
   simp only[bN]at h2
   split at h2
   ·rename_i hn
    exact Z9 hf hb (by simpa using hn) hext h3 q
   ·cases h2
  |some c=>
   rw[hb]at h2
   simp only[bN]at h2
   split at h2<;>cases h2
 |cool _ h2 ih=>exact gW.cool ih (fun v h' hR=>h2 v h' hR)
 |nilw h1 _ ih=>exact gW.nilw h1 ih
 |known h1 _=>exact hX _ _ _ _ h1
 |yld h1 h2 _ h4 _ h6 ih1 ih2=>exact R7 h1 h2 ih1 h4 (fun tm1 h1 r1 hr hg=>ih2 tm1 h1 r1 hr hg) h6
end
end
section
section
variable{T:bE cX}{M:Nat→String→Option (Nat×Option fV)}{X:Nat→List AV→aL→(AV→aL→Prop)→Prop}
theorem KD{a:fC}(hn:fA a=true)(prev prev':eL)(t:PT)(h:aL):act T M prev t h a=act T M prev' t h a:=by
 cases a<;>first|rfl|skip
 rename_i c args
 cases c<;>first|rfl|(simp[fA]at hn)
def PA(T:bE cX)(M:Nat→String→Option (Nat×Option fV))(X:Nat→List AV→aL→(AV→aL→Prop)→Prop)(prev:eL):Prop:=
 ∀(c:CC) (t:PT) (h:aL) (res:eK),prev c t h=res→res≠ .fail→W T M X (.code c t h) (fun x=>x= .res res)
variable{prev:eL}(ht:PA T M X prev)
include ht
theorem vM{f:Nat}{args:List AV}{h h':aL}{v:AV}(e:gZ T prev f args h= .ok v h'):W T M X (.fn f args h) (fun x=>x= .val v h'):=by
 unfold gZ at e
 cases hT:T.get f with
 |none=>rw[hT]at e;cases e
 |some cf=>
  rw[hT]at e
  simp only[LL,bN,beq_eq,ble_eq]at e
  split at e
  ·rename_i h0
   split at e
   ·rename_i hn
    have hnf:prev cf.code (pt args 0 .leaf) h≠ .fail:=by intro hh;rw[hh]at e;cases e
    exact .fn hT h0 hn (ht _ _ _ _ rfl hnf) (fun r hr=>by
     simp only[vN.res.injEq]at hr
     subst hr
     exact⟨v,h',e,rfl⟩)
   ·cases e
  ·split at e
   ·rename_i h1;exact .ext hT h1 e rfl
   ·cases e
theorem PB{l:Nat}{args:List AV}{h h':aL}{v:AV}(e:OA prev l args h (aP h l)= .ok v h'):W T M X (.yld l args h) (fun x=>x= .val v h'):=by
 cases hg:aP h l with
 |none=>rw[hg]at e;cases e
 |some ob=>
  cases ob with
  |loop r0=>
   rw[hg]at e
   simp only[OA,bN]at e
   split at e
   case isFalse=>cases e
   cases hp:kO r0.tmps r0.params args with
   |none=>rw[hp]at e;cases e
   |some tm0=>
    simp only[hp,VR]at e
    cases ha:prev r0.assign tm0 h with
    |norm tm1 h1=>
     rw[ha]at e
     simp only[P5]at e
     cases hg1:aP h1 l with
     |none=>rw[hg1]at e;cases e
     |some ob=>
      cases ob with
      |loop r1=>
       rw[hg1]at e
       simp only[VQ,bN]at e
       split at e
       case isFalse=>cases e
       rename_i hready
       have hnf:prev r0.body tm1 (bI h1 l (.loop {r1 with state:= .busy}))≠ .fail:=by intro hh;rw[hh]at e;cases e
       refine .yld hg hp (ht _ _ _ _ ha (by simp)) (fun res hr=> ?_) (fun tm1' h1' r1' hr hg1'=> ?_) (Rb:=fun x=>x= .res (prev r0.body tm1 (bI h1 l (.loop {r1 with state:= .busy})))) (fun res hr=> ?_)
       ·simp only[vN.res.injEq]at hr
        subst hr
        exact⟨_,_,_,rfl,hg1,hready⟩
       ·simp only[vN.res.injEq,eK.norm.injEq]at hr
        obtain⟨rfl,rfl⟩:=hr
        rw[hg1]at hg1'
        cases hg1'
        exact ht _ _ _ _ rfl hnf
       ·simp only[vN.res.injEq]at hr
        subst hr
        exact⟨v,h',e,rfl⟩
      |_=>rw[hg1]at e;cases e
    |_=>rw[ha]at e;cases e
  |_=>rw[hg]at e;cases e
theorem aBc{a:fC}{t:PT}{h h':aL}{v:AV}(e:act T M prev t h a= .ok v h'):W T M X (.step a t h) (fun x=>x= .val v h'):=by
 by_cases hn:fA a=true
 ·rw[KD hn prev iY]at e
  exact .act hn e rfl
 ·cases a with
  |call c args=>
   cases c with
   |value f=>
    have e:LM T prev (fY t args) h (cH t f)= .ok v h':=e
    cases hx:cH t f with
    |func fn first captured=>
     rw[hx]at e
     cases fn with
     |func g=>exact .value hx (vM ht e)
     |yield l=>
      cases first with
      |cons _ _=>cases e
      |nil=>
       cases captured with
       |cons _ _=>cases e
       |nil=>exact .yield hx (PB ht e)
     |_=>cases e
    |_=>rw[hx]at e;cases e
   |invoke r name=>
    have e:kP T M prev name (fY t args) h (cH t r)= .ok v h':=e
    cases hx:cH t r with
    |iface ty y=>
     rw[hx]at e
     cases hm:M ty name with
     |none=>simp only[kP,hm,qP,reduceCtorEq]at e
     |some fc=>
      obtain⟨f,c⟩:=fc
      simp only[kP,hm,qP]at e
      cases hrv:sM h y c with
      |none=>simp only[hrv,qO,reduceCtorEq]at e
      |some y'=>
       simp only[hrv,qO]at e
       exact .invoke hx hm hrv (vM ht e)
    |_=>rw[hx]at e;cases e
   |_=>simp[fA]at hn
  |_=>simp[fA]at hn
theorem CW:∀(l:List jB) (t:PT) (h:aL) (res:eK),uT T M prev l t h=res→res≠ .fail→W T M X (.ops l t h) (fun x=>x= .res res)
 | [],t,h,res,e,_=>by
  have e:eK.norm t h=res:=e
  subst e
  exact .nil rfl
 |s::l,t,h,res,e,hx=>by
  have e:(if wanted t s.guard=true then(match act T M prev t h s.act with| .ok v h=>uT T M prev l (put t v s.dst) h| .bad=> .fail)else if xX t s.guard=true then uT T M prev l (put t bS s.dst) h else .fail)=res:=by
   rw[←e]
   show _=Bool.rec (motive:=fun _=>eK) _ _ _
   rw[EW]
   split
   ·cases act T M prev t h s.act<;>rfl
   ·rw[EW];rfl
  split at e
  ·rename_i hw
   cases ha:act T M prev t h s.act with
   |bad=>rw[ha]at e;exact absurd e.symm hx
   |ok v h1=>
    rw[ha]at e
    exact .cons hw (aBc ht ha) (fun v' h' hv=>by
     simp only[vN.val.injEq]at hv
     obtain⟨rfl,rfl⟩:=hv
     exact CW l _ _ res e hx)
  ·rename_i hw
   split at e
   ·rename_i hu;exact .pass (by simpa using hw) hu (CW l _ _ res e hx)
   ·exact absurd e.symm hx
omit ht in
theorem ZT{a b:Int}(h:NZ a b=true):a=b:=by
 cases a<;>cases b<;>simp only[NZ,beq_eq,reduceCtorEq,Bool.false_eq_true]at h<;>rw[h]
omit ht in
theorem FE:∀{a b:List Nat},nL a b=true→a=b
 | [],[],_=>rfl
 | [],_::_,h=>by cases h
 |_::_,[],h=>by cases h
 |a::x,b::y,h=>by
  simp only[nL,bN,beq_eq]at h
  split at h
  ·rename_i e;rw[e,FE h]
  ·cases h
omit ht in
theorem KE{x y:AV}(h:PS x y=true):x=y:=by
 cases x<;>cases y<;>simp only[PS,aI,beq_eq,reduceCtorEq,Bool.false_eq_true]at h<;>first
  |rfl
  |(rw[qE]at h;simp only[beq_iff_eq]at h;rw[h])
  |(rw[vZ (beq_eq.2 h.1),ZT h.2])
  |(rw[FE h])
  |(obtain⟨h1,h2,h3,h4,h5⟩:=h;rw[h1,h2,h3,h4,h5])
  |(obtain⟨h1,h2⟩:=h;rw[h1,h2])
  |(rw[h])
  |(cases h)
omit ht in
theorem CX:∀{l m:List AV},PU l m=true→l=m
 | [],[],_=>rfl
 | [],_::_,h=>by cases h
 |_::_,[],h=>by cases h
 |a::l,b::m,h=>by
  simp only[PU,bN]at h
  split at h
  ·rename_i e;rw[KE e,CX h]
  ·cases h
omit ht in
theorem xL{f:AV→AV→Bool}(hf:∀x y,f x y=true→x=y):∀{l m:List AV},xU f l m=true→l=m
 | [],[],_=>rfl
 | [],_::_,h=>by cases h
 |_::_,[],h=>by cases h
 |a::l,b::m,h=>by
  simp only[xU,bN]at h
  split at h
  ·rename_i e;rw[hf a b e,xL hf h]
  ·cases h
omit ht in
theorem CY:∀(n:Nat) (x y:AV),DN n x y=true→x=y
 |0,_,_,h=>by cases h
 |n+1,x,y,h=>by
  have ih:=CY n
  cases x<;>first
   |exact KE h
   |(cases y<;>first
    |(rw[xL ih h])
    |(simp only[DN,aI,beq_eq]at h;obtain⟨h1,h2,h3,h4⟩:=h;rw[qE]at h3;simp only[beq_iff_eq]at h3;rw[h1,h2,h3,xL ih h4])
    |(cases h))
omit ht in
theorem KF{x y:AV}(h:PV x y=true):x=y:=CY 1000 x y h
omit ht in
theorem CZ{t:PT}{a:fC}{v:AV}:∀(m:Nat) (hs:List aL),yY T M t a v m hs=true→∀k,k<m→∃hk u h1,hs[k]?=some hk∧fZ T M t hk a= .ok u h1∧PV v u=true
 |0,_,_,k,hk=>absurd hk (by omega)
 |m+1,[],e,k,hk=>by cases e
 |m+1,h::hs,e,k,hk=>by
  simp only[yY]at e
  cases ha:fZ T M t h a with
  |bad=>rw[ha]at e;cases e
  |ok u h1=>
   rw[ha]at e
   simp only[bN]at e
   split at e
   ·rename_i hs'
    cases k with
    |zero=>exact⟨h,u,h1,rfl,ha,hs'⟩
    |succ k=>exact CZ m hs e k (by omega)
   ·cases e
theorem uO{base:Nat}:∀(l:List rD) (hist:List aL) (t:PT) (h:aL) (res:eK),lF T M prev base l hist t h=res→res≠ .fail→W T M X (.draw base l hist t h) (fun x=>x= .res res)
 | [],hist,t,h,res,e,_=>by
  have e:eK.norm t h=res:=e
  subst e
  exact .dnil rfl
 | .plain i s::l,hist,t,h,res,e,hx=>by
  have e:(if wanted t s.guard=true then LO s hist t h.aA (lF T M prev base l) (qQ T M t s.act (base+i) h)else if xX t s.guard=true then lF T M prev base l hist (put t bS s.dst) h else .fail)=res:=by
   rw[←e];simp only[lF,bN]
  split at e
  ·rename_i hw
   obtain⟨ht',hn'⟩:=h
   cases ha:fZ T M t ⟨ht',base+i⟩ s.act with
   |bad=>simp only[qQ,ha,LO]at e;exact absurd e.symm hx
   |ok v h1=>
    simp only[qQ,ha]at e
    obtain⟨t1,n1⟩:=h1
    exact .dplain hw ha (uO l _ _ _ res e hx)
  ·rename_i hw
   split at e
   ·rename_i hu;exact .dplainP (by simpa using hw) hu (uO l _ _ _ res e hx)
   ·exact absurd e.symm hx
 | .read m s::l,hist,t,h,res,e,hx=>by
  have e:(if wanted t s.guard=true then wJ T M m s hist t h (lF T M prev base l) (uU T M t s.act hist)else if xX t s.guard=true then lF T M prev base l hist (put t bS s.dst) h else .fail)=res:=by
   rw[←e];simp only[lF,bN]
  split at e
  ·rename_i hw
   cases hist with
   |nil=>simp only[uU,wJ]at e;exact absurd e.symm hx
   |cons h0 hist=>
    simp only[uU]at e
    cases ha:fZ T M t h0 s.act with
    |bad=>simp only[ha,wJ]at e;exact absurd e.symm hx
    |ok v h1=>
     simp only[ha,wJ,bN]at e
     split at e
     case isFalse=>exact absurd e.symm hx
     rename_i hr
     have hr:yY T M t s.act v m hist=true:=hr
     refine .dread hw (v:=v) (fun k hk=> ?_) (uO l _ _ _ res e hx)
     cases k with
     |zero=>exact⟨h0,h1,rfl,ha⟩
     |succ k=>
      obtain⟨hk',u,h2,e1,e2,e3⟩:=CZ m hist hr k (by omega)
      exact⟨hk',h2,by simpa using e1,by rw[e2,KF e3]⟩
  ·rename_i hw
   split at e
   ·rename_i hu;exact .dreadP (by simpa using hw) hu (uO l _ _ _ res e hx)
   ·exact absurd e.symm hx
 | .eff s::l,hist,t,h,res,e,hx=>by
  have e:(if wanted t s.guard=true then VS s hist t (lF T M prev base l) (act T M prev t h s.act)else if xX t s.guard=true then lF T M prev base l (h::hist) (put t bS s.dst) h else .fail)=res:=by
   rw[←e];simp only[lF,bN]
  split at e
  ·rename_i hw
   cases ha:act T M prev t h s.act with
   |bad=>rw[ha]at e;exact absurd e.symm hx
   |ok v h1=>
    rw[ha]at e
    exact .deff hw (aBc ht ha) (fun v' h' hv=>by
     simp only[vN.val.injEq]at hv
     obtain⟨rfl,rfl⟩:=hv
     exact uO l _ _ _ res e hx)
  ·rename_i hw
   split at e
   ·rename_i hu;exact .deffP (by simpa using hw) hu (uO l _ _ _ res e hx)
   ·exact absurd e.symm hx
theorem ZU{f:CO}{ps:List bH}{asn body:CC}{t:PT}{h:aL}{res:eK}(e:OB T prev f ps asn body t h=res)(hx:res≠ .fail):W T M X (.code (.range f ps asn body) t h) (fun x=>x= .res res):=by
 obtain⟨ht',n⟩:=h
 have e:uV n t (DW T prev [.func (.yield n) [] []] (xT ⟨ht',n⟩ (.loop {state:= .ready,pending:=none,tmps:=t,params:=ps,assign:=asn,body:=body})) (cH t f))=res:=e
 cases hX:cH t f with
 |func fn first captured=>
  rw[hX]at e
  cases fn with
  |func g=>
   cases hc:gZ T prev g (first++([.func (.yield n) [] []]++captured)) (xT ⟨ht',n⟩ (.loop {state:= .ready,pending:=none,tmps:=t,params:=ps,assign:=asn,body:=body}))with
   |bad=>simp only[DW,hc,uV]at e;exact absurd e.symm hx
   |ok v h2=>
    simp only[DW,hc,uV]at e
    exact .range hX (vM ht hc) (fun v' h2' hv=>by
     simp only[vN.val.injEq]at hv
     obtain⟨rfl,rfl⟩:=hv
     exact⟨res,e,hx,rfl⟩)
  |_=>exact absurd e.symm hx
 |_=>rw[hX]at e;exact absurd e.symm hx
theorem rC{k:Nat}(hr:∀b t h res,prev (.loop b) t h=res→res≠ .fail→W T M X (.rounds k b t h) (fun x=>x= .res res)):∀(c:CC) (t:PT) (h:aL) (res:eK),run T M prev c t h=res→res≠ .fail→
  W T M X (.code c t h) (fun x=>x= .res res)∧∀b,c= .loop b→W T M X (.rounds (k+1) b t h) (fun x=>x= .res res)
 | .skip,t,h,res,e,_=>⟨.skip (congrArg _ e),fun _ e=>by cases e⟩
 | .ops l,t,h,res,e,hx=>⟨.opsC (CW ht l t h res e hx),fun _ e=>by cases e⟩
 | .draw n l,t,h,res,e,hx=>⟨.drawC (uO ht l _ _ _ res (by cases h;exact e) hx),fun _ e=>by cases e⟩
 | .seq a b,t,h,res,e,hx=>⟨by
   have e:FX (run T M prev b) (run T M prev a t h)=res:=e
   cases h1:run T M prev a t h with
   |fail=>rw[h1]at e;exact absurd e.symm hx
   |norm t1 h1'=>
    rw[h1]at e
    exact .seq (rC hr a t h _ h1 (by simp)).1 (fun t' h' hv=>by
     simp only[vN.res.injEq,eK.norm.injEq]at hv
     obtain⟨rfl,rfl⟩:=hv
     exact(rC hr b _ _ res e hx).1) (fun r hr' hn=>by
     simp only[vN.res.injEq]at hr'
     subst hr'
     exact absurd rfl (hn _ _))
   |ret t1 h1'=>
    rw[h1]at e
    have e:eK.ret t1 h1'=res:=e
    subst e
    exact .seq (rC hr a t h _ h1 (by simp)).1 (fun t' h' hv=>by simp at hv) (fun r hr' hn=>hr')
   |exit i t1 h1'=>
    rw[h1]at e
    have e:eK.exit i t1 h1'=res:=e
    subst e
    exact .seq (rC hr a t h _ h1 (by simp)).1 (fun t' h' hv=>by simp at hv) (fun r hr' hn=>hr'),fun _ e=>by cases e⟩
 | .cond c x y,t,h,res,e,hx=>⟨by
   have e:VT (run T M prev x) (run T M prev y) t h (cH t c)=res:=e
   cases hc:cH t c with
   |bool b=>
    rw[hc]at e
    cases b with
    |true=>exact .condT hc (rC hr x t h res e hx).1
    |false=>exact .condF hc (rC hr y t h res e hx).1
   |_=>rw[hc]at e;exact absurd e.symm hx,fun _ e=>by cases e⟩
 | .block id b,t,h,res,e,hx=>⟨by
   have e:jM id (run T M prev b t h)=res:=e
   have hn:run T M prev b t h≠ .fail:=by intro hh;rw[hh]at e;exact hx e.symm
   exact .block (rC hr b t h _ rfl hn).1 (fun r hr'=>by
    simp only[vN.res.injEq]at hr'
    rw[hr',e]),fun _ e=>by cases e⟩
 | .loop b,t,h,res,e,hx=>by
   have e:FX (prev (.loop b)) (run T M prev b t h)=res:=e
   have key:W T M X (.rounds (k+1) b t h) (fun x=>x= .res res):=by
    cases h1:run T M prev b t h with
    |fail=>rw[h1]at e;exact absurd e.symm hx
    |norm t1 h1'=>
     rw[h1]at e
     exact .rounds (rC hr b t h _ h1 (by simp)).1 (fun t' h' hv=>by
      simp only[vN.res.injEq,eK.norm.injEq]at hv
      obtain⟨rfl,rfl⟩:=hv
      exact hr b _ _ res e hx) (fun r hr' hn=>by
      simp only[vN.res.injEq]at hr'
      subst hr'
      exact absurd rfl (hn _ _))
    |ret t1 h1'=>
     rw[h1]at e
     have e:eK.ret t1 h1'=res:=e
     subst e
     exact .rounds (rC hr b t h _ h1 (by simp)).1 (fun t' h' hv=>by simp at hv) (fun r hr' hn=>hr')
    |exit i t1 h1'=>
     rw[h1]at e
     have e:eK.exit i t1 h1'=res:=e
     subst e
     exact .rounds (rC hr b t h _ h1 (by simp)).1 (fun t' h' hv=>by simp at hv) (fun r hr' hn=>hr')
   exact⟨.loop key,fun b' e=>by cases e;exact key⟩
 | .range f ps a b,t,h,res,e,hx=>⟨ZU ht e hx,fun _ e=>by cases e⟩
 | .exit i,t,h,res,e,_=>⟨.exit (congrArg _ e),fun _ e=>by cases e⟩
 | .ret,t,h,res,e,_=>⟨.ret (congrArg _ e),fun _ e=>by cases e⟩
 | .bad,t,h,res,e,hx=>absurd (show eK.fail=res from e).symm hx
omit ht in
theorem aGP:∀(k:Nat),PA T M X (ev T M k)∧∀b t h res,ev T M k (.loop b) t h=res→res≠ .fail→W T M X (.rounds k b t h) (fun x=>x= .res res)
 |0=>⟨fun c t h res e hx=>absurd (show eK.fail=res from e).symm hx,fun b t h res e hx=>absurd (show eK.fail=res from e).symm hx⟩
 |k+1=>by
  obtain⟨i1,i2⟩:=aGP k
  exact⟨fun c t h res e hx=>(rC i1 i2 c t h res e hx).1,fun b t h res e hx=>(rC i1 i2 (.loop b) t h res e hx).2 b rfl⟩
omit ht in
theorem ZV{k f:Nat}{args:List AV}{h h':aL}{v:AV}(e:gZ T (ev T M k) f args h= .ok v h'):W T M X (.fn f args h) (fun x=>x= .val v h'):=vM (aGP k).1 e
end
end
section
noncomputable section
abbrev KH:=AV→aL→Prop
def RO(x:Option AV)(K:AV→Prop):Prop:=match x with|some v=>K v|none=>False
def RL(x:Option (List AV))(K:List AV→Prop):Prop:=match x with|some v=>K v|none=>False
def RP(x:R AV)(K:KH):Prop:=match x with| .ok v h=>K v h| .bad=>False
def V(K:KH):vN→Prop
 | .val v h=>K v h
 | .res _=>False
def RQ(Q:eK→Prop):vN→Prop
 | .res r=>Q r
 | .val .. =>False
def nw(h:aL)(o:AO):aL:=⟨fS h.t h.aA (some o),h.aA+1⟩
def up(h:aL)(n:Nat):aL:=⟨h.t,h.aA+n⟩
def bK(cells:List AV):List (Nat×Nat×AV)→Option (List AV)
 | []=>some cells
 |(off,size,v)::rest=>match FW cells off size (aK v)with
  |some cells=>bK cells rest
  |none=>none
def evP(t:PT):List (Nat×Nat×CO)→List (Nat×Nat×AV)
 | []=> []
 |(off,size,o)::l=>(off,size,cH t o)::evP t l
theorem qB(t:PT):∀(ps:List (Nat×Nat×CO)) (cells:List AV),iR t cells ps=bK cells (evP t ps)
 | [],_=>rfl
 |(off,size,o)::l,cells=>by
  simp only[iR,evP,bK]
  cases FW cells off size (aK (cH t o))with
  |none=>rfl
  |some c=>exact qB t l c
def cA(l:List AV)(A:Prop):Prop:=aZ l=true∧A
def aQ:AV→Bool
 | .other=>false
 |_=>true
def bD:List AV→Nat→AV
 | [],_=> .other
 |x::_,0=>x
 |_::l,n+1=>bD l n
def NC(i:Nat):List bH→List AV→PT→PT
 | [],_,t=>t
 |p::ps,vs,t=>PT.set (bD vs i) p (NC (i+1) ps vs t)
def pts(ps:List bH)(vs:List AV):PT:=NC 0 ps vs .oth
def hZ(t:PT):List bH→List AV
 | []=> []
 |p::ps=>t.get p::hZ t ps
def cB(v:AV)(A B:Prop):Prop:=match v with| .bool true=>A| .bool false=>B|_=>False
def gV(v:AV)(want:Bool)(A:KH→Prop)(h:aL)(K:KH):Prop:=match v with| .bool b=>bif K8 b want then A K else K bS h| .tuple _=>K bS h|_=>False
def gK(t:PT)(g:Option (bH×Bool))(A:KH→Prop)(h:aL)(K:KH):Prop:=match g with|none=>A K|some (p,want)=>gV (t.get p) want A h K
def rdS(a:aL→R AV)(v:AV)(B:Prop):Nat→List aL→Prop
 |0,_=>B
 |_+1,[]=>False
 |m+1,h::hs=>(∃h1,a h= .ok v h1)∧rdS a v B m hs
def cP(a:aL→R AV)(m:Nat):List aL→(AV→Prop)→Prop
 | [],_=>False
 |h::hs,K=>RP (a h) fun v _=>rdS a v (K v) m hs
abbrev Ends:=List (Nat×(List AV→aL→Prop))
def bX:Ends→Nat→List AV→aL→Prop
 | [],_,_,_=>False
 |(j,k)::l,i,vs,h=>bif Nat.beq i j then k vs h else bX l i vs h
section
variable(T:bE cX)(M:Nat→String→Option (Nat×Option fV))(X:Nat→List AV→aL→KH→Prop)
def F(f:Nat)(args:List AV)(h:aL)(K:KH):Prop:=W T M X (.fn f args h) (V K)
def Y(l:Nat)(args:List AV)(h:aL)(K:KH):Prop:=W T M X (.yld l args h) (V K)
def cV(v:AV)(args:List AV)(h:aL)(K:KH):Prop:=match v with
 | .func (.func g) first captured=>F T M X g (first++(args++captured)) h K
 | .func (.yield l) [] []=>Y T M X l args h K
 |_=>False
def cI2(y:AV)(args:List AV)(h:aL)(K:KH):Option (Nat×Option fV)→Prop
 |some (f,ct)=>RO (sM h y ct) fun y'=>F T M X f (y'::args) h K
 |none=>False
def cI(v:AV)(name:String)(args:List AV)(h:aL)(K:KH):Prop:=match v with
 | .iface ty y=>cI2 T M X y args h K (M ty name)
 |_=>False
def NX(str:Bool)(v:AV)(h:aL)(K:KH):Prop:=W T M X (.step (.next str (.val v)) .leaf h) (V K)
def wpA(t:PT)(h:aL)(K:KH):fC→Prop
 | .move x=>K (cH t x) h
 | .pick c a b=>RO (bJ (cH t a) (cH t b) (cH t c)) fun v=>K v h
 | .alloc z=>K (.ptr h.aA 0) (nw h (.cells z))
 | .box x=>cA (aK (cH t x)) (K (.ptr h.aA 0) (nw h (.cells (aK (cH t x)))))
 | .build z parts=>RL (bK z (evP t parts)) fun l=>cA l (K (.agg l) h)
 | .bslice z len parts=>RL (bK z (evP t parts)) fun l=>cA l (K (.slice h.aA 0 len len 0) (nw h (.cells l)))
 | .load cut a=>RO (aJ h cut (cH t a)) fun v=>K v h
 | .store size a x=>RP (aW h size (aK (cH t x)) (cH t a)) K
 | .nilCheck x=>RO (cU (cH t x)) fun v=>K v h
 | .bin op q x y=>RO (aO op q (cH t x) (cH t y)) fun v=>K v h
 | .un op x=>RO (gS op (cH t x)) fun v=>K v h
 | .toInt k x=>RO (qM k (cH t x)) fun v=>K v h
 | .toStr x=>RO (xW h (cH t x)) fun v=>K v h
 | .asStr x=>RO (N8 (cH t x)) fun v=>K v h
 | .toBytes x=>RP (wG h (cH t x)) K
 | .mkIface ty x=>K (.iface ty (cH t x)) h
 | .mkFunc fn first captured=>K (.func fn (fY t first) (fY t captured)) h
 | .mkMap=>K (.map h.aA) (nw h (.map [] 0))
 | .mkSlice z l c=>RP (wH h z (bB (cH t l)) (bB (cH t c))) K
 | .slice k x lo hi mx=>RO (iQ (xS t lo) (xS t hi) (xS t mx) (cH t x) k) fun v=>K v h
 | .fieldAddr off x=>RO (aN off (cH t x)) fun v=>K v h
 | .field cut x=>RO (sJ cut (cH t x)) fun v=>K v h
 | .indexAddr arr size x i=>RO (cR arr size (cH t x) (bB (cH t i))) fun v=>K v h
 | .index n size agg x i=>RO (aAr n size agg (cH t x) (bB (cH t i))) fun v=>K v h
 | .indexS x i=>RO (ixS (cH t x) (bB (cH t i))) fun v=>K v h
 | .lookup q z ok x k=>RO (fT q z ok (cH t k) (dK h (cH t x))) fun v=>K v h
 | .mapUpdate q m k x=>RP (hU h q (cH t k) (cH t x) (cH t m)) K
 | .mapEntry q z m k=>RP (HJ h q z (cH t k) (cH t m)) K
 | .entryStore m s x=>RP (LI h (cH t x) (bB (cH t s)) (cH t m)) K
 | .range str x=>RP (bif str then N5 h (cH t x)else qL h (cH t x)) K
 | .next str it=>NX T M X str (cH t it) h K
 | .entry it=>RO (EZ h (cH t it)) fun v=>K v h
 | .assert ty ok x=>RO (wF ty ok (cH t x)) fun v=>K v h
 | .extract i x=>RO (aR i (cH t x)) fun v=>K v h
 | .toArr n x=>RO (N7 n (cH t x)) fun v=>K v h
 | .call (.value f) args=>cV T M X (cH t f) (fY t args) h K
 | .call (.invoke r name) args=>cI T M X (cH t r) name (fY t args) h K
 | .call (.func _) _=>False
 | .call (.len k) args=>RP (bO k (fY t args) h) K
 | .call .cap args=>RP (aCV (fY t args) h) K
 | .call (.append size) args=>RP (cY size (fY t args) h) K
 | .call (.copy size) args=>RP (VE size (fY t args) h) K
 | .call .max args=>RO (iP max2 (fY t args)) fun v=>K v h
 | .call .min args=>RO (iP min2 (fY t args)) fun v=>K v h
 | .call (.clear z) args=>RP (DR z (fY t args) h) K
 | .call (.delete q) args=>RP (tT q (fY t args) h) K
 | .call .bad _=>False
 | .bad=>False
def EQ(op:BinOp)(x y:AV)(K:AV→Prop):Prop:=RO (aO op .sl x y) K∨((op= .eql∨op= .neq)∧(∃l len ex,x= .rslice l len 0 ex)∧y= .aB∧K (.bool true)∧K (.bool false))
def aCy(t:PT)(h:aL)(K:KH):fC→Prop
 | .bin op .sl x y=>EQ op (cH t x) (cH t y) fun v=>K v h
 |a=>wpA T M X t h K a
def wpO:List jB→PT→aL→(PT→aL→Prop)→Prop
 | [],t,h,K=>K t h
 |s::l,t,h,K=>gK t s.guard (fun K=>aCy T M X t h K s.act) h (fun v h=>wpO l (put t v s.dst) h K)
def nwAt(h:aL)(b:Nat)(o:AO):aL:=⟨fS h.t b (some o),h.aA⟩
def wpN(b:Nat)(t:PT)(h:aL)(K:KH):fC→Prop
 | .alloc z=>K (.ptr b 0) (nwAt h b (.cells z))
 | .box x=>cA (aK (cH t x)) (K (.ptr b 0) (nwAt h b (.cells (aK (cH t x)))))
 | .bslice z len parts=>RL (bK z (evP t parts)) fun l=>cA l (K (.slice b 0 len len 0) (nwAt h b (.cells l)))
 | .mkMap=>K (.map b) (nwAt h b (.map [] 0))
 | .mkSlice z l c=>RP (wH ⟨h.t,b⟩ z (bB (cH t l)) (bB (cH t c))) fun v h1=>K v ⟨h1.t,h.aA⟩
 |a=>wpA T M X t h K a
def wpD(base:Nat):List rD→List aL→PT→aL→(PT→aL→Prop)→Prop
 | [],_,t,h,K=>K t h
 | .plain i s::l,hist,t,h,K=>gK t s.guard (fun K=>match wX s.act with| .plain=>wpN T M X (base+i) t h K s.act|_=>False) h (fun v h=>wpD base l hist (put t v s.dst) h K)
 | .read m s::l,hist,t,h,K=>gK t s.guard (fun K=>cP (fun h=>fZ T M t h s.act) m hist fun v=>K v h) h (fun v h=>wpD base l hist (put t v s.dst) h K)
 | .eff s::l,hist,t,h,K=>gK t s.guard (fun K=>wpA T M X t h K s.act) h (fun v h=>wpD base l (h::hist) (put t v s.dst) h K)
def LP(ps:List bH)(b:CC)(vs:List AV)(h:aL)(e:Ends)(rt:List AV→aL→Prop):Prop:=
 W T M X (.code (.loop b) (pts ps vs) h) (RQ fun r=>match r with| .exit i t h=>bX e i (hZ t ps) h| .ret t h=>rt (hZ t ps) h|_=>False)
def J9(A:Nat→List bH)(cur:Nat):CC→PT→aL→(eK→Prop)→Prop
 | .skip,t,h,Q=>Q (.norm t h)
 | .ops l,t,h,Q=>wpO T M X l t h fun t h=>Q (.norm t h)
 | .draw n l,t,h,Q=>wpD T M X h.aA l [up h n] t (up h n) fun t h=>Q (.norm t h)
 | .seq a b,t,h,Q=>J9 A cur a t h fun r=>match r with| .norm t h=>J9 A cur b t h Q| .exit i t h=>Q (.exit i t h)| .ret t h=>Q (.ret t h)| .fail=>False
 | .cond c x y,t,h,Q=>cB (cH t c) (J9 A cur x t h Q) (J9 A cur y t h Q)
 | .block i b,t,h,Q=>J9 A i b t h fun r=>Q (jM i r)
 | .loop b,t,h,Q=>LP T M X (A cur) b (hZ t (A cur)) h ((uD b).map fun i=>(i,fun vs h=>Q (.exit i (pts (A cur) vs) h))) fun vs h=>Q (.ret (pts (A cur) vs) h)
 | .range f ps asn body,t,h,Q=>W T M X (.code (.range f ps asn body) t h) (RQ Q)
 | .exit i,t,h,Q=>Q (.exit i t h)
 | .ret,t,h,Q=>Q (.ret t h)
 | .bad,_,_,_=>False
def rsL(h:aL)(t:PT):List HD→(List AV→Prop)→Prop
 | [],k=>k []
 | .tmp p::l,k=>aQ (t.get p)=true∧rsL h t l fun vs=>k (t.get p::vs)
 | .cell p cut::l,k=>RO (cE h cut (t.get p)) fun v=>rsL h t l fun vs=>k (v::vs)
 | .bad::_,_=>False
def pD(res:List HD)(K:KH):eK→Prop
 | .norm t h=>rsL h t res fun vs=>K (tup vs) h
 | .ret t h=>rsL h t res fun vs=>K (tup vs) h
 |_=>False
end
section
variable{T:bE cX}{M:Nat→String→Option (Nat×Option fV)}{X:Nat→List AV→aL→KH→Prop}(hX:∀f args h (Q Q':KH),X f args h Q→(∀v h',Q v h'→Q' v h')→X f args h Q')
theorem V.mono{K K':KH}(h:∀v h,K v h→K' v h):∀x,V K x→V K' x
 | .val v hp,q=>h v hp q
 | .res _,q=>q
theorem RQ.mono{Q Q':eK→Prop}(h:∀r,Q r→Q' r):∀x,RQ Q x→RQ Q' x
 | .res r,q=>h r q
 | .val ..,q=>q
include hX in
theorem F.mono{f:Nat}{args:List AV}{h:aL}{K K':KH}(q:F T M X f args h K)(m:∀v h,K v h→K' v h):F T M X f args h K':=W.mono q hX (V.mono m)
theorem tK{x:Option AV}{v:AV}{K:AV→Prop}(e:x=some v)(k:K v):RO x K:=by subst e;exact k
theorem CT{x:Option AV}{K:AV→Prop}(h:RO x K):∃v,x=some v∧K v:=by cases x with|none=>exact h.elim|some v=>exact⟨v,rfl,h⟩
theorem ND{x:Option (List AV)}{K:List AV→Prop}(h:RL x K):∃v,x=some v∧K v:=by cases x with|none=>exact h.elim|some v=>exact⟨v,rfl,h⟩
theorem NE{x:R AV}{K:KH}(h:RP x K):∃v h',x= .ok v h'∧K v h':=by cases x with|bad=>exact h.elim|ok v h'=>exact⟨v,h',rfl,h⟩
theorem fJ(h:aL)(o:AO)(f:Nat→AV):eY h o f= .ok (f h.aA) (nw h o):=by cases h;rfl
theorem O9{t:PT}{h:aL}{K:KH}{a:fC}(q:wpA T M X t h K a):W T M X (.step a t h) (V K):=by
 have fin:∀{x:R AV},fA a=true→fZ T M t h a=x→RP x K→W T M X (.step a t h) (V K):=by
  intro x hn e hq
  obtain⟨v,h',rfl,hk⟩:=NE hq
  exact .act hn e hk
 have finO:∀{x:Option AV},fA a=true→fZ T M t h a=cF h x→RO x (fun v=>K v h)→W T M X (.step a t h) (V K):=by
  intro x hn e hq
  obtain⟨v,rfl,hk⟩:=CT hq
  exact .act hn e hk
 cases a with
 |move x=>exact .act rfl rfl q
 |alloc z=>exact .act rfl (fJ _ _ _) q
 |box x=>
  obtain⟨h1,h2⟩:=q
  refine .act rfl ?_ h2
  show N9 h (aK (cH t x))=_
  unfold N9
  rw[h1]
  exact fJ _ _ _
 |build z parts=>
  obtain⟨l,h1,h2,h3⟩:=ND q
  refine .act rfl ?_ h3
  show cF h (DU (iR t z parts))=_
  rw[qB,h1]
  unfold DU
  simp only[h2,if_true]
  rfl
 |bslice z len parts=>
  obtain⟨l,h1,h2,h3⟩:=ND q
  refine .act rfl ?_ h3
  show wI h len (iR t z parts)=_
  rw[qB,h1]
  show(bif aZ l then eY h (.cells l) (sl1 len len)else .bad)=_
  rw[h2]
  exact fJ _ _ _
 |mkIface ty x=>exact .act rfl rfl q
 |mkFunc fn f c=>exact .act rfl rfl q
 |mkMap=>exact .act rfl (fJ _ _ _) q
 |next str it=>
  have q:W T M X (.step (.next str (.val (cH t it))) .leaf h) (V K):=q
  cases q with
  |act h1 h2 h3=>exact .act rfl h2 h3
  |next h1 h2 h3 h4 h5=>exact .next h1 h2 h3 h4 h5
 |call c args=>
  cases c with
  |value f=>
   have q:cV T M X (cH t f) (fY t args) h K:=q
   unfold cV at q
   split at q
   ·rename_i g first captured e;exact .value e q
   ·rename_i l e;exact .yield e q
   ·exact q.elim
  |invoke r name=>
   have q:cI T M X (cH t r) name (fY t args) h K:=q
   unfold cI at q
   split at q
   ·rename_i ty y e
    unfold cI2 at q
    split at q
    ·rename_i f ct em
     obtain⟨y',h1,h2⟩:=CT q
     exact .invoke e em h1 h2
    ·exact q.elim
   ·exact q.elim
  |func f=>exact q.elim
  |bad=>exact q.elim
  |max=>exact finO rfl rfl q
  |min=>exact finO rfl rfl q
  |_=>exact fin rfl rfl q
 |bad=>exact q.elim
 |store size a x=>exact fin rfl rfl q
 |toBytes x=>exact fin rfl rfl q
 |mkSlice z l c=>exact fin rfl rfl q
 |mapUpdate q' m k x=>exact fin rfl rfl q
 |mapEntry q' z m k=>exact fin rfl rfl q
 |entryStore m s x=>exact fin rfl rfl q
 |range str x=>exact fin rfl rfl q
 |_=>exact finO rfl rfl q
theorem aCz{t:PT}{h:aL}{K:KH}{a:fC}(q:aCy T M X t h K a):W T M X (.step a t h) (V K):=by
 unfold aCy at q
 split at q
 ·rcases q with q|⟨h1,⟨l,len,ex,h2⟩,h3,h4,h5⟩
  ·exact O9 q
  ·exact .nilq h1 h2 h3 h4 h5
 ·exact O9 q
theorem GX{t:PT}{g:Option (bH×Bool)}{A:KH→Prop}{h:aL}{K:KH}(q:gK t g A h K):(wanted t g=true∧A K)∨(wanted t g=false∧xX t g=true∧K bS h):=by
 cases g with
 |none=>exact .inl ⟨rfl,q⟩
 |some pw=>
  obtain⟨p,want⟩:=pw
  have q:gV (t.get p) want A h K:=q
  show(isB want (t.get p)=true∧A K)∨(isB want (t.get p)=false∧okB (t.get p)=true∧K bS h)
  cases hv:t.get p with
  |bool b=>
   rw[hv]at q
   have q:(bif K8 b want then A K else K bS h):=q
   cases hb:K8 b want with
   |true=>rw[hb]at q;exact .inl ⟨hb,q⟩
   |false=>rw[hb]at q;exact .inr ⟨hb,rfl,q⟩
  |tuple l=>rw[hv]at q;exact .inr ⟨rfl,rfl,q⟩
  |_=>rw[hv]at q;exact q.elim
theorem UF:∀{l:List jB} {t:PT} {h:aL} {K:PT→aL→Prop},wpO T M X l t h K→W T M X (.ops l t h) (RQ fun r=>∃t h,r= .norm t h∧K t h)
 | [],t,h,K,q=> .nil ⟨t,h,rfl,q⟩
 |s::l,t,h,K,q=>by
  rcases GX q with⟨h1,h2⟩|⟨h1,h2,h3⟩
  ·exact .cons h1 (aCz h2) (fun v h' hv=>UF hv)
  ·exact .pass h1 h2 (UF h3)
theorem KA{a:aL→R AV}{v:AV}{B:Prop}:∀{m:Nat} {hs:List aL},rdS a v B m hs→B∧∀k,k<m→∃hk h1,hs[k]?=some hk∧a hk= .ok v h1
 |0,_,q=>⟨q,fun k hk=>absurd hk (by omega)⟩
 |m+1,[],q=>q.elim
 |m+1,h::hs,q=>by
  obtain⟨⟨h1,e⟩,q⟩:=q
  obtain⟨q1,q2⟩:=KA q
  refine⟨q1,fun k hk=> ?_⟩
  cases k with
  |zero=>exact⟨h,h1,rfl,e⟩
  |succ k=>exact q2 k (by omega)
theorem RS{a:fC}(hc:wX a= .plain){t:PT}{h:aL}{K:KH}(ha:lI a=false)(q:wpA T M X t h K a):∃v,(∀h',fZ T M t h' a= .ok v h')∧K v h:=by
 by_cases hb:∃op k x y,a= .bin op k x y
 ·obtain⟨op,k,x,y,rfl⟩:=hb
  obtain⟨v,e,kk⟩:=CT (show RO (aO op k (cH t x) (cH t y)) (fun v=>K v h)from q)
  exact⟨v,fun h'=>by show cF h' (aO op k (cH t x) (cH t y))=_;rw[e];rfl,kk⟩
 have q:=O9 q
 rcases C7 T M hc ha t with⟨v,e⟩|e
 ·refine⟨v,e,?_⟩
  cases q with
  |act h1 h2 h3=>rw[e]at h2;cases h2;exact h3
  |nilq=>exact absurd ⟨_,_,_,_,rfl⟩ hb
  |next h1 h2 h3 h4 h5=>cases hc
  |value=>cases hc
  |yield=>cases hc
  |invoke=>cases hc
 ·exfalso
  cases q with
  |act h1 h2 h3=>rw[e]at h2;cases h2
  |nilq=>exact absurd ⟨_,_,_,_,rfl⟩ hb
  |next h1 h2 h3 h4 h5=>cases hc
  |value=>cases hc
  |yield=>cases hc
  |invoke=>cases hc
theorem aCA{a:fC}(hc:wX a= .plain){b:Nat}{t:PT}{h:aL}{K:KH}(q:wpN T M X b t h K a):∃v h1,fZ T M t ⟨h.t,b⟩ a= .ok v h1∧K v ⟨h1.t,h.aA⟩:=by
 have fin:lI a=false→wpA T M X t h K a→∃v h1,fZ T M t ⟨h.t,b⟩ a= .ok v h1∧K v ⟨h1.t,h.aA⟩:=fun ha q=>by
  obtain⟨v,e,k⟩:=RS hc ha q
  exact⟨v,_,e _,k⟩
 cases a with
 |alloc z=>exact⟨.ptr b 0,nw ⟨h.t,b⟩ (.cells z),fJ ⟨h.t,b⟩ (.cells z) EY,q⟩
 |box x=>
  obtain⟨h1,h2⟩:=q
  refine⟨.ptr b 0,nw ⟨h.t,b⟩ (.cells (aK (cH t x))),?_,h2⟩
  show N9 ⟨h.t,b⟩ (aK (cH t x))=_
  unfold N9
  rw[h1]
  exact fJ ⟨h.t,b⟩ _ EY
 |bslice z len parts=>
  obtain⟨l,h1,h2,h3⟩:=ND q
  refine⟨.slice b 0 len len 0,nw ⟨h.t,b⟩ (.cells l),?_,h3⟩
  show wI ⟨h.t,b⟩ len (iR t z parts)=_
  rw[qB,h1]
  show(bif aZ l then eY ⟨h.t,b⟩ (.cells l) (sl1 len len)else .bad)=_
  rw[h2]
  exact fJ ⟨h.t,b⟩ _ (sl1 len len)
 |mkMap=>exact⟨.map b,nw ⟨h.t,b⟩ (.map [] 0),fJ ⟨h.t,b⟩ _ .map,q⟩
 |mkSlice z l c=>exact NE q
 |_=>exact fin rfl q
theorem CU{base:Nat}:∀{l:List rD} {hist:List aL} {t:PT} {h:aL} {K:PT→aL→Prop},wpD T M X base l hist t h K→W T M X (.draw base l hist t h) (RQ fun r=>∃t h,r= .norm t h∧K t h)
 | [],hist,t,h,K,q=> .dnil ⟨t,h,rfl,q⟩
 | .plain i s::l,hist,t,h,K,q=>by
  rcases GX q with⟨h1,h2⟩|⟨h1,h2,h3⟩
  ·cases hc:wX s.act<;>simp only[hc]at h2
   obtain⟨v,h',e,hk⟩:=aCA hc h2
   exact .dplain h1 e (CU hk)
  ·exact .dplainP h1 h2 (CU h3)
 | .read m s::l,hist,t,h,K,q=>by
  rcases GX q with⟨h1,h2⟩|⟨h1,h2,h3⟩
  ·cases hist with
   |nil=>exact h2.elim
   |cons h0 hs=>
    obtain⟨v,h',e,hr⟩:=NE h2
    obtain⟨hk,hr⟩:=KA hr
    refine .dread h1 (v:=v) (fun k hk'=> ?_) (CU hk)
    cases k with
    |zero=>exact⟨h0,h',rfl,e⟩
    |succ k=>obtain⟨hk2,h3,e1,e2⟩:=hr k (by omega);exact⟨hk2,h3,by simpa using e1,e2⟩
  ·exact .dreadP h1 h2 (CU h3)
 | .eff s::l,hist,t,h,K,q=>by
  rcases GX q with⟨h1,h2⟩|⟨h1,h2,h3⟩
  ·exact .deff h1 (O9 h2) (fun v h' hv=>CU hv)
  ·exact .deffP h1 h2 (CU h3)
def xK(t t':PT):Prop:=∀p,t'.get p=t.get p∨t'.get p= .other
def Wk:eK→eK→Prop
 | .norm t h,.norm t' h'=>xK t t'∧h'=h
 | .exit i t h,.exit j t' h'=>i=j∧xK t t'∧h'=h
 | .ret t h,.ret t' h'=>xK t t'∧h'=h
 | .fail,.fail=>True
 |_,_=>False
theorem xK.refl(t:PT):xK t t:=fun _=> .inl rfl
theorem xK.trans{t t' t'':PT}(h:xK t t')(h':xK t' t''):xK t t'':=fun p=>by
 rcases h' p with e|e
 ·rw[e];exact h p
 ·exact .inr e
theorem KB(vs:List AV)(t0:PT):∀(ps:List bH) (i:Nat) (p:bH),(∃j,ps[j]?=some p∧(NC i ps vs t0).get p=bD vs (i+j))∨(NC i ps vs t0).get p=t0.get p
 | [],i,p=> .inr rfl
 |q::ps,i,p=>by
  by_cases e:q=p
  ·subst e
   exact .inl ⟨0,rfl,PT.get_set_same _ _ _⟩
  ·have:(NC i (q::ps) vs t0).get p=(NC (i+1) ps vs t0).get p:=PT.get_set_other _ _ _ _ e
   rw[this]
   rcases KB vs t0 ps (i+1) p with⟨j,h1,h2⟩|h
   ·exact .inl ⟨j+1,by simpa using h1,by rw[h2];congr 1;omega⟩
   ·exact .inr h
theorem KC(t:PT):∀(ps:List bH) (j:Nat) (p:bH),ps[j]?=some p→bD (hZ t ps) j=t.get p
 | [],j,p,h=>by simp at h
 |q::ps,0,p,h=>by simp at h;subst h;rfl
 |q::ps,j+1,p,h=>KC t ps j p (by simpa using h)
theorem xK.pts(t:PT)(ps:List bH):xK t (pts ps (hZ t ps)):=fun p=>by
 rcases KB (hZ t ps) .oth ps 0 p with⟨j,h1,h2⟩|h
 ·left
  show(NC 0 ps (hZ t ps) .oth).get p=_
  rw[h2,Nat.zero_add,KC t ps j p h1]
 ·right;exact h
theorem FC{f:Nat→List AV→aL→Prop}:∀{l:List Nat} {i:Nat} {vs:List AV} {h:aL},bX (l.map fun i=>(i,f i)) i vs h→f i vs h
 | [],_,_,_,q=>q.elim
 |j::l,i,vs,h,q=>by
  have q:(bif Nat.beq i j then f j vs h else bX (l.map fun i=>(i,f i)) i vs h):=q
  cases hb:Nat.beq i j with
  |true=>rw[hb]at q;rw[beq_eq.1 hb];exact q
  |false=>rw[hb]at q;exact FC q
include hX in
theorem rB{A:Nat→List bH}:∀{c:CC} {cur:Nat} {t:PT} {h:aL} {Q:eK→Prop},J9 T M X A cur c t h Q→W T M X (.code c t h) (RQ fun r=>∃r',Wk r r'∧Q r')
 | .skip,_,t,h,Q,q=> .skip ⟨.norm t h,⟨xK.refl t,rfl⟩,q⟩
 | .ops l,_,t,h,Q,q=> .opsC (W.mono (UF q) hX (RQ.mono fun r ⟨t,h,e,k⟩=>⟨_,by subst e;exact⟨xK.refl t,rfl⟩,k⟩))
 | .draw n l,_,t,h,Q,q=> .drawC (W.mono (CU q) hX (RQ.mono fun r ⟨t,h,e,k⟩=>⟨_,by subst e;exact⟨xK.refl t,rfl⟩,k⟩))
 | .seq a b,cur,t,h,Q,q=> .seq (rB q) (fun t' h' ⟨r',hw,k⟩=>by
   cases r' with
   |norm t2 h2=>
    obtain⟨hw,rfl⟩:=hw
    have hb:=rB (c:=b) k
    exact .weaken hw hb
   |_=>exact hw.elim) (fun r ⟨r',hw,k⟩ hn=>by
   cases r with
   |norm t h=>exact absurd rfl (hn t h)
   |fail=>cases r' with
    |fail=>exact k.elim
    |_=>exact hw.elim
   |ret t h=>cases r' with
    |ret t2 h2=>exact⟨_,hw,k⟩
    |_=>exact hw.elim
   |exit i t h=>cases r' with
    |exit j t2 h2=>exact⟨_,hw,k⟩
    |_=>exact hw.elim)
 | .cond c x y,cur,t,h,Q,q=>by
   have q:cB (cH t c) (J9 T M X A cur x t h Q) (J9 T M X A cur y t h Q):=q
   cases hc:cH t c with
   |bool b=>
    rw[hc]at q
    cases b with
    |true=>exact .condT hc (rB q)
    |false=>exact .condF hc (rB q)
   |_=>rw[hc]at q;exact q.elim
 | .block i b,cur,t,h,Q,q=> .block (rB (c:=b) q) (fun r ⟨r',hw,k⟩=>by
   cases r with
   |norm t h=>cases r' with
    |norm t2 h2=>exact⟨_,hw,k⟩
    |_=>exact hw.elim
   |fail=>cases r' with
    |fail=>exact⟨.fail,trivial,k⟩
    |_=>exact hw.elim
   |ret t h=>cases r' with
    |ret t2 h2=>exact⟨_,hw,k⟩
    |_=>exact hw.elim
   |exit j t h=>cases r' with
    |exit j2 t2 h2=>
     obtain⟨rfl,hw,rfl⟩:=hw
     have e1:jM i (.exit j t h2)=bif Nat.beq j i then .norm t h2 else .exit j t h2:=rfl
     have e2:jM i (.exit j t2 h2)=bif Nat.beq j i then .norm t2 h2 else .exit j t2 h2:=rfl
     rw[e2]at k
     show∃r',Wk (jM i (.exit j t h2)) r'∧Q r'
     rw[e1]
     cases hb:Nat.beq j i with
     |true=>rw[hb]at k;exact⟨.norm t2 h2,⟨hw,rfl⟩,k⟩
     |false=>rw[hb]at k;exact⟨.exit j t2 h2,⟨rfl,hw,rfl⟩,k⟩
    |_=>exact hw.elim)
 | .loop b,cur,t,h,Q,q=>by
   have q:LP T M X (A cur) b (hZ t (A cur)) h ((uD b).map fun i=>(i,fun vs h=>Q (.exit i (pts (A cur) vs) h))) (fun vs h=>Q (.ret (pts (A cur) vs) h)):=q
   refine .weaken (xK.pts t (A cur)) (W.mono q hX (RQ.mono fun r hr=> ?_))
   cases r with
   |exit i t' h'=>exact⟨.exit i (pts (A cur) (hZ t' (A cur))) h',⟨rfl,xK.pts t' _,rfl⟩,FC (f:=fun i vs h=>Q (.exit i (pts (A cur) vs) h)) hr⟩
   |ret t' h'=>exact⟨.ret (pts (A cur) (hZ t' (A cur))) h',⟨xK.pts t' _,rfl⟩,hr⟩
   |_=>exact hr.elim
 | .range f ps asn body,cur,t,h,Q,q=>W.mono (show W T M X (.code (.range f ps asn body) t h) (RQ Q)from q) hX (RQ.mono fun r hr=>⟨r,by cases r with
   |norm t h=>exact⟨xK.refl t,rfl⟩
   |ret t h=>exact⟨xK.refl t,rfl⟩
   |exit i t h=>exact⟨rfl,xK.refl t,rfl⟩
   |fail=>exact trivial,hr⟩)
 | .exit i,_,t,h,Q,q=> .exit ⟨.exit i t h,⟨rfl,xK.refl t,rfl⟩,q⟩
 | .ret,_,t,h,Q,q=> .ret ⟨.ret t h,⟨xK.refl t,rfl⟩,q⟩
 | .bad,_,_,_,_,q=>q.elim
theorem pE{h:aL}{t t':PT}(hw:xK t t'):∀{l:List HD} {k:List AV→Prop},rsL h t' l k→∃vs,pK h t l=some vs∧k vs
 | [],k,q=>⟨[],rfl,q⟩
 | .tmp p::l,k,⟨q1,q2⟩=>by
  obtain⟨vs,e,hk⟩:=pE hw q2
  have hp:t'.get p=t.get p:=by
   rcases hw p with e|e
   ·exact e
   ·rw[e]at q1;cases q1
  refine⟨t.get p::vs,?_,by rw[←hp];exact hk⟩
  show(match LK h t (.tmp p)with|some v=>(match pK h t l with|some m=>some (v::m)|none=>none)|none=>none)=_
  rw[e]
  rfl
 | .cell p cut::l,k,q=>by
  obtain⟨v,e1,q2⟩:=CT q
  obtain⟨vs,e,hk⟩:=pE hw q2
  have hp:t'.get p=t.get p:=by
   rcases hw p with e|e
   ·exact e
   ·rw[e]at e1;cases e1
  refine⟨v::vs,?_,hk⟩
  show(match cE h cut (t.get p)with|some v=>(match pK h t l with|some m=>some (v::m)|none=>none)|none=>none)=_
  rw[←hp,e1,e]
 | .bad::_,_,q=>q.elim
include hX in
theorem aCB{f:Nat}{cf:cX}{A:Nat→List bH}{args:List AV}{h:aL}{K:KH}(hT:T.get f=some cf)(he:cf.ext=0)(hn:Nat.ble args.length cf.nt=true)
  (q:J9 T M X A 0 cf.code (pt args 0 .leaf) h (pD cf.res K)):F T M X f args h K:=by
 refine .fn hT he (ble_eq.1 hn) (rB hX q) (fun r ⟨r',hw,k⟩=> ?_)
 cases r with
 |norm t h=>cases r' with
  |norm t2 h2=>
   obtain⟨hw,rfl⟩:=hw
   obtain⟨vs,e,hk⟩:=pE hw k
   exact⟨_,_,by show cF h2 (zE (pK h2 t cf.res))=_;rw[e];rfl,hk⟩
  |_=>exact hw.elim
 |ret t h=>cases r' with
  |ret t2 h2=>
   obtain⟨hw,rfl⟩:=hw
   obtain⟨vs,e,hk⟩:=pE hw k
   exact⟨_,_,by show cF h2 (zE (pK h2 t cf.res))=_;rw[e];rfl,hk⟩
  |_=>exact hw.elim
 |exit i t h=>cases r' with
  |exit j t2 h2=>exact k.elim
  |_=>exact hw.elim
 |fail=>cases r' with
  |fail=>exact k.elim
  |_=>exact hw.elim
def hC(ps:List bH)(N:List AV→aL→Prop)(e:Ends)(rt:List AV→aL→Prop):eK→Prop
 | .norm t h=>N (hZ t ps) h
 | .exit i t h=>bX e i (hZ t ps) h
 | .ret t h=>rt (hZ t ps) h
 | .fail=>False
theorem FD{t t':PT}:∀{ps:List bH},(∀p,p∈ps→t'.get p=t.get p)→hZ t' ps=hZ t ps
 | [],_=>rfl
 |p::ps,h=>by
  show t'.get p::hZ t' ps=t.get p::hZ t ps
  rw[h p (by simp),FD (ps:=ps) (fun q hq=>h q (by simp[hq]))]
include hX in
theorem ZS{σ:Type}(enc:σ→List AV)(hp:σ→aL)(ok:σ→Prop)(m:σ→Nat){A:Nat→List bH}{cur:Nat}{ps:List bH}{b:CC}{e:Ends}{rt:List AV→aL→Prop}
  (hs:∀s,ok s→J9 T M X A cur b (pts ps (enc s)) (hp s) (hC ps (fun vs' h'=>(∀v,v∈vs'→aQ v=true)∧∃s',ok s'∧m s'<m s∧vs'=enc s'∧h'=hp s') (e.map fun x=>(x.1,fun vs' h'=>(∀v,v∈vs'→aQ v=true)∧x.2 vs' h')) (fun vs' h'=>(∀v,v∈vs'→aQ v=true)∧rt vs' h'))) (s0:σ) (h0:ok s0):LP T M X ps b (enc s0) (hp s0) e rt:=by
 have key:∀(k:Nat) (s:σ) (vs:List AV) (h:aL) (t:PT),ok s→m s<k→vs=enc s→h=hp s→(∀p,(pts ps vs).get p=t.get p∨(pts ps vs).get p= .other)→W T M X (.rounds k b t h) (RQ fun r=>match r with| .exit i t h=>bX e i (hZ t ps) h| .ret t h=>rt (hZ t ps) h|_=>False):=by
  intro k
  induction k with
  |zero=>intro s vs h t _ hk;omega
  |succ k ih=>
   intro s vs h t hI hk hvs hh hw
   subst hvs hh
   have seenG:∀{t t':PT},xK t t'→(∀v,v∈hZ t' ps→aQ v=true)→hZ t' ps=hZ t ps:=by
    intro t t' hw hv
    refine FD (fun p hp=> ?_)
    rcases hw p with e|e
    ·exact e
    ·have:t'.get p∈hZ t' ps:=by
      have f:∀(l:List bH),p∈l→t'.get p∈hZ t' l:=by
       intro l
       induction l with
       |nil=>intro h;simp at h
       |cons q l ih=>
        intro h
        rcases List.mem_cons.1 h with rfl|h
        ·exact List.mem_cons_self ..
        ·exact List.mem_cons_of_mem _ (ih h)
      exact f ps hp
     have:=hv _ this
     rw[e]at this
     cases this
   refine .rounds (.weaken hw (rB hX (hs s hI))) (fun t' h' ⟨r',hwr,q⟩=> ?_) (fun r ⟨r',hwr,q⟩ hn=> ?_)
   ·cases r' with
    |norm t2 h2=>
     obtain⟨hwt,rfl⟩:=hwr
     obtain⟨q1,s',q2,q3,q4,q5⟩:=q
     refine ih s' (hZ t2 ps) h2 t' q2 (by omega) q4 q5 (fun p=> ?_)
     rcases xK.pts t2 ps p with e|e
     ·rw[e];exact hwt p
     ·exact .inr e
    |_=>exact hwr.elim
   ·cases r with
    |norm t h=>exact absurd rfl (hn t h)
    |fail=>cases r' with
     |fail=>exact q.elim
     |_=>exact hwr.elim
    |ret t h=>cases r' with
     |ret t2 h2=>
      obtain⟨hwt,rfl⟩:=hwr
      obtain⟨q1,q2⟩:=q
      show rt (hZ t ps) h2
      rw[←seenG hwt q1]
      exact q2
     |_=>exact hwr.elim
    |exit i t h=>cases r' with
     |exit j t2 h2=>
      obtain⟨rfl,hwt,rfl⟩:=hwr
      have f:∀(e:Ends),bX (e.map fun x=>(x.1,fun vs' h'=>(∀v,v∈vs'→aQ v=true)∧x.2 vs' h')) i (hZ t2 ps) h2→bX e i (hZ t ps) h2:=by
       intro e
       induction e with
       |nil=>intro q;exact q.elim
       |cons x e ihe=>
        intro q
        obtain⟨j,kk⟩:=x
        have q:(bif Nat.beq i j then((∀v,v∈hZ t2 ps→aQ v=true)∧kk (hZ t2 ps) h2)else bX (e.map fun x=>(x.1,fun vs' h'=>(∀v,v∈vs'→aQ v=true)∧x.2 vs' h')) i (hZ t2 ps) h2):=q
        show(bif Nat.beq i j then kk (hZ t ps) h2 else bX e i (hZ t ps) h2)
        cases hb:Nat.beq i j with
        |true=>rw[hb]at q;obtain⟨q1,q2⟩:=q;rw[←seenG hwt q1];exact q2
        |false=>rw[hb]at q;exact ihe q
      exact f e q
     |_=>exact hwr.elim
 exact .loop (key (m s0+1) s0 _ _ _ h0 (Nat.lt_succ_self _) rfl rfl (fun _=> .inl rfl))
end
end
end
section
section
variable{T T':bE cX}{M:Nat→String→Option (Nat×Option fV)}{X:Nat→List AV→aL→(AV→aL→Prop)→Prop}
def aBW(Rp:eL→Prop)(T T':bE cX)(M:Nat→String→Option (Nat×Option fV))(X:Nat→List AV→aL→(AV→aL→Prop)→Prop):Prop:=
 ∀f,T'.get f=T.get f∨∃cf,T'.get f=some cf∧cf.ext=0∧∀prev args h v h',Rp prev→LL prev args h (some cf)= .ok v h'→W T M X (.fn f args h) (fun x=>x= .val v h')
variable{Rp:eL→Prop}(hK:aBW Rp T T' M X)
variable{prev:eL}(ht:PA T M X prev)(hp:Rp prev)
include hK ht hp
theorem t6{f:Nat}{args:List AV}{h h':aL}{v:AV}(e:gZ T' prev f args h= .ok v h'):W T M X (.fn f args h) (fun x=>x= .val v h'):=by
 rcases hK f with q|⟨cf,q1,q2,q3⟩
 ·have e:gZ T prev f args h= .ok v h':=by unfold gZ at e⊢;rw[←q];exact e
  exact vM ht e
 ·unfold gZ at e
  rw[q1]at e
  exact q3 prev args h v h' hp e
omit ht hp in
theorem Q2{f:Nat}{args:List AV}{h h':aL}{v:AV}(e:gZ T' iY f args h= .ok v h'):gZ T iY f args h= .ok v h':=by
 rcases hK f with q|⟨cf,q1,q2,q3⟩
 ·unfold gZ at e⊢;rw[←q];exact e
 ·unfold gZ at e
  rw[q1]at e
  simp only[LL,q2,bN,beq_eq,ble_eq,if_true]at e
  split at e
  ·cases e
  ·cases e
omit ht hp in
theorem I5{a:fC}{t:PT}{h h':aL}{v:AV}(e:fZ T' M t h a= .ok v h'):fZ T M t h a= .ok v h':=by
 by_cases hn:fA a=true
 ·cases a<;>first|exact e|skip
  rename_i c args
  cases c<;>first|exact e|(simp[fA]at hn)
 ·cases a with
  |call c args=>
   cases c with
   |value f=>
    have e:LM T' iY (fY t args) h (cH t f)= .ok v h':=e
    show LM T iY (fY t args) h (cH t f)= .ok v h'
    cases hx:cH t f with
    |func fn first captured=>
     rw[hx]at e
     cases fn with
     |func g=>exact Q2 hK e
     |yield l=>
      cases first with
      |cons _ _=>cases e
      |nil=>
       cases captured with
       |cons _ _=>cases e
       |nil=>exact e
     |_=>cases e
    |_=>rw[hx]at e;exact e
   |invoke r name=>
    have e:kP T' M iY name (fY t args) h (cH t r)= .ok v h':=e
    show kP T M iY name (fY t args) h (cH t r)= .ok v h'
    cases hx:cH t r with
    |iface ty y=>
     rw[hx]at e
     cases hm:M ty name with
     |none=>simp only[kP,hm,qP,reduceCtorEq]at e
     |some fc=>
      obtain⟨f,c⟩:=fc
      simp only[kP,hm,qP]at e⊢
      cases hrv:sM h y c with
      |none=>simp only[hrv,qO,reduceCtorEq]at e
      |some y'=>
       simp only[hrv,qO]at e⊢
       exact Q2 hK e
    |_=>rw[hx]at e;exact e
   |_=>simp[fA]at hn
  |_=>simp[fA]at hn
theorem Q3{a:fC}{t:PT}{h h':aL}{v:AV}(e:act T' M prev t h a= .ok v h'):W T M X (.step a t h) (fun x=>x= .val v h'):=by
 by_cases hn:fA a=true
 ·rw[KD hn prev iY]at e
  exact .act hn (I5 hK (show fZ T' M t h _=_ from e)) rfl
 ·cases a with
  |call c args=>
   cases c with
   |value f=>
    have e:LM T' prev (fY t args) h (cH t f)= .ok v h':=e
    cases hx:cH t f with
    |func fn first captured=>
     rw[hx]at e
     cases fn with
     |func g=>exact .value hx (t6 hK ht hp e)
     |yield l=>
      cases first with
      |cons _ _=>cases e
      |nil=>
       cases captured with
       |cons _ _=>cases e
       |nil=>exact .yield hx (PB ht e)
     |_=>cases e
    |_=>rw[hx]at e;cases e
   |invoke r name=>
    have e:kP T' M prev name (fY t args) h (cH t r)= .ok v h':=e
    cases hx:cH t r with
    |iface ty y=>
     rw[hx]at e
     cases hm:M ty name with
     |none=>simp only[kP,hm,qP,reduceCtorEq]at e
     |some fc=>
      obtain⟨f,c⟩:=fc
      simp only[kP,hm,qP]at e
      cases hrv:sM h y c with
      |none=>simp only[hrv,qO,reduceCtorEq]at e
      |some y'=>
       simp only[hrv,qO]at e
       exact .invoke hx hm hrv (t6 hK ht hp e)
    |_=>rw[hx]at e;cases e
   |_=>simp[fA]at hn
  |_=>simp[fA]at hn
theorem vA:∀(l:List jB) (t:PT) (h:aL) (res:eK),uT T' M prev l t h=res→res≠ .fail→W T M X (.ops l t h) (fun x=>x= .res res)
 | [],t,h,res,e,_=>by
  have e:eK.norm t h=res:=e
  subst e
  exact .nil rfl
 |s::l,t,h,res,e,hx=>by
  have e:(if wanted t s.guard=true then(match act T' M prev t h s.act with| .ok v h=>uT T' M prev l (put t v s.dst) h| .bad=> .fail)else if xX t s.guard=true then uT T' M prev l (put t bS s.dst) h else .fail)=res:=by
   rw[←e]
   show _=Bool.rec (motive:=fun _=>eK) _ _ _
   rw[EW]
   split
   ·cases act T' M prev t h s.act<;>rfl
   ·rw[EW];rfl
  split at e
  ·rename_i hw
   cases ha:act T' M prev t h s.act with
   |bad=>rw[ha]at e;exact absurd e.symm hx
   |ok v h1=>
    rw[ha]at e
    exact .cons hw (Q3 hK ht hp ha) (fun v' h' hv=>by
     simp only[vN.val.injEq]at hv
     obtain⟨rfl,rfl⟩:=hv
     exact vA l _ _ res e hx)
  ·rename_i hw
   split at e
   ·rename_i hu;exact .pass (by simpa using hw) hu (vA l _ _ res e hx)
   ·exact absurd e.symm hx
omit hK ht hp in
theorem wW{t:PT}{a:fC}{v:AV}:∀(m:Nat) (hs:List aL),yY T' M t a v m hs=true→∀k,k<m→∃hk u h1,hs[k]?=some hk∧fZ T' M t hk a= .ok u h1∧PV v u=true
 |0,_,_,k,hk=>absurd hk (by omega)
 |m+1,[],e,k,hk=>by cases e
 |m+1,h::hs,e,k,hk=>by
  simp only[yY]at e
  cases ha:fZ T' M t h a with
  |bad=>rw[ha]at e;cases e
  |ok u h1=>
   rw[ha]at e
   simp only[bN]at e
   split at e
   ·rename_i hs'
    cases k with
    |zero=>exact⟨h,u,h1,rfl,ha,hs'⟩
    |succ k=>exact wW m hs e k (by omega)
   ·cases e
theorem nZ{base:Nat}:∀(l:List rD) (hist:List aL) (t:PT) (h:aL) (res:eK),lF T' M prev base l hist t h=res→res≠ .fail→W T M X (.draw base l hist t h) (fun x=>x= .res res)
 | [],hist,t,h,res,e,_=>by
  have e:eK.norm t h=res:=e
  subst e
  exact .dnil rfl
 | .plain i s::l,hist,t,h,res,e,hx=>by
  have e:(if wanted t s.guard=true then LO s hist t h.aA (lF T' M prev base l) (qQ T' M t s.act (base+i) h)else if xX t s.guard=true then lF T' M prev base l hist (put t bS s.dst) h else .fail)=res:=by
   rw[←e];simp only[lF,bN]
  split at e
  ·rename_i hw
   obtain⟨ht',hn'⟩:=h
   cases ha:fZ T' M t ⟨ht',base+i⟩ s.act with
   |bad=>simp only[qQ,ha,LO]at e;exact absurd e.symm hx
   |ok v h1=>
    simp only[qQ,ha]at e
    obtain⟨t1,n1⟩:=h1
    exact .dplain hw (I5 hK ha) (nZ l _ _ _ res e hx)
  ·rename_i hw
   split at e
   ·rename_i hu;exact .dplainP (by simpa using hw) hu (nZ l _ _ _ res e hx)
   ·exact absurd e.symm hx
 | .read m s::l,hist,t,h,res,e,hx=>by
  have e:(if wanted t s.guard=true then wJ T' M m s hist t h (lF T' M prev base l) (uU T' M t s.act hist)else if xX t s.guard=true then lF T' M prev base l hist (put t bS s.dst) h else .fail)=res:=by
   rw[←e];simp only[lF,bN]
  split at e
  ·rename_i hw
   cases hist with
   |nil=>simp only[uU,wJ]at e;exact absurd e.symm hx
   |cons h0 hist=>
    simp only[uU]at e
    cases ha:fZ T' M t h0 s.act with
    |bad=>simp only[ha,wJ]at e;exact absurd e.symm hx
    |ok v h1=>
     simp only[ha,wJ,bN]at e
     split at e
     case isFalse=>exact absurd e.symm hx
     rename_i hr
     have hr:yY T' M t s.act v m hist=true:=hr
     refine .dread hw (v:=v) (fun k hk=> ?_) (nZ l _ _ _ res e hx)
     cases k with
     |zero=>exact⟨h0,h1,rfl,I5 hK ha⟩
     |succ k=>
      obtain⟨hk',u,h2,e1,e2,e3⟩:=wW m hist hr k (by omega)
      exact⟨hk',h2,by simpa using e1,I5 hK (by rw[e2,KF e3])⟩
  ·rename_i hw
   split at e
   ·rename_i hu;exact .dreadP (by simpa using hw) hu (nZ l _ _ _ res e hx)
   ·exact absurd e.symm hx
 | .eff s::l,hist,t,h,res,e,hx=>by
  have e:(if wanted t s.guard=true then VS s hist t (lF T' M prev base l) (act T' M prev t h s.act)else if xX t s.guard=true then lF T' M prev base l (h::hist) (put t bS s.dst) h else .fail)=res:=by
   rw[←e];simp only[lF,bN]
  split at e
  ·rename_i hw
   cases ha:act T' M prev t h s.act with
   |bad=>rw[ha]at e;exact absurd e.symm hx
   |ok v h1=>
    rw[ha]at e
    exact .deff hw (Q3 hK ht hp ha) (fun v' h' hv=>by
     simp only[vN.val.injEq]at hv
     obtain⟨rfl,rfl⟩:=hv
     exact nZ l _ _ _ res e hx)
  ·rename_i hw
   split at e
   ·rename_i hu;exact .deffP (by simpa using hw) hu (nZ l _ _ _ res e hx)
   ·exact absurd e.symm hx
theorem TD{f:CO}{ps:List bH}{asn body:CC}{t:PT}{h:aL}{res:eK}(e:OB T' prev f ps asn body t h=res)(hx:res≠ .fail):W T M X (.code (.range f ps asn body) t h) (fun x=>x= .res res):=by
 obtain⟨ht',n⟩:=h
 have e:uV n t (DW T' prev [.func (.yield n) [] []] (xT ⟨ht',n⟩ (.loop {state:= .ready,pending:=none,tmps:=t,params:=ps,assign:=asn,body:=body})) (cH t f))=res:=e
 cases hX:cH t f with
 |func fn first captured=>
  rw[hX]at e
  cases fn with
  |func g=>
   cases hc:gZ T' prev g (first++([.func (.yield n) [] []]++captured)) (xT ⟨ht',n⟩ (.loop {state:= .ready,pending:=none,tmps:=t,params:=ps,assign:=asn,body:=body}))with
   |bad=>simp only[DW,hc,uV]at e;exact absurd e.symm hx
   |ok v h2=>
    simp only[DW,hc,uV]at e
    exact .range hX (t6 hK ht hp hc) (fun v' h2' hv=>by
     simp only[vN.val.injEq]at hv
     obtain⟨rfl,rfl⟩:=hv
     exact⟨res,e,hx,rfl⟩)
  |_=>exact absurd e.symm hx
 |_=>rw[hX]at e;exact absurd e.symm hx
theorem jF{k:Nat}(hr:∀b t h res,prev (.loop b) t h=res→res≠ .fail→W T M X (.rounds k b t h) (fun x=>x= .res res)):∀(c:CC) (t:PT) (h:aL) (res:eK),run T' M prev c t h=res→res≠ .fail→
  W T M X (.code c t h) (fun x=>x= .res res)∧∀b,c= .loop b→W T M X (.rounds (k+1) b t h) (fun x=>x= .res res)
 | .skip,t,h,res,e,_=>⟨.skip (congrArg _ e),fun _ e=>by cases e⟩
 | .ops l,t,h,res,e,hx=>⟨.opsC (vA hK ht hp l t h res e hx),fun _ e=>by cases e⟩
 | .draw n l,t,h,res,e,hx=>⟨.drawC (nZ hK ht hp l _ _ _ res (by cases h;exact e) hx),fun _ e=>by cases e⟩
 | .seq a b,t,h,res,e,hx=>⟨by
   have e:FX (run T' M prev b) (run T' M prev a t h)=res:=e
   cases h1:run T' M prev a t h with
   |fail=>rw[h1]at e;exact absurd e.symm hx
   |norm t1 h1'=>
    rw[h1]at e
    exact .seq (jF hr a t h _ h1 (by simp)).1 (fun t' h' hv=>by
     simp only[vN.res.injEq,eK.norm.injEq]at hv
     obtain⟨rfl,rfl⟩:=hv
     exact(jF hr b _ _ res e hx).1) (fun r hr' hn=>by
     simp only[vN.res.injEq]at hr'
     subst hr'
     exact absurd rfl (hn _ _))
   |ret t1 h1'=>
    rw[h1]at e
    have e:eK.ret t1 h1'=res:=e
    subst e
    exact .seq (jF hr a t h _ h1 (by simp)).1 (fun t' h' hv=>by simp at hv) (fun r hr' hn=>hr')
   |exit i t1 h1'=>
    rw[h1]at e
    have e:eK.exit i t1 h1'=res:=e
    subst e
    exact .seq (jF hr a t h _ h1 (by simp)).1 (fun t' h' hv=>by simp at hv) (fun r hr' hn=>hr'),fun _ e=>by cases e⟩
 | .cond c x y,t,h,res,e,hx=>⟨by
   have e:VT (run T' M prev x) (run T' M prev y) t h (cH t c)=res:=e
   cases hc:cH t c with
   |bool b=>
    rw[hc]at e
    cases b with
    |true=>exact .condT hc (jF hr x t h res e hx).1
    |false=>exact .condF hc (jF hr y t h res e hx).1
   |_=>rw[hc]at e;exact absurd e.symm hx,fun _ e=>by cases e⟩
 | .block id b,t,h,res,e,hx=>⟨by
   have e:jM id (run T' M prev b t h)=res:=e
   have hn:run T' M prev b t h≠ .fail:=by intro hh;rw[hh]at e;exact hx e.symm
   exact .block (jF hr b t h _ rfl hn).1 (fun r hr'=>by
    simp only[vN.res.injEq]at hr'
    rw[hr',e]),fun _ e=>by cases e⟩
 | .loop b,t,h,res,e,hx=>by
   have e:FX (prev (.loop b)) (run T' M prev b t h)=res:=e
   have key:W T M X (.rounds (k+1) b t h) (fun x=>x= .res res):=by
    cases h1:run T' M prev b t h with
    |fail=>rw[h1]at e;exact absurd e.symm hx
    |norm t1 h1'=>
     rw[h1]at e
     exact .rounds (jF hr b t h _ h1 (by simp)).1 (fun t' h' hv=>by
      simp only[vN.res.injEq,eK.norm.injEq]at hv
      obtain⟨rfl,rfl⟩:=hv
      exact hr b _ _ res e hx) (fun r hr' hn=>by
      simp only[vN.res.injEq]at hr'
      subst hr'
      exact absurd rfl (hn _ _))
    |ret t1 h1'=>
     rw[h1]at e
     have e:eK.ret t1 h1'=res:=e
     subst e
     exact .rounds (jF hr b t h _ h1 (by simp)).1 (fun t' h' hv=>by simp at hv) (fun r hr' hn=>hr')
    |exit i t1 h1'=>
     rw[h1]at e
     have e:eK.exit i t1 h1'=res:=e
     subst e
     exact .rounds (jF hr b t h _ h1 (by simp)).1 (fun t' h' hv=>by simp at hv) (fun r hr' hn=>hr')
   exact⟨.loop key,fun b' e=>by cases e;exact key⟩
 | .range f ps a b,t,h,res,e,hx=>⟨TD hK ht hp e hx,fun _ e=>by cases e⟩
 | .exit i,t,h,res,e,_=>⟨.exit (congrArg _ e),fun _ e=>by cases e⟩
 | .ret,t,h,res,e,_=>⟨.ret (congrArg _ e),fun _ e=>by cases e⟩
 | .bad,t,h,res,e,hx=>absurd (show eK.fail=res from e).symm hx
omit ht hp in
theorem YU(hR:∀k,Rp (ev T' M k)):∀(k:Nat),PA T M X (ev T' M k)∧∀b t h res,ev T' M k (.loop b) t h=res→res≠ .fail→W T M X (.rounds k b t h) (fun x=>x= .res res)
 |0=>⟨fun c t h res e hx=>absurd (show eK.fail=res from e).symm hx,fun b t h res e hx=>absurd (show eK.fail=res from e).symm hx⟩
 |k+1=>by
  obtain⟨i1,i2⟩:=YU hR k
  exact⟨fun c t h res e hx=>(jF hK i1 (hR k) i2 c t h res e hx).1,fun b t h res e hx=>(jF hK i1 (hR k) i2 (.loop b) t h res e hx).2 b rfl⟩
omit ht hp in
theorem TE(hR:∀k,Rp (ev T' M k)){k f:Nat}{args:List AV}{h h':aL}{v:AV}(e:gZ T' (ev T' M k) f args h= .ok v h'):W T M X (.fn f args h) (fun x=>x= .val v h'):=t6 hK (YU hK hR k).1 (hR k) e
end
end
section
open Go.Proofs
noncomputable section
theorem bE.get_ofListFrom{α:Type}:∀(l:List α) (n:Nat) (t:bE α) (i:Nat),(bE.ofListFrom l n t).get i=if n≤i∧i<n+l.length then l[i-n]? else t.get i
 | [],n,t,i=>by
  rw[if_neg (by simp)]
  rfl
 |x::l,n,t,i=>by
  show(bE.ofListFrom l (n+1) (fS t n (some x))).get i=_
  rw[bE.get_ofListFrom l (n+1) _ i,bE.get_tset]
  by_cases h:n+1≤i∧i<n+1+l.length
  ·rw[if_pos h,if_pos (by simp;omega),show i-n=(i-(n+1))+1 by omega]
   simp
  ·rw[if_neg h]
   by_cases e:i=n
   ·subst e
    rw[if_pos rfl,if_pos (by simp),Nat.sub_self]
    rfl
   ·rw[if_neg e,if_neg (by simp;omega)]
theorem bE.get_ofList{α:Type}(l:List α)(i:Nat):(bE.ofList l).get i=l[i]?:=by
 show(bE.ofListFrom l 0 .leaf).get i=_
 rw[bE.get_ofListFrom]
 by_cases h:i<l.length
 ·rw[if_pos (by omega)];rfl
 ·rw[if_neg (by omega),List.getElem?_eq_none (by omega)]
  rfl
def E0:bE TypeInfo:=bE.ofList Tryz.prog.types.toList
def E:bE TypeInfo:=fS (fS E0 13 none) 14 none
def T:bE cX:=bE.ofList (Tryz.prog.funcs.toList.map (bL E))
def aCx:Option fV→fV→Bool
 |some (.one a),.one b=>Nat.beq a b
 |some (.many a c),.many b d=>Nat.beq a b&&Nat.beq c d
 |_,_=>false
def aBb(t:Nat)(g:Nat)(b:Bool)(f:Nat)(c:Option fV):Bool:=Nat.beq g f&&match c with
 |none=>(match mV E t with|some (.pointer _)=>b|some _=> !b|none=>false)
 |some cut=> !b&&(match mV E t with|some (.pointer el)=>aCx (kQ E el 0) cut|_=>false)
def O8(e:Nat×String×Nat×Option fV):Bool:=match E.get e.1 with
 |some i=>(match i.methods.find? (fun m=>m.name==e.2.1)with
  |some m=>m.path.isEmpty&&(match m.func with
   |some (g,b)=>aBb e.1 g b e.2.2.1 e.2.2.2
   |none=>false)
  |none=>false)
 |none=>false
def ms:List (Nat×String×Nat×Option fV):=((idx Tryz.prog.types.toList).flatMap fun x=>SX E x.2 x.1).filter O8
def M(t:Nat)(name:String):Option (Nat×Option fV):=wL name ms t
def X(f:Nat)(args:List AV)(h:aL)(Q:KH):Prop:=gW Tryz.prog E f args h Q
theorem X.mono:∀f args h (Q Q':KH),X f args h Q→(∀v h',Q v h'→Q' v h')→X f args h Q':=by
 intro f args h Q Q' q m r n ρ w vs s hg hv
 rcases q r n ρ w vs s hg hv with⟨h1,h2⟩|⟨v,v',h',ρ',h1,h2,h3⟩
 ·refine .inl ⟨h1,CallsIn.mono h2 ?_⟩
  intro e w' he
  cases e with
  |returned v'=>obtain⟨v,h',hq,x⟩:=he;exact⟨v,h',m _ _ hq,x⟩
  |panicked c=>exact he.elim
  |outgrown=>exact he.elim
 ·exact .inr ⟨v,v',h',ρ',h1,m _ _ h2,h3⟩
abbrev iv(n:Int):AV:= .int .i64 n
abbrev fn(n:Nat):AV:= .func (.func n) [] []
abbrev C(f:Nat)(args:List AV)(h:aL)(K:KH):Prop:=F T M X f args h K
abbrev CV(v:AV)(args:List AV)(h:aL)(K:KH):Prop:=cV T M X v args h K
abbrev CI(v:AV)(name:String)(args:List AV)(h:aL)(K:KH):Prop:=cI T M X v name args h K
abbrev UE(str:Bool)(v:AV)(h:aL)(K:KH):Prop:=NX T M X str v h K
abbrev gL(ps:List bH)(b:CC)(vs:List AV)(h:aL)(e:Ends)(rt:List AV→aL→Prop):Prop:=LP T M X ps b vs h e rt
abbrev WC(A:Nat→List bH)(cur:Nat)(c:CC)(t:PT)(h:aL)(Q:eK→Prop):Prop:=J9 T M X A cur c t h Q
def cT(_:Nat):List bH:= []
theorem aGM{f:Nat}{fn:Func}(hf:Tryz.prog.funcs[f]?=some fn):T.get f=some (bL E fn):=by
 unfold T
 rw[bE.get_ofList,List.getElem?_map]
 have:Tryz.prog.funcs.toList[f]?=some fn:=by simpa using hf
 rw[this]
 rfl
theorem ent{f:Nat}{fn:Func}(hf:Tryz.prog.funcs[f]?=some fn){A:Nat→List bH}{args:List AV}{h:aL}{K:KH}(he:(bL E fn).ext=0)(hn:Nat.ble args.length (bL E fn).nt=true)
  (q:WC A 0 (bL E fn).code (pt args 0 .leaf) h (pD (bL E fn).res K)):C f args h K:=aCB X.mono (aGM hf) he hn q
def nc(h:aL)(a:AV):aL:=nw h (.cells (aK a))
@[go_sem]theorem aRO(h:aL)(a:AV):nc h a=nw h (.cells (aK a)):=rfl
def Qr(v:AV)(w:Bool)(x:Option AV)(h:aL)(K:KH):Prop:=gV v w (fun k=>RO x fun y=>k y h) h K
def Qp(v:AV)(w:Bool)(x:R AV)(h:aL)(K:KH):Prop:=gV v w (fun k=>RP x k) h K
end
end
section
open Go.Proofs
noncomputable section
theorem OD:∀t i,E.get t=some i→Tryz.prog.info? t=some i:=by
 intro t i h
 unfold E at h
 rw[bE.get_tset,bE.get_tset]at h
 split at h
 ·cases h
 ·split at h
  ·cases h
  ·unfold E0 at h
   rw[bE.get_ofList]at h
   have h:Tryz.prog.types[t]?=some i:=by simpa using h
   unfold Tables.info?
   rw[if_pos (Array.getElem?_eq_some_iff.1 h).1]
   exact h
def V6(t:Nat):Bool:=match FY E t with| .flat _=> !(Tryz.prog.stoodInHeld t)&& !(Tryz.prog.eqGuardType Tryz.prog.depth t)|_=>true
theorem aHm:(List.range Tryz.prog.types.size).all V6=true:=by kernel_rfl
theorem aL9:∀t ks,FY E t= .flat ks→Tryz.prog.stoodInHeld t=false∧Tryz.prog.eqGuardType Tryz.prog.depth t=false:=by
 intro t ks h
 by_cases ht:t<Tryz.prog.types.size
 ·have:=List.all_eq_true.1 aHm t (List.mem_range.2 ht)
  unfold V6 at this
  rw[h]at this
  simpa using this
 ·exfalso
  have:E.get t=none:=by
   unfold E
   rw[bE.get_tset,bE.get_tset]
   split
   ·rfl
   ·split
    ·rfl
    ·unfold E0
     rw[bE.get_ofList]
     simp at ht⊢
     exact ht
  unfold FY mV at h
  simp[this]at h
theorem mixed:Tryz.prog.follows .mixedOrders=true:=by kernel_rfl
theorem aMa:∀f cf,T.get f=some cf→∃fn,Tryz.prog.funcs[f]?=some fn∧cf=bL E fn:=by
 intro f cf h
 unfold T at h
 rw[bE.get_ofList,List.getElem?_map]at h
 cases e:Tryz.prog.funcs.toList[f]? with
 |none=>rw[e]at h;cases h
 |some fn=>rw[e]at h;cases h;exact⟨fn,by simpa using e,rfl⟩
theorem aAz{x:Option fV}{c:fV}(h:aCx x c=true):x=some c:=by
 cases x with
 |none=>cases h
 |some a=>cases a<;>cases c<;>simp only[aCx,aI,beq_eq,Bool.false_eq_true]at h<;>first|(rw[h])|(rw[h.1,h.2])
theorem wM{name:String}{t f:Nat}{c:Option fV}:∀{l:List (Nat×String×Nat×Option fV)},wL name l t=some (f,c)→(t,name,f,c)∈l
 | [],h=>by cases h
 |(u,m,g,d)::l,h=>by
  simp only[wL]at h
  cases hb:(Nat.beq u t&&(m==name))with
  |true=>
   rw[hb]at h
   cases h
   simp only[aI,beq_eq,beq_iff_eq]at hb
   obtain⟨rfl,rfl⟩:=hb
   exact List.mem_cons_self ..
  |false=>rw[hb]at h;exact List.mem_cons_of_mem _ (wM h)
theorem aAA(xt t:TypeId)(a:Addr)(s n:String)(P:Program)(w:World):(Builtin.ssaWrapNilChk_ #[xt] t #[.pointer (some a),strVal s,strVal n]).run P w= .ok (.pointer (some a)) w:=rfl
theorem aMb:NK Tryz.prog E M:=by
 intro t name f c hm ρ h w x x' u hs hg hr hx
 have he:=(List.mem_filter.1 (wM hm)).2
 unfold O8 at he
 cases hi:E.get t with
 |none=>simp only[hi,Bool.false_eq_true]at he
 |some i=>
  simp only[hi]at he
  cases hf:i.methods.find? (fun m=>m.name==name)with
  |none=>simp only[hf,Bool.false_eq_true]at he
  |some m=>
   simp only[hf,aI]at he
   obtain⟨hp,he⟩:=he
   cases hfn:m.func with
   |none=>simp only[hfn,Bool.false_eq_true]at he
   |some gb=>
    obtain⟨g,b⟩:=gb
    simp only[hfn]at he
    unfold aBb at he
    rw[aI]at he
    obtain⟨hgf,he⟩:=he
    have hgf:=beq_eq.1 hgf
    subst hgf
    have hi':=OD t i hi
    have hpath:m.path= #[]:=by simpa using hp
    obtain⟨n,hn⟩:∃n,Tryz.prog.types.size+Made.depth=n+1:=⟨Tryz.prog.types.size+99,rfl⟩
    rw[hn]
    have core:∀y,(∀wn,(receiverAt t (.val u) b (some wn)).run Tryz.prog w= .ok y w)→(method (n+1) t u name).run Tryz.prog w= .ok (g,y) w:=by
     intro y hy
     unfold method
     simp[typeInfo,hi',hf,hpath,follow,hfn,hy]
    cases c with
    |none=>
     have hxx:x=x':=by simpa[sM]using hr
     subst hxx
     refine⟨u,core u (fun wn=> ?_),hx⟩
     cases hu:mV E t with
     |none=>simp only[hu,Bool.false_eq_true]at he
     |some d=>
      have hu':=cL OD hu
      simp only[hu]at he
      unfold receiverAt
      cases d<;>simp only[Bool.not_eq_true']at he<;>subst he<;>simp[run_underlying hu',Place.get]
    |some cut=>
     simp only[aI,Bool.not_eq_true']at he
     obtain⟨rfl,he⟩:=he
     cases hu:mV E t with
     |none=>simp only[hu,Bool.false_eq_true]at he
     |some d=>
      have hu':=cL OD hu
      rw[hu]at he
      cases d with
      |pointer el=>
       have hc:=aAz he
       have hr:aJ h cut x=some x':=hr
       have fin:∀k off,u= .pointer (some ⟨k,off,none⟩)→∀y,(loadVar el ⟨k,off,none⟩).run Tryz.prog w= .ok y w→RV ρ w x' y→∃u',(method (n+1) t u name).run Tryz.prog w= .ok (g,u') w∧RV ρ w x' u':=by
        intro k off hk y hy hv
        refine⟨y,core y (fun wn=> ?_),hv⟩
        unfold receiverAt
        simp[run_underlying hu',Place.get,hk,aAA,asAddr,hy]
       cases x with
       |ptr b off=>
        obtain⟨m2,hm2,hp2⟩:=hx
        obtain⟨l,hb,he2⟩:=xR hr
        obtain⟨m',hm',hor⟩:=hs.obj b _ hb
        rw[hm2]at hm'
        cases hm'
        obtain⟨y,u1,u2⟩:=tQ (P:=Tryz.prog) OD hc hor.2.2 he2
        exact fin _ _ hp2 y u1 u2
       |rptr l=>
        obtain⟨k,off,hp2,_,hl⟩:=hx
        obtain⟨y,u1,u2⟩:=tQ (P:=Tryz.prog) (off:=0) OD hc hl hr
        exact fin _ _ hp2 y u1 u2
       |gptr g2 off=>
        simp only[aJ]at hr
        cases cut with
        |many a b=>simp[LJ]at hr
        |one a=>
         unfold kQ at hc
         cases hu2:mV E el with
         |none=>simp[hu2]at hc
         |some d=>
          cases hs2:sizeOf E el with
          |none=>simp[hu2,hs2]at hc
          |some n2=>
           simp only[hu2,hs2,Option.bind_some,Option.map_some,aF,bN]at hc
           cases hd:sP d with
           |true=>simp[hd]at hc
           |false=>
            simp only[hd,Bool.false_eq_true,if_false,fV.one.injEq]at hc
            subst hc
            simp only[LJ,bN]at hr
            split at hr
            ·rename_i hh
             simp only[aI,beq_eq,blt_eq]at hh
             cases hr
             obtain⟨rfl,hlt⟩:=hh
             obtain⟨n3,n1,n2⟩:=hg.2 off hlt
             rw[tP]at hd
             exact fin _ _ hx _ (l9 (cL OD hu2) hd n2) (by rw[n1];exact rfl)
            ·cases hr
       |_=>cases hr
      |_=>simp only[Bool.false_eq_true]at he
end
end
section
open Go.Proofs
noncomputable section
theorem bF(h:aL)(o:AO)(b:Nat):aP (nw h o) b=if b=h.aA then some o else aP h b:=bE.get_tset _ _ _ _
theorem aX(h:aL)(c:Nat)(o:AO)(b:Nat):aP (bI h c o) b=if b=c then some o else aP h b:=by cases h;exact bE.get_tset _ _ _ _
theorem gH(h:aL)(c:Nat)(o:AO)(b:Nat):aP (nwAt h c o) b=if b=c then some o else aP h b:=bE.get_tset _ _ _ _
theorem i7(h:aL)(c b:Nat):aP (jK h c) b=if b=c then none else aP h b:=by cases h;exact bE.get_tset _ _ _ _
theorem cM(h:aL)(n b:Nat):aP (up h n) b=aP h b:=rfl
@[go_sem]theorem bQ(h:aL)(o:AO):aP (nw h o) h.aA=some o:=by rw[bF,if_pos rfl]
@[go_sem]theorem aCl{h:aL}{o:AO}{b:Nat}(hb:b=h.aA):aP (nw h o) b=some o:=by rw[bF,if_pos hb]
@[go_sem]theorem J7{h:aL}{o:AO}{b:Nat}(hb:b≠h.aA):aP (nw h o) b=aP h b:=by rw[bF,if_neg hb]
@[go_sem]theorem aU(h:aL)(b:Nat)(o:AO):aP (bI h b o) b=some o:=by rw[aX,if_pos rfl]
@[go_sem]theorem UB{h:aL}{c b:Nat}{o:AO}(hb:b≠c):aP (bI h c o) b=aP h b:=by rw[aX,if_neg hb]
@[go_sem]theorem aGj(h:aL)(n b:Nat):aP (up h n) b=aP h b:=rfl
@[go_sem]theorem nB(h:aL)(c:Nat)(o:AO):aP (nwAt h c o) c=some o:=by rw[gH,if_pos rfl]
@[go_sem]theorem TF{h:aL}{c b:Nat}{o:AO}(hb:b≠c):aP (nwAt h c o) b=aP h b:=by rw[gH,if_neg hb]
@[go_sem]theorem UC{h:aL}{c b:Nat}(hb:b≠c):aP (jK h c) b=aP h b:=by rw[i7,if_neg hb]
@[go_sem]theorem aT(h:aL)(o:AO):(nw h o).aA=h.aA+1:=by cases h;rfl
@[go_sem]theorem bC(h:aL)(b:Nat)(o:AO):(bI h b o).aA=h.aA:=by cases h;rfl
@[go_sem]theorem FA(h:aL)(b:Nat)(o:AO):(nwAt h b o).aA=h.aA:=by cases h;rfl
@[go_sem]theorem cW(h:aL)(n:Nat):(up h n).aA=h.aA+n:=by cases h;rfl
@[go_sem]theorem jZ(h:aL)(b:Nat):(jK h b).aA=h.aA:=by cases h;rfl
@[go_sem]theorem aLU(n k:Nat):(n≠n+(k+1))=True:=by simp
@[go_sem]theorem aLV(n k:Nat):(n+(k+1)≠n)=True:=by simp
@[go_sem]theorem aJE(n k m:Nat):(n+k≠n+m)=(k≠m):=by simp
@[go_sem]theorem aJF(n k m:Nat):(n+k+m≠n)=(k+m≠0):=by simp;omega
@[go_sem]theorem aCm(v:AV)(K:AV→Prop):RO (some v) K=K v:=rfl
@[go_sem]theorem aTk(l:List AV)(K:List AV→Prop):RL (some l) K=K l:=rfl
@[go_sem]theorem aGk(v:AV)(h:aL)(K:KH):RP (.ok v h) K=K v h:=rfl
@[go_sem]theorem aTl(want:Bool)(A:KH→Prop)(h:aL)(K:KH):gV bS want A h K=K bS h:=rfl
@[go_sem]theorem aGl(k:IntKind)(n:Int):aQ (.int k n)=true:=rfl
@[go_sem]theorem aFb(b:Bool):aQ (.bool b)=true:=rfl
@[go_sem]theorem aGm(s:List Nat):aQ (.str s)=true:=rfl
@[go_sem]theorem aFc:aQ .aB=true:=rfl
@[go_sem]theorem aCn(a b c d e:Nat):aQ (.slice a b c d e)=true:=rfl
@[go_sem]theorem aA4(l:List AV)(a b:Nat)(c:Bool):aQ (.rslice l a b c)=true:=rfl
@[go_sem]theorem aGn(l:List AV):aQ (.agg l)=true:=rfl
@[go_sem]theorem aGo(a b:Nat):aQ (.ptr a b)=true:=rfl
@[go_sem]theorem aGp(a:Nat):aQ (.map a)=true:=rfl
@[go_sem]theorem aFd(f:Fn)(a b:List AV):aQ (.func f a b)=true:=rfl
@[go_sem]theorem aCo(l:List AV):aQ (.tuple l)=true:=rfl
@[go_sem]theorem aCp:aQ bS=true:=rfl
@[go_sem]theorem aRt(l:List AV)(A:Prop):cA l A=(aZ l=true∧A):=rfl
theorem aGq(k:IntKind)(q:pN)(a b:Int):aO .lss q (.int k a) (.int k b)=some (.bool (decide (a<b))):=by
 show(bif Nat.beq (jL k) (jL k)||sI .lss then iC .lss k a b else none)=_
 rw[beq_eq.2 rfl]
 show some (AV.bool (PP a b))=_
 rw[lZ]
theorem aGr(k:IntKind)(q:pN)(a b:Int):aO .leq q (.int k a) (.int k b)=some (.bool (decide (a≤b))):=by
 show(bif Nat.beq (jL k) (jL k)||sI .leq then iC .leq k a b else none)=_
 rw[beq_eq.2 rfl]
 show some (AV.bool (!PP b a))=_
 rw[lZ,←decide_not]
 simp only[Int.not_lt]
theorem aGs(k:IntKind)(q:pN)(a b:Int):aO .gtr q (.int k a) (.int k b)=some (.bool (decide (b<a))):=by
 show(bif Nat.beq (jL k) (jL k)||sI .gtr then iC .gtr k a b else none)=_
 rw[beq_eq.2 rfl]
 show some (AV.bool (PP b a))=_
 rw[lZ]
theorem aGt(k:IntKind)(q:pN)(a b:Int):aO .geq q (.int k a) (.int k b)=some (.bool (decide (b≤a))):=by
 show(bif Nat.beq (jL k) (jL k)||sI .geq then iC .geq k a b else none)=_
 rw[beq_eq.2 rfl]
 show some (AV.bool (!PP a b))=_
 rw[lZ,←decide_not]
 simp only[Int.not_lt]
theorem aGu(k:IntKind)(q:pN)(a b:Int):aO .eql q (.int k a) (.int k b)=some (.bool (decide (a=b))):=by
 show(bif Nat.beq (jL k) (jL k)||sI .eql then iC .eql k a b else none)=_
 rw[beq_eq.2 rfl]
 show some (AV.bool (NZ a b))=_
 rw[lY]
theorem aGv(k:IntKind)(q:pN)(a b:Int):aO .neq q (.int k a) (.int k b)=some (.bool (decide (a≠b))):=by
 show(bif Nat.beq (jL k) (jL k)||sI .neq then iC .neq k a b else none)=_
 rw[beq_eq.2 rfl]
 show some (AV.bool (!NZ a b))=_
 rw[lY,←decide_not]
theorem wrap_i64{n:Int}(h1: -9223372036854775808≤n)(h2:n<9223372036854775808):eZ .i64 n=n:=by
 show wrap64 n=n
 unfold wrap64
 cases n with
 |ofNat a=>
  have:Nat.blt a 9223372036854775808=true:=blt_eq.2 (by have:(a:Int)<9223372036854775808:=h2;omega)
  simp only[this,cond_true]
 |negSucc a=>
  simp only
  cases hb:Nat.blt a 9223372036854775808 with
  |true=>rfl
  |false=>
   exfalso
   have:¬a<9223372036854775808:=fun h=>by rw[blt_eq.2 h]at hb;cases hb
   have h3: -9223372036854775808≤Int.negSucc a:=h1
   omega
theorem aGw{q:pN}{a b:Int}(h1: -9223372036854775808≤a+b)(h2:a+b<9223372036854775808):aO .add q (.int .i64 a) (.int .i64 b)=some (.int .i64 (a+b)):=by
 show some (AV.int .i64 (eZ .i64 (a+b)))=_
 rw[wrap_i64 h1 h2]
theorem aGx{q:pN}{a b:Int}(h1: -9223372036854775808≤a-b)(h2:a-b<9223372036854775808):aO .sub q (.int .i64 a) (.int .i64 b)=some (.int .i64 (a-b)):=by
 show some (AV.int .i64 (eZ .i64 (a-b)))=_
 rw[wrap_i64 h1 h2]
theorem aGy{q:pN}{a b:Int}(h1: -9223372036854775808≤a*b)(h2:a*b<9223372036854775808):aO .mul q (.int .i64 a) (.int .i64 b)=some (.int .i64 (a*b)):=by
 show some (AV.int .i64 (eZ .i64 (a*b)))=_
 rw[wrap_i64 h1 h2]
theorem aCq(q:pN)(a b:List Nat):aO .eql q (.str a) (.str b)=some (.bool (decide (a=b))):=by
 show some (AV.bool (nL a b))=_
 rw[kJ]
theorem aCr(q:pN)(a b:List Nat):aO .neq q (.str a) (.str b)=some (.bool (decide (a≠b))):=by
 show some (AV.bool (!nL a b))=_
 rw[kJ,←decide_not]
@[go_sem]theorem aJG(s:List Nat)(h:aL):bO .str [.str s] h= .ok (iv s.length) h:=rfl
@[go_sem]theorem aJH(l:List AV)(n c:Nat)(x:Bool)(h:aL):bO .sl [.rslice l n c x] h= .ok (iv n) h:=rfl
@[go_sem]theorem aLW(b off n c k:Nat)(h:aL):bO .sl [.slice b off n c k] h= .ok (iv n) h:=rfl
@[go_sem]theorem aGz(h:aL):bO .sl [.aB] h= .ok (iv 0) h:=rfl
@[go_sem]theorem aFe(k:IntKind)(n:Nat):bB (.int k (n:Int))=some n:=rfl
@[go_sem]theorem aJI(k:IntKind):bB (.int k 0)=some 0:=rfl
theorem J8{s:List Nat}{i:Nat}{c:Nat}(h:s[i]?=some c):ixS (.str s) (some i)=some (.int .u8 c):=by
 show PY (bR s i)=_
 rw[kL,h]
 rfl
@[go_sem]theorem aCs(n b o:Nat):aN n (.ptr b o)=some (.ptr b (o+n)):=rfl
@[go_sem]theorem aA5(n:Nat)(l:List AV):aN n (.rptr l)=some (.rptr (l.drop n)):=by
 show some (AV.rptr (drop n l))=_
 rw[dX]
@[go_sem]theorem aFf(h:aL)(cut:fV)(l:List AV):aJ h cut (.rptr l)=kW l 0 cut:=rfl
@[go_sem]theorem aFg(a:AV)(l:List AV):aR 0 (.tuple (a::l))=some a:=rfl
@[go_sem]theorem aFh(a b:AV)(l:List AV):aR 1 (.tuple (a::b::l))=some b:=rfl
@[go_sem]theorem aFi(a b c:AV)(l:List AV):aR 2 (.tuple (a::b::c::l))=some c:=rfl
@[go_sem]theorem aFj(cut:fV)(l:List AV):sJ cut (.agg l)=kW l 0 cut:=rfl
@[go_sem]theorem aA6(l:List AV):aK (.agg l)=l:=rfl
@[go_sem]theorem aA7(k:IntKind)(n:Int):aK (.int k n)= [.int k n]:=rfl
@[go_sem]theorem ZP(b:Bool):aK (.bool b)= [.bool b]:=rfl
@[go_sem]theorem aA8(s:List Nat):aK (.str s)= [.str s]:=rfl
@[go_sem]theorem ZQ:aK .aB= [.aB]:=rfl
@[go_sem]theorem UD(l:List AV)(a b:Nat)(c:Bool):aK (.rslice l a b c)= [.rslice l a b c]:=rfl
@[go_sem]theorem YZ(a b c d e:Nat):aK (.slice a b c d e)= [.slice a b c d e]:=rfl
@[go_sem]theorem aA9(a:Nat):aK (.map a)= [.map a]:=rfl
@[go_sem]theorem aBa(a b:Nat):aK (.ptr a b)= [.ptr a b]:=rfl
@[go_sem]theorem ZR(f:Fn)(a b:List AV):aK (.func f a b)= [.func f a b]:=rfl
@[go_sem]theorem aLX(a:AV)(l:List AV):bD (a::l) 0=a:=rfl
@[go_sem]theorem aLY(a:AV)(l:List AV)(n:Nat):bD (a::l) (n+1)=bD l n:=rfl
@[congr]theorem aGA{x x':Option AV}(e:x=x')(K:AV→Prop):RO x K=RO x' K:=by rw[e]
@[congr]theorem aGB{x x':Option (List AV)}(e:x=x')(K:List AV→Prop):RL x K=RL x' K:=by rw[e]
@[congr]theorem aGC{x x':R AV}(e:x=x')(K:KH):RP x K=RP x' K:=by rw[e]
@[congr]theorem aGD{v v':AV}(e:v=v')(w:Bool)(A:KH→Prop)(h:aL)(K:KH):gV v w A h K=gV v' w A h K:=by rw[e]
@[congr]theorem aGE{v v':AV}(e:v=v')(A B:Prop):cB v A B=cB v' A B:=by rw[e]
@[congr]theorem aJJ{f:Nat}{a a':List AV}{h h':aL}(e:a=a')(e':h=h')(K:KH):C f a h K=C f a' h' K:=by rw[e,e']
@[congr]theorem aGF{f f':AV}{a a':List AV}{h h':aL}(ef:f=f')(e:a=a')(e':h=h')(K:KH):CV f a h K=CV f' a' h' K:=by rw[ef,e,e']
@[congr]theorem aGG{f f':AV}{n:String}{a a':List AV}{h h':aL}(ef:f=f')(e:a=a')(e':h=h')(K:KH):CI f n a h K=CI f' n a' h' K:=by rw[ef,e,e']
@[congr]theorem aGH{ps:List bH}{b:CC}{a a':List AV}{h h':aL}(e:a=a')(e':h=h')(en:Ends)(rt:List AV→aL→Prop):gL ps b a h en rt=gL ps b a' h' en rt:=by rw[e,e']
@[congr]theorem aGI{s:Bool}{v v':AV}{h h':aL}(e:v=v')(e':h=h')(K:KH):UE s v h K=UE s v' h' K:=by rw[e,e']
@[go_sem]theorem aRu(A:KH→Prop)(h:aL)(K:KH):gV (.bool true) true A h K=A K:=rfl
@[go_sem]theorem aRv(A:KH→Prop)(h:aL)(K:KH):gV (.bool false) false A h K=A K:=rfl
@[go_sem]theorem aRw(A:KH→Prop)(h:aL)(K:KH):gV (.bool true) false A h K=K bS h:=rfl
@[go_sem]theorem aRx(A:KH→Prop)(h:aL)(K:KH):gV (.bool false) true A h K=K bS h:=rfl
@[go_sem]theorem aTm(A B:Prop):cB (.bool true) A B=A:=rfl
@[go_sem]theorem aTn(A B:Prop):cB (.bool false) A B=B:=rfl
@[go_sem]theorem aLZ(a b:AV):bJ a b (.bool true)=some a:=rfl
@[go_sem]theorem aL0(a b:AV):bJ a b (.bool false)=some b:=rfl
@[go_sem]theorem aRy:gS .not (.bool true)=some (.bool false):=rfl
@[go_sem]theorem aRz:gS .not (.bool false)=some (.bool true):=rfl
theorem sA{x:Option AV}{P:Prop}[Decidable P]{K:AV→Prop}(e:x=some (.bool (decide P))):RO x K=((P→K (.bool true))∧(¬P→K (.bool false))):=by
 rw[e]
 by_cases hp:P
 ·simp[hp,RO]
 ·simp[hp,RO]
@[go_sem]theorem kC(g:Nat)(a b args:List AV)(h:aL)(K:KH):CV (.func (.func g) a b) args h K=C g (a++(args++b)) h K:=rfl
@[go_sem]theorem aRA(k:IntKind)(q:pN)(a b:Int)(K:AV→Prop):RO (aO .lss q (.int k a) (.int k b)) K=((a<b→K (.bool true))∧(¬(a<b)→K (.bool false))):=sA (aGq k q a b)
@[go_sem]theorem aRB(k:IntKind)(q:pN)(a b:Int)(K:AV→Prop):RO (aO .leq q (.int k a) (.int k b)) K=((a≤b→K (.bool true))∧(¬(a≤b)→K (.bool false))):=sA (aGr k q a b)
@[go_sem]theorem aRC(k:IntKind)(q:pN)(a b:Int)(K:AV→Prop):RO (aO .gtr q (.int k a) (.int k b)) K=((b<a→K (.bool true))∧(¬(b<a)→K (.bool false))):=sA (aGs k q a b)
@[go_sem]theorem aRD(k:IntKind)(q:pN)(a b:Int)(K:AV→Prop):RO (aO .geq q (.int k a) (.int k b)) K=((b≤a→K (.bool true))∧(¬(b≤a)→K (.bool false))):=sA (aGt k q a b)
@[go_sem]theorem aRE(k:IntKind)(q:pN)(a b:Int)(K:AV→Prop):RO (aO .eql q (.int k a) (.int k b)) K=((a=b→K (.bool true))∧(¬(a=b)→K (.bool false))):=sA (aGu k q a b)
@[go_sem]theorem aRF(k:IntKind)(q:pN)(a b:Int)(K:AV→Prop):RO (aO .neq q (.int k a) (.int k b)) K=((a=b→K (.bool false))∧(¬(a=b)→K (.bool true))):=by
 rw[sA (aGv k q a b)]
 simp only[ne_eq,Classical.not_not]
 exact propext and_comm
@[go_sem]theorem aL1(q:pN)(a b:List Nat)(K:AV→Prop):RO (aO .eql q (.str a) (.str b)) K=((a=b→K (.bool true))∧(¬(a=b)→K (.bool false))):=sA (aCq q a b)
@[go_sem]theorem aL2(q:pN)(a b:List Nat)(K:AV→Prop):RO (aO .neq q (.str a) (.str b)) K=((a=b→K (.bool false))∧(¬(a=b)→K (.bool true))):=by
 rw[sA (aCr q a b)]
 simp only[ne_eq,Classical.not_not]
 exact propext and_comm
theorem bT{q:pN}{a b:Int}{K:AV→Prop}(h1: -9223372036854775808≤a+b)(h2:a+b<9223372036854775808)(k:K (iv (a+b))):RO (aO .add q (iv a) (iv b)) K:=by rw[aGw h1 h2];exact k
theorem pC{q:pN}{a b:Int}{K:AV→Prop}(h1: -9223372036854775808≤a-b)(h2:a-b<9223372036854775808)(k:K (iv (a-b))):RO (aO .sub q (iv a) (iv b)) K:=by rw[aGx h1 h2];exact k
theorem aGJ{q:pN}{a b:Int}{K:AV→Prop}(h1: -9223372036854775808≤a*b)(h2:a*b<9223372036854775808)(k:K (iv (a*b))):RO (aO .mul q (iv a) (iv b)) K:=by rw[aGy h1 h2];exact k
@[go_sem]theorem aCt(i:Nat)(k:List AV→aL→Prop)(l:Ends)(vs:List AV)(h:aL):bX ((i,k)::l) i vs h=k vs h:=by
 show(bif Nat.beq i i then _ else _)=_
 rw[beq_eq.2 rfl];rfl
@[go_sem]theorem aFk(f:Nat×(List AV→aL→Prop)→Nat×(List AV→aL→Prop)):List.map f []= []:=rfl
@[go_sem]theorem aCu(f:Nat×(List AV→aL→Prop)→Nat×(List AV→aL→Prop))(x:Nat×(List AV→aL→Prop))(l:Ends):List.map f (x::l)=f x::List.map f l:=rfl
@[go_sem]theorem aFl:(∀v,v∈([]:List AV)→aQ v=true)=True:=by simp
@[go_sem]theorem aCv(a:AV)(l:List AV):(∀v,v∈a::l→aQ v=true)=(aQ a=true∧∀v,v∈l→aQ v=true):=by simp
theorem cD{σ:Type}(enc:σ→List AV)(hp:σ→aL)(ok:σ→Prop)(m:σ→Nat){A:Nat→List bH}{cur:Nat}{ps:List bH}{b:CC}{e:Ends}{rt:List AV→aL→Prop}
  (hs:∀s,ok s→WC A cur b (pts ps (enc s)) (hp s) (hC ps (fun vs' h'=>(∀v,v∈vs'→aQ v=true)∧∃s',ok s'∧m s'<m s∧vs'=enc s'∧h'=hp s') (e.map fun x=>(x.1,fun vs' h'=>(∀v,v∈vs'→aQ v=true)∧x.2 vs' h')) (fun vs' h'=>(∀v,v∈vs'→aQ v=true)∧rt vs' h'))) (s0:σ) (h0:ok s0):gL ps b (enc s0) (hp s0) e rt:=ZS X.mono enc hp ok m hs s0 h0
def bW(n:Nat)(h h':aL):Prop:=∀b,b<n→aP h' b=aP h b
theorem bW.refl(n:Nat)(h:aL):bW n h h:=fun _ _=>rfl
theorem bW.nw{n:Nat}{h h':aL}(q:bW n h h')(hn:n≤h'.aA){o:AO}:bW n h (nw h' o):=fun b hb=>by rw[bF,if_neg (by omega)];exact q b hb
theorem bW.set{n:Nat}{h h':aL}(q:bW n h h'){c:Nat}(hn:n≤c){o:AO}:bW n h (bI h' c o):=fun b hb=>by rw[aX,if_neg (by omega)];exact q b hb
theorem bW.nwAt{n:Nat}{h h':aL}(q:bW n h h'){c:Nat}(hn:n≤c){o:AO}:bW n h (nwAt h' c o):=fun b hb=>by rw[gH,if_neg (by omega)];exact q b hb
theorem bW.del{n:Nat}{h h':aL}(q:bW n h h'){c:Nat}(hn:n≤c):bW n h (jK h' c):=fun b hb=>by rw[i7,if_neg (by omega)];exact q b hb
theorem bW.up{n:Nat}{h h':aL}(q:bW n h h'){k:Nat}:bW n h (up h' k):=q
theorem bW.trans{n:Nat}{h h' h'':aL}(q:bW n h h')(q':bW n h' h''):bW n h h'':=fun b hb=>(q' b hb).trans (q b hb)
def cl(h:aL)(K:KH):KH:=fun v h'=>bW h.aA h h'∧∃v2,Fz h'.t h.aA v v2∧K v2 h
theorem aCw{f:Nat}{args:List AV}{h:aL}{K K':KH}(q:C f args h K)(m:∀v h,K v h→K' v h):C f args h K':=F.mono X.mono q m
theorem bG{f:Nat}{args:List AV}{h:aL}{K:KH}(q:C f args h (cl h K)):C f args h K:=by
 refine W.cool q (fun v h' ⟨h1,v2,h2,h3⟩=>⟨v2,h,⟨h2,rfl,fun b _=> .inr rfl,fun b hb=> .inr (.inl ⟨(h1 b hb).symm,h1 b hb⟩)⟩,h3⟩)
theorem bA{h h':aL}{K:KH}{v:AV}(ho:bW h.aA h h')(hi:idless v=true)(k:K v h):cl h K v h':=⟨ho,v,.same hi,k⟩
@[congr]theorem Qr_congr{v v':AV}(e:v=v')(w:Bool)(x:Option AV)(h:aL)(K:KH):Qr v w x h K=Qr v' w x h K:=by rw[e]
@[congr]theorem Qp_congr{v v':AV}(e:v=v')(w:Bool)(x:R AV)(h:aL)(K:KH):Qp v w x h K=Qp v' w x h K:=by rw[e]
@[go_sem]theorem Qr_tt(x:Option AV)(h:aL)(K:KH):Qr (.bool true) true x h K=RO x fun y=>K y h:=rfl
@[go_sem]theorem Qr_ff(x:Option AV)(h:aL)(K:KH):Qr (.bool false) false x h K=RO x fun y=>K y h:=rfl
@[go_sem]theorem Qr_tf(x:Option AV)(h:aL)(K:KH):Qr (.bool true) false x h K=K bS h:=rfl
@[go_sem]theorem Qr_ft(x:Option AV)(h:aL)(K:KH):Qr (.bool false) true x h K=K bS h:=rfl
@[go_sem]theorem Qr_s(v:AV)(w:Bool)(x:AV)(h:aL)(K:KH):Qr v w (some x) h K=gV v w (fun k=>k x h) h K:=rfl
@[go_sem]theorem Qp_s(v:AV)(w:Bool)(x:AV)(g h:aL)(K:KH):Qp v w (.ok x g) h K=gV v w (fun k=>k x g) h K:=rfl
@[go_sem]theorem Qr_u(w:Bool)(x:Option AV)(h:aL)(K:KH):Qr bS w x h K=K bS h:=rfl
@[go_sem]theorem Qp_u(w:Bool)(x:R AV)(h:aL)(K:KH):Qp bS w x h K=K bS h:=rfl
@[go_sem]theorem Qp_tt(x:R AV)(h:aL)(K:KH):Qp (.bool true) true x h K=RP x K:=rfl
@[go_sem]theorem Qp_ff(x:R AV)(h:aL)(K:KH):Qp (.bool false) false x h K=RP x K:=rfl
@[go_sem]theorem Qp_tf(x:R AV)(h:aL)(K:KH):Qp (.bool true) false x h K=K bS h:=rfl
@[go_sem]theorem Qp_ft(x:R AV)(h:aL)(K:KH):Qp (.bool false) true x h K=K bS h:=rfl
theorem aa(a b c:Nat):a+b+c=a+(b+c):=Nat.add_assoc a b c
attribute [go_sem] Nat.zero_add Nat.add_zero true_and and_true not_false_eq_true
open Nat (reduceAdd reduceMul reduceSub reduceEqDiff reduceLT)
theorem Sr{P Q:Prop}(q:Q)(h:P=Q:=by conv=>lhs;simp only[go_sem,reduceAdd,reduceMul,reduceSub]):P:=h▸q
theorem Zr{P Q:Prop}(q:Q)(h:P=Q:=by conv=>lhs;simp only[go_sem,reduceAdd,reduceMul,reduceSub,aa,reduceEqDiff,reduceLT]):P:=h▸q
theorem S1{A P Q:Prop}(a:A)(q:Q)(h:A→P=Q:=by intro a;conv=>lhs;simp only[go_sem,reduceAdd,reduceMul,reduceSub,a]):P:=h a▸q
theorem S2{A B P Q:Prop}(a:A)(b:B)(q:Q)(h:A→B→P=Q:=by intro a b;conv=>lhs;simp only[go_sem,reduceAdd,reduceMul,reduceSub,a,b]):P:=h a b▸q
theorem S3{A B D P Q:Prop}(a:A)(b:B)(c:D)(q:Q)(h:A→B→D→P=Q:=by intro a b c;conv=>lhs;simp only[go_sem,reduceAdd,reduceMul,reduceSub,a,b,c]):P:=h a b c▸q
theorem S4{A B D E P Q:Prop}(a:A)(b:B)(c:D)(d:E)(q:Q)(h:A→B→D→E→P=Q:=by intro a b c d;conv=>lhs;simp only[go_sem,reduceAdd,reduceMul,reduceSub,a,b,c,d]):P:=h a b c d▸q
theorem Z1{A P Q:Prop}(a:A)(q:Q)(h:A→P=Q:=by intro a;conv=>lhs;simp only[go_sem,reduceAdd,reduceMul,reduceSub,aa,reduceEqDiff,reduceLT,a]):P:=h a▸q
theorem Z2{A B P Q:Prop}(a:A)(b:B)(q:Q)(h:A→B→P=Q:=by intro a b;conv=>lhs;simp only[go_sem,reduceAdd,reduceMul,reduceSub,aa,reduceEqDiff,reduceLT,a,b]):P:=h a b▸q
theorem Z3{A B D P Q:Prop}(a:A)(b:B)(c:D)(q:Q)(h:A→B→D→P=Q:=by intro a b c;conv=>lhs;simp only[go_sem,reduceAdd,reduceMul,reduceSub,aa,reduceEqDiff,reduceLT,a,b,c]):P:=h a b c▸q
theorem Z4{A B D E P Q:Prop}(a:A)(b:B)(c:D)(d:E)(q:Q)(h:A→B→D→E→P=Q:=by intro a b c d;conv=>lhs;simp only[go_sem,reduceAdd,reduceMul,reduceSub,aa,reduceEqDiff,reduceLT,a,b,c,d]):P:=h a b c d▸q
theorem Oq{n:Nat}{g h:aL}(o:bW n g h:=by repeat' first|assumption|exact bW.refl _ _|refine bW.nw ?_ (by simp only[go_sem];omega)|refine bW.set ?_ (by omega)|refine bW.up ?_):bW n g h:=o
theorem Fq{P:Prop}(p:P:=by intro b hb hn;repeat' first|rfl|rw[cM]|rw[aX,if_neg (by omega)]|rw[bF,if_neg (by first|omega|(simp only[go_sem];omega))]|rw[gH,if_neg (by first|omega|(simp only[go_sem];omega))]):P:=p
theorem fP{h h':aL}{K:KH}{v:AV}(k:K v h)(ho:bW h.aA h h':=by repeat' first|assumption|exact bW.refl _ _|refine bW.nw ?_ (by simp only[go_sem];omega)|refine bW.set ?_ (by omega)|refine bW.up ?_)(hi:idless v=true:=by rfl):cl h K v h':=bA ho hi k
end
end
end Ev
