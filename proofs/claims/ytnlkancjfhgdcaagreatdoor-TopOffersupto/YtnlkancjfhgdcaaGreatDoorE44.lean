/- Proved here: contracts of functions of the program, and the plain law. Conditions: none beyond the hypotheses that each theorem states. -/
import Derived.Test.YtnlkancjfhgdcaaGreatDoorRows
import Derived.ChangeArms
import Derived.OpenShut
import Derived.ProofKit
import Derived.WideShapes
import Derived.Deep.DeepHandedRow
import Derived.Lib.LaidTab
import Derived.Test.YtnlkancjfhgdcaaGreatDoorE43
import Derived.Test.YtnlkancjfhgdcaaGreatDoorE30
import Derived.Test.YtnlkancjfhgdcaaGreatDoorE23
import Derived.Test.YtnlkancjfhgdcaaGreatDoorE29
import Derived.Test.YtnlkancjfhgdcaaGreatDoorE24
import Derived.Test.YtnlkancjfhgdcaaGreatDoorE25
import Derived.Test.YtnlkancjfhgdcaaGreatDoorE26
import Derived.Test.YtnlkancjfhgdcaaGreatDoorE27
import Derived.Test.YtnlkancjfhgdcaaGreatDoorE32
import Derived.Test.YtnlkancjfhgdcaaGreatDoorE33
import Derived.Test.YtnlkancjfhgdcaaGreatDoorE34
import Derived.Test.YtnlkancjfhgdcaaGreatDoorE35
import Derived.Test.YtnlkancjfhgdcaaGreatDoorE36
import Derived.Test.YtnlkancjfhgdcaaGreatDoorE37
import Derived.Test.YtnlkancjfhgdcaaGreatDoorE38
import Derived.Test.YtnlkancjfhgdcaaGreatDoorE39
import Derived.Test.YtnlkancjfhgdcaaGreatDoorE40
import Derived.Test.YtnlkancjfhgdcaaGreatDoorE41
import Derived.Test.YtnlkancjfhgdcaaGreatDoorE42
import Derived.Test.YtnlkancjfhgdcaaGreatDoorE17
set_option linter.all false
set_option maxRecDepth 100000
open Go Go.Proofs
open Nat(reduceAdd reduceMul reduceSub reduceEqDiff reduceLT)
namespace Ev
noncomputable section
attribute [local irreducible] RO RL RP gV cB F cV cI NX LP J9
open Classical
variable{h:aL}{K:KH}
section
attribute [local irreducible] cl uE
def pf(x:Nat×Int):AV:= .ptr x.1 0
abbrev fq:Nat×Int→List AV:=fun x=> [.ptr x.1 0]
theorem OZ(l:List (Nat×Int)):l.flatMap fq=l.map pf:=by induction l with|nil=>rfl|cons a l ih=>rw[List.flatMap_cons,ih];rfl
structure QS(n0:Nat→Prop)(qp mb rb cap m:Nat)(g:aL)(es:List (Nat×Int)):Prop where
 q:aP g qp=some (.cells [.slice rb 0 es.length cap 2,.map mb])
 row:∃cs,aP g rb=some (.cells cs)∧cs.length=m∧cs.take es.length=es.map pf
 le:es.length≤m∧es.length≤cap
 ent:∀x∈es,∃t pl,aP g x.1=some (.cells [iv x.2,iv t,iv pl])∧¬n0 x.1∧x.1<g.aA
 nd:(es.map Prod.fst).Nodup
 nq:∀x∈es,x.1≠qp∧x.1≠rb∧x.1≠mb
 d:qp≠rb∧qp≠mb∧rb≠mb
 b:(¬n0 qp∧qp<g.aA)∧(¬n0 rb∧rb<g.aA)∧(¬n0 mb∧mb<g.aA)
structure QF(n0:Nat→Prop)(mb:Nat)(g g':aL):Prop where
 old:∀b,n0 b→aP g' b=aP g b
 aA:g.aA≤g'.aA
 map:aP g' mb=aP g mb
theorem QF.refl{n0:Nat→Prop}{mb:Nat}{g:aL}:QF n0 mb g g:=⟨fun _ _=>rfl,aE _,rfl⟩
theorem QF.trans{n0:Nat→Prop}{mb:Nat}{g g' g'':aL}(a:QF n0 mb g g')(b:QF n0 mb g' g''):QF n0 mb g g'':=⟨fun c hc=>(b.old c hc).trans (a.old c hc),Nat.le_trans a.aA b.aA,b.map.trans a.map⟩
theorem yJ{es:List (Nat×Int)}{cs:List AV}(h:cs.take es.length=es.map pf){i:Nat}{x:Nat×Int}(e:es[i]?=some x):bR cs i=some (.ptr x.1 0):=by
 have h2:(es.map pf)[i]?=some (.ptr x.1 0):=by rw[List.getElem?_map,e];rfl
 rw[←h,List.getElem?_take]at h2
 rw[kL]
 split at h2
 ·exact h2
 ·cases h2
theorem aIk{cs:List AV}{i:Nat}{v:AV}(h:i<cs.length):aV cs i [v]=some (cs.set i v):=by
 rw[xF _ _ _ (by simp;omega)]
 congr 1
 rw[List.set_eq_take_append_cons_drop,if_pos h]
 simp
theorem sX{rb i len cap:Nat}(h:i<len):cR none 1 (.slice rb 0 len cap 2) (some i)=some (.ptr rb i):=by
 show DS i len (.ptr rb (0+Nat.mul i 1))=_
 unfold DS
 rw[show Nat.blt i len=true from blt_eq.2 h,Nat.zero_add]
 show some (AV.ptr rb (i*1))=_
 rw[Nat.mul_one]
variable{n0:Nat→Prop}{qp mb rb cap m:Nat}{g:aL}{es:List (Nat×Int)}
theorem aOs{len:Nat}(k:K (iv len) g):C 493 [.slice rb 0 len cap 2] g K:=by
 refine aOu ?_
 rw[show bO .sl [.slice rb 0 len cap 2] g= .ok (iv len) g from rfl]
 refine Zr ?_
 exact k
theorem aOt{i j:Nat}(s:QS n0 qp mb rb cap m g es)(hi:i<es.length)(hj:j<es.length)(k:∀b,K (.bool b) g):C 494 [.slice rb 0 es.length cap 2,iv i,iv j] g K:=by
 refine bG (aOw ?_)
 unfold aD6
 obtain⟨cs,c1,c2,c3⟩:=s.row
 have ei:=aC hi
 have ej:=aC hj
 have ni:=yJ c3 ei
 have nj:=yJ c3 ej
 obtain⟨ti,pi,gi,_⟩:=s.ent _ (aG ei)
 obtain⟨tj,pj,gj,_⟩:=s.ent _ (aG ej)
 have kk:∀b,cl g K (.bool b) (up g 50):=fun b=>bA (bW.refl _ _) rfl (k b)
 rw[show bB (iv (i:Int))=some i from rfl,show bB (iv (j:Int))=some j from rfl,sX hi,sX hj]
 have u1:∀b,aP (up g 50) b=aP g b:=fun b=>cM _ _ _
 simp only[go_sem,reduceAdd,reduceMul,reduceSub,aa,reduceEqDiff,reduceLT,c1,ni,nj,gi,gj]
 have xi:=sX (rb:=rb) (cap:=cap) hi
 have xj:=sX (rb:=rb) (cap:=cap) hj
 refine⟨fun q=>kk _,fun q=> ?_⟩
 simp only[go_sem,reduceAdd,reduceMul,reduceSub,aa,reduceEqDiff,reduceLT,xi,xj,c1,ni,nj,gi,gj]
 refine⟨fun q2=>⟨fun q3=>kk _,fun q3=>kk _⟩,fun q2=>kk _⟩
end
section
def TR(a b c num:Int):dS×Int:=if 1≤a∧(a≤b∧b≤16)∧(1≤c∧c≤b)∧(a≤num∧num≤b)then(⟨b,c,num,0,0⟩,0)else(⟨0,0,0,0,0⟩,1)
theorem TS(m0 m1 m2 num:Int):∃a b c,jO m0 m1 m2 num=TR a b c num:=⟨_,_,_,rfl⟩
theorem rU{n:Int}(h1:0≤n)(h2:n≤1000):wrap64 n=n:=wrap_i64 (by omega) (by omega)
theorem E5{m0 m1 m2 num:Int}(h:(jO m0 m1 m2 num).2=0):sW (jO m0 m1 m2 num).1∧¬nV (jO m0 m1 m2 num).1:=by
 obtain⟨a,b,c,e⟩:=TS m0 m1 m2 num
 rw[e]at h⊢
 unfold TR at h⊢
 split at h
 ·rename_i q
  rw[if_pos q]
  obtain⟨q1,⟨q2,q3⟩,⟨q4,q5⟩,q6,q7⟩:=q
  have hc:yG ⟨b,c,num,0,0⟩=num:=by
   unfold yG
   show wrap64 (wrap64 (num+0)+0)=num
   rw[show num+0=num by omega,rU (n:=num) (by omega) (by omega),show num+0=num by omega,rU (n:=num) (by omega) (by omega)]
  refine⟨⟨⟨?_,?_⟩,⟨?_,?_⟩,⟨?_,?_⟩,⟨?_,?_⟩,⟨?_,?_⟩,?_⟩,fun ho=> ?_⟩
  ·show 1≤b;omega
  ·show b≤16;omega
  ·exact q4
  ·exact q5
  ·show 0≤num;omega
  ·exact q7
  ·exact Int.le_refl _
  ·show 0≤b;omega
  ·exact Int.le_refl _
  ·show 0≤b;omega
  ·rw[hc];exact⟨by omega,q7⟩
  ·rcases ho.2 with h|h
   ·have h:c≤0:=h;omega
   ·have h:num=0:=h;omega
 ·cases h
theorem pP{d:Nat}{n:dL}{m:Mark}{o:Mode}(h:eQ d n m o=0):(hY n o.task o.vars).1=0∧(fW d n o).1=0∧(iF d n o).1=0∧zK (fW d n o).2 m:=by
 unfold eQ at h
 split at h
 ·rename_i q;exact absurd h q
 ·rename_i q
  have q:(hY n o.task o.vars).1=0:=Classical.byContradiction q
  split at h
  ·cases h
  ·rename_i t et
   split at h
   ·rename_i q2;exact absurd h q2
   ·split at h
    ·cases h
    ·split at h
     ·rename_i q3;exact absurd h q3
     ·rename_i q3
      have q3:=Classical.byContradiction q3
      unfold fW iF
      rw[if_neg (fun z=>z q),if_neg (fun z=>z q),et]
      simp only
      unfold pS at q3
      simp only at q3
      split at q3
      ·rename_i q4;exact absurd q3 q4
      ·rename_i q4
       split at q3
       ·cases q3
       ·rename_i q5
        exact⟨q,Classical.byContradiction q4,h,Classical.byContradiction q5⟩
end
section
attribute [local irreducible] cl uE
variable{n0:Nat→Prop}{qp mb rb cap m:Nat}{g:aL}{es:List (Nat×Int)}
def y8{α:Type}(l:List α)(i j:Nat)(x y:α):List α:=(l.set i y).set j x
theorem GE{α:Type}(l:List α)(i j:Nat)(x y:α):(y8 l i j x y).length=l.length:=by unfold y8;simp
theorem qY{α:Type}{l:List α}{i j:Nat}{x y:α}(ei:l[i]?=some x)(ej:l[j]?=some y):(y8 l i j x y).Perm l:=by
 obtain⟨h1,rfl⟩:=aD.1 ei
 obtain⟨h2,rfl⟩:=aD.1 ej
 exact List.set_set_perm h1 h2
theorem aOr{i j:Nat}{x y:Nat×Int}(s:QS n0 qp mb rb cap m g es)(ei:es[i]?=some x)(ej:es[j]?=some y)(hes:es.length<2^40)(k:∀g',QS n0 qp mb rb cap m g' (y8 es i j x y)→QF n0 mb g g'→K (.tuple []) g'):C 495 [.slice rb 0 es.length cap 2,iv i,iv j] g K:=by
 refine aOy ?_
 unfold aD9
 obtain⟨cs,c1,c2,c3⟩:=s.row
 have hi:=(aD.1 ei).1
 have hj:=(aD.1 ej).1
 have hle:=s.le.1
 have ni:=yJ c3 ei
 have nj:=yJ c3 ej
 obtain⟨ti,pi,gi,bi,bi2⟩:=s.ent _ (aG ei)
 obtain⟨tj,pj,gj,bj,bj2⟩:=s.ent _ (aG ej)
 have xi:=sX (rb:=rb) (cap:=cap) hi
 have xj:=sX (rb:=rb) (cap:=cap) hj
 have r1:aV cs i [.ptr y.1 0]=some (cs.set i (pf y)):=aIk (by omega)
 have r2:aV (cs.set i (pf y)) j [.ptr x.1 0]=some ((cs.set i (pf y)).set j (pf x)):=aIk (by simp;omega)
 have n2:bR ((cs.set i (pf y)).set j (pf x)) i=some (.ptr y.1 0):=by
  rw[kL,List.getElem?_set]
  split
  ·rename_i e
   subst e
   rw[ei]at ej
   rw[if_pos (by simp;omega),Option.some.inj ej];rfl
  ·rw[List.getElem?_set_self (by omega)];rfl
 have n3:bR ((cs.set i (pf y)).set j (pf x)) j=some (.ptr x.1 0):=by
  rw[kL,List.getElem?_set_self (by simp;omega)];rfl
 obtain⟨nx1,nx2,nx3⟩:=s.nq _ (aG ei)
 obtain⟨ny1,ny2,ny3⟩:=s.nq _ (aG ej)
 rw[show bB (iv (i:Int))=some i from rfl,show bB (iv (j:Int))=some j from rfl]
 simp only[go_sem,reduceAdd,reduceMul,reduceSub,aa,reduceEqDiff,reduceLT,xi,xj,c1,ni,nj,r1,r2,n2,n3]
 obtain⟨G,hG⟩:∃G,G=up (bI (bI (up g 16) rb (.cells (cs.set i (pf y)))) rb (.cells ((cs.set i (pf y)).set j (pf x)))) 16:=⟨_,rfl⟩
 have nG:G.aA=g.aA+32:=by rw[hG,cW,bC,bC,cW]
 have oG:∀b,b≠rb→aP G b=aP g b:=fun b hb=>by rw[hG,cM,aX,if_neg hb,aX,if_neg hb,cM]
 have rG:aP G rb=some (.cells ((cs.set i (pf y)).set j (pf x))):=by rw[hG,cM,aU]
 refine Eq.mp (congrArg (fun(G':aL)=>RP (stI G' y.fst 2 [.int .i64 i] (aP G' y.fst)) fun v16 h17=>RP (stI h17 x.fst 2 [.int .i64 j] (aP h17 x.fst)) fun v20 h21=>K (.tuple []) h21) hG) ?_
 clear hG
 rw[oG _ ny2,gj]
 refine Zr ?_
 obtain⟨t3,p3,g3⟩:∃t3 p3,aP (bI G y.fst (.cells [iv y.snd,iv tj,iv i])) x.fst=some (.cells [iv x.snd,iv t3,iv p3]):=by
  rw[aX]
  split
  ·rename_i e
   rw[e,gj]at gi
   injection gi with gi;injection gi with gi;injection gi with gi _
   rw[gi];exact⟨_,_,rfl⟩
  ·rw[oG _ nx2];exact⟨_,_,gi⟩
 refine Z1 g3 ?_
 have hp:=qY ei ej
 have hll:=GE es i j x y
 have oF:∀(b:Nat),b≠y.1→b≠x.1→aP (bI (bI G y.fst (.cells [iv y.snd,iv tj,.int .i64 i])) x.fst (.cells [iv x.snd,iv t3,.int .i64 j])) b=aP G b:=fun b h1 h2=>by rw[aX,if_neg h2,aX,if_neg h1]
 have nF:(bI (bI G y.fst (.cells [iv y.snd,iv tj,.int .i64 i])) x.fst (.cells [iv x.snd,iv t3,.int .i64 j])).aA=g.aA+32:=by rw[bC,bC,nG]
 obtain⟨d1,d2,d3⟩:=s.d
 obtain⟨⟨b1,b2⟩,⟨b3,b4⟩,b5,b6⟩:=s.b
 refine k _ ⟨?_,⟨(cs.set i (pf y)).set j (pf x),?_,?_,?_⟩,?_,fun z hz=> ?_,?_,fun z hz=>s.nq z (hp.mem_iff.1 hz),s.d,⟨⟨b1,by omega⟩,⟨b3,by omega⟩,b5,by omega⟩⟩ ⟨fun b hb=> ?_,by omega,?_⟩
 ·rw[hll,oF _ (Ne.symm ny1) (Ne.symm nx1),oG _ d1];exact s.q
 ·rw[oF _ (Ne.symm ny2) (Ne.symm nx2)];exact rG
 ·simp[c2]
 ·rw[hll,List.take_set,List.take_set,c3,←List.map_set,←List.map_set];rfl
 ·rw[hll];exact s.le
 ·obtain⟨t,pl,hg,hb1,hb2⟩:=s.ent z (hp.mem_iff.1 hz)
  have:∃t pl,aP (bI (bI G y.fst (.cells [iv y.snd,iv tj,.int .i64 i])) x.fst (.cells [iv x.snd,iv t3,.int .i64 j])) z.1=some (.cells [iv z.2,iv t,iv pl]):=by
   rw[aX]
   split
   ·rename_i e
    rw[←e,hg]at gi
    injection gi with gi;injection gi with gi;injection gi with gi _
    rw[gi];exact⟨_,_,rfl⟩
   ·rw[aX]
    split
    ·rename_i e
     rw[←e,hg]at gj
     injection gj with gj;injection gj with gj;injection gj with gj _
     rw[gj];exact⟨_,_,rfl⟩
    ·rw[oG _ (s.nq z (hp.mem_iff.1 hz)).2.1];exact⟨_,_,hg⟩
  obtain⟨t',pl',h'⟩:=this
  exact⟨t',pl',h',hb1,by omega⟩
 ·exact(hp.map Prod.fst).nodup_iff.2 s.nd
 ·rw[oF _ (fun e=>bj (e▸hb)) (fun e=>bi (e▸hb)),oG _ (fun e=>b3 (e▸hb))]
 ·rw[oF _ (Ne.symm ny3) (Ne.symm nx3),oG _ (Ne.symm d3)]
end
section
theorem JL{d:Nat}{x:cK}(h:d5 d x.net x.c)(ha:∀t∈x.net.tasks,0≤t.after∧t.after≤65536)(h0:(i3 d x).2.1=0):d5 d x.net (i3 d x).2.2.c∧(i3 d x).2.2.net=x.net:=by
 obtain⟨r1,⟨r2,r3⟩,⟨r4,r5⟩,⟨r6,r7⟩,r8⟩:=h
 unfold i3 at h0⊢
 by_cases q1:eQ d x.net x.c.m x.call.mode=0
 ·rw[if_neg (fun n=>n q1)]at h0⊢
  obtain⟨c1,c2,c3,c4⟩:=pP q1
  cases et:x.net.tasks[x.call.mode.task.toNat]? with
  |none=>rw[et]at h0;cases h0
  |some t=>
   rw[et]at h0
   simp only at h0⊢
   have hat:=ha t (aG et)
   by_cases q2:(jO t.m0 t.m1 t.m2 x.call.num).2=0
   ·rw[if_neg (fun n=>n q2)]at h0⊢
    by_cases q3:64≤(x.c.items.length:Int)
    ·rw[if_pos q3]at h0;cases h0
    ·rw[if_neg q3]at h0⊢
     by_cases q4:x.c.aA=1099511627776
     ·rw[if_pos q4]at h0;cases h0
     ·rw[if_neg q4]at h0⊢
      by_cases q5:(mX d x.net x.c.m x.call.mode).1=0
      ·rw[if_neg (fun n=>n q5)]
       refine⟨⟨JN r1 q5,⟨?_,?_⟩,⟨r4,r5⟩,⟨?_,?_⟩,fun y hy=> ?_⟩,rfl⟩
       ·show 1≤x.c.aA+1;omega
       ·show x.c.aA+1≤1099511627776;omega
       ·have ho:okI (x.c.aA+1) (rL x t):=by
         refine⟨?_,?_,(E5 q2).1,(E5 q2).2⟩
         ·show x.c.aA<x.c.aA+1;omega
         ·show 0≤(if 0<t.after then wrap64 (x.c.now+t.after)else 0)
          split
          ·have:wrap64 (x.c.now+t.after)=x.c.now+t.after:=wrap_i64 (by omega) (by omega)
           rw[this];omega
          ·exact Int.le_refl _
        show eJ (x.c.aA+1) 0 (rR x.c.items (rL x t))
        exact TU (yL (next:=x.c.aA) (by omega) (last:=0) r6) (show 0<x.c.aA by omega) ho
       ·show(rR x.c.items (rL x t)).length≤64
        rw[rV]
        have:(dZ x.c.items (rL x t).id).length≤x.c.items.length:=List.length_filter_le _ _
        omega
       ·rcases vD hy with h|h
        ·rw[h];exact⟨c2,c3⟩
        ·exact r8 y h
      ·rw[if_pos q5]at h0;exact absurd h0 q5
   ·rw[if_pos q2]at h0;exact absurd h0 q2
 ·rw[if_pos q1]at h0;exact absurd h0 q1
end
section
attribute [local irreducible] cl uE
variable{n0:Nat→Prop}{qp mb rb cap m:Nat}{g:aL}{es:List (Nat×Int)}
theorem QS.ld(s:QS n0 qp mb rb cap m g es):aJ g (.one 0) (.ptr qp 0)=some (.slice rb 0 es.length cap 2):=by
 show fO 0 (.one 0) (aP g qp)=_
 rw[s.q];rfl
theorem IP{i j:Nat}{x y:Nat×Int}(s:QS n0 qp mb rb cap m g es)(ei:es[i]?=some x)(ej:es[j]?=some y)(hes:es.length<2^40)(k:∀g',QS n0 qp mb rb cap m g' (y8 es i j x y)→QF n0 mb g g'→K (.tuple []) g'):CI (.iface 393 (.ptr qp 0)) "Swap" [iv i,iv j] g K:=
 aD5 aD3 s.ld (aOr s ei ej hes k)
theorem IQ{i j:Nat}(s:QS n0 qp mb rb cap m g es)(hi:i<es.length)(hj:j<es.length)(k:∀b,K (.bool b) g):CI (.iface 393 (.ptr qp 0)) "Less" [iv i,iv j] g K:=
 aD5 aD2 s.ld (aOt s hi hj k)
theorem XS(s:QS n0 qp mb rb cap m g es)(k:K (iv es.length) g):CI (.iface 393 (.ptr qp 0)) "Len" [] g K:=
 aD5 aIl s.ld (aOs k)
theorem aOo{i:Nat}(h:i<2^40):eZ .i64 (((i:Int)-1).tdiv 2)=(((i-1)/2:Nat):Int):=by
 have e:((i:Int)-1).tdiv 2=(((i-1)/2:Nat):Int):=by
  cases i with
  |zero=>rfl
  |succ n=>
   rw[show(((n+1:Nat):Int)-1)=(n:Int) by omega,show n+1-1=n by omega]
   rw[Int.tdiv_eq_ediv_of_nonneg (by omega)]
   omega
 rw[e]
 exact wrap_i64 (by omega) (by omega)
theorem aOp{j:Nat}(s:QS n0 qp mb rb cap m g es)(hj:j<es.length)(hes:es.length<2^40)(k:∀g' es',es'.Perm es→QS n0 qp mb rb cap m g' es'→QF n0 mb g g'→K (.tuple []) g'):C 373 [.iface 393 (.ptr qp 0),iv j] g K:=by
 refine aOG ?_
 refine cD (σ:=Nat×aL×List (Nat×Int)) (fun p=> [iv p.1,.iface 393 (.ptr qp 0)]) (fun p=>p.2.1)
  (fun p=>p.1<es.length∧p.2.2.Perm es∧QS n0 qp mb rb cap m p.2.1 p.2.2∧QF n0 mb g p.2.1) (fun p=>p.1) ?_ (j,g,es) ⟨hj,.refl _,s,.refl⟩ (A:=XW) (cur:=0)
 rintro⟨i,G,l⟩ ⟨hi,hp,hs,hf⟩
 simp only at hi hp hs hf
 have hl:=hp.length_eq
 refine aEc ?_
 refine pC (by omega) (by omega) ?_
 rw[WR _ (by omega),aOo (by omega)]
 refine Zr ?_
 refine⟨fun q=> ?_,fun q=> ?_⟩
 ·exact⟨rfl,k G l hp hs hf⟩
 ·have hi0:(i-1)/2<i:=by omega
  refine IQ hs (by omega) (by omega) fun b=> ?_
  cases b with
  |false=>
   refine Zr ?_
   exact⟨rfl,k G l hp hs hf⟩
  |true=>
   refine Zr ?_
   have e1:=aC (show(i-1)/2<l.length by omega)
   have e2:=aC (show i<l.length by omega)
   refine IP hs e1 e2 (by omega) fun G' hs' hf'=> ?_
   exact⟨rfl,((i-1)/2,G',_),⟨by omega,(qY e1 e2).trans hp,hs',hf.trans hf'⟩,hi0,rfl,rfl⟩
theorem TB{α:Type}{l:List α}{i j n:Nat}{x y:α}(hi:i<n)(hj:j<n):(y8 l i j x y)[n]?=l[n]?:=by
 unfold y8
 rw[List.getElem?_set_ne (by omega),List.getElem?_set_ne (by omega)]
theorem aOq{i n1:Nat}(s:QS n0 qp mb rb cap m g es)(hi:i<es.length)(hn:n1≤es.length)(hes:es.length<2^40)
  (k:∀g' es' b,es'.Perm es→(∀j,n1≤j→es'[j]?=es[j]?)→QS n0 qp mb rb cap m g' es'→QF n0 mb g g'→K (.bool b) g'):C 374 [.iface 393 (.ptr qp 0),iv i,iv n1] g K:=by
 refine aOH ?_
 refine cD (σ:=Nat×aL×List (Nat×Int)) (fun p=> [iv p.1,iv n1,iv i,.iface 393 (.ptr qp 0)]) (fun p=>p.2.1)
  (fun p=>p.1<es.length∧p.2.2.Perm es∧(∀j,n1≤j→p.2.2[j]?=es[j]?)∧QS n0 qp mb rb cap m p.2.1 p.2.2∧QF n0 mb g p.2.1) (fun p=>es.length-p.1) ?_ (i,g,es) ⟨hi,.refl _,fun j _=>rfl,s,.refl⟩ (A:=XY) (cur:=0)
 rintro⟨c,G,l⟩ ⟨hc,hp,hk,hs,hf⟩
 simp only at hc hp hk hs hf
 have hl:=hp.length_eq
 refine aEd ?_
 refine aGJ (by omega) (by omega) ?_
 refine bT (by omega) (by omega) ?_
 refine Zr ?_
 rw[show(2*(c:Int)+1)=((2*c+1:Nat):Int) by omega]
 have out:aQ (AV.iface 393 (AV.ptr qp 0))=true∧((i:Int)<c→K (.bool true) G)∧(¬(i:Int)<c→K (.bool false) G):=⟨rfl,fun _=>k G l _ hp hk hs hf,fun _=>k G l _ hp hk hs hf⟩
 refine⟨fun q=>out,fun q=>⟨fun q2=>by omega,fun _=> ?_⟩⟩
 have fin:∀j:Nat,c<j→j<n1→CI (.iface 393 (.ptr qp 0)) "Less" [iv j,iv c] G fun v36 h37=>
   RO (gS .not v36) fun v38=>cB v38 (aQ (AV.iface 393 (AV.ptr qp 0))=true∧((i:Int)<c→K (.bool true) h37)∧(¬(i:Int)<c→K (.bool false) h37))
    (CI (.iface 393 (.ptr qp 0)) "Swap" [iv c,iv j] h37 fun v39 h40=>aQ (AV.iface 393 (AV.ptr qp 0))=true∧∃s':Nat×aL×List (Nat×Int),(s'.fst<es.length∧s'.snd.snd.Perm es∧(∀(j:Nat),n1≤j→s'.snd.snd[j]?=es[j]?)∧QS n0 qp mb rb cap m s'.snd.fst s'.snd.snd∧QF n0 mb g s'.snd.fst)∧
      es.length-s'.fst<es.length-c∧[iv j,iv n1,iv i,AV.iface 393 (.ptr qp 0)]= [iv s'.fst,iv n1,iv i,.iface 393 (.ptr qp 0)]∧h40=s'.snd.fst):=by
  intro j hcj hjn
  refine IQ hs (by omega) (by omega) fun b=> ?_
  cases b with
  |false=>refine Zr ?_;exact out
  |true=>
   refine Zr ?_
   have e1:=aC (show c<l.length by omega)
   have e2:=aC (show j<l.length by omega)
   refine IP hs e1 e2 (by omega) fun G' hs' hf'=> ?_
   exact⟨rfl,(j,G',_),⟨by omega,(qY e1 e2).trans hp,fun j2 h2=>(TB (by omega) (by omega)).trans (hk j2 h2),hs',hf.trans hf'⟩,by show es.length-j<_;omega,rfl,rfl⟩
 refine bT (by omega) (by omega) ?_
 rw[show(((2*c+1:Nat):Int)+1)=((2*c+2:Nat):Int) by omega]
 refine Zr ?_
 refine⟨fun q3=>IQ hs (by omega) (by omega) fun b=> ?_,fun _=>fin _ (by omega) (by omega)⟩
 cases b with
 |false=>refine Zr ?_;exact fin _ (by omega) (by omega)
 |true=>refine Zr ?_;exact fin _ (by omega) (by omega)
end
section
theorem mW{d:Nat}{how:Mark→Mode→Int×Mark}{x:cK}{i:Item}(h:d5 d x.net x.c)(hh:(how x.c.m i.mode).1=0→eX x.net (how x.c.m i.mode).2)(h0:(fU how x i).1=0):d5 d x.net (fU how x i).2.c∧(fU how x i).2.net=x.net:=by
 obtain⟨r1,r2,r4,⟨r6,r7⟩,r8⟩:=h
 unfold fU at h0⊢
 by_cases q:(how x.c.m i.mode).1=0
 ·rw[if_neg (fun n=>n q)]
  refine⟨⟨hh q,r2,r4,⟨zJ r6,?_⟩,fun y hy=>r8 y (List.mem_filter.1 hy).1⟩,rfl⟩
  show(dZ x.c.items i.id).length≤64
  have:(dZ x.c.items i.id).length≤x.c.items.length:=List.length_filter_le _ _
  omega
 ·rw[if_pos q]at h0;exact absurd h0 q
theorem JJ{x:cK}(h:(dP x).2=0):(dP x).1∈x.c.items∧(dP x).1.id=x.call.id:=by
 have bad:¬(if 0<x.call.id∧x.call.id<x.c.aA then(12:Int)else 3)=0:=by split<;>omega
 unfold dP at h⊢
 split at h
 ·rename_i i e
  split at h
  ·rename_i q
   rw[if_pos q]
   refine⟨aG e,?_⟩
   obtain⟨j,z,e1,e2,e3,_⟩:=tY q
   rw[e1]at e
   have:j=((j:Nat):Int).toNat:=by omega
   rw[←this,e2]at e
   cases e;exact e3
  ·exact absurd h bad
 ·exact absurd h bad
theorem GJ{d:Nat}{x:cK}(h:d5 d x.net x.c)(h0:(iT d x).2.1=0):d5 d x.net (iT d x).2.2.c∧(iT d x).2.2.net=x.net:=by
 unfold iT at h0⊢
 by_cases q:(dP x).2=0
 ·rw[if_neg (fun n=>n q)]at h0⊢
  exact mW h (fun e=>n8 h.1 e) h0
 ·rw[if_pos q]at h0;exact absurd h0 q
theorem JK:∀{l:List Item} {id:Int},(∃y∈l,y.id=id)→(dZ l id).length<l.length
 | [],id,h=>by obtain⟨y,hy,_⟩:=h;cases hy
 |a::l,id,h=>by
  unfold dZ
  rw[List.filter_cons]
  split
  ·rename_i q
   have hne:¬a.id=id:=by simpa using q
   obtain⟨y,hy,e⟩:=h
   rcases List.mem_cons.1 hy with hy|hy
   ·rw[hy]at e;exact absurd e hne
   ·have:=JK (id:=id) ⟨y,hy,e⟩
    unfold dZ at this
    simp only[List.length_cons];omega
  ·have:(l.filter fun x=>decide (¬x.id=id)).length≤l.length:=List.length_filter_le _ _
   simp only[List.length_cons];omega
theorem RB{d:Nat}{x:cK}{i j:Item}(h:d5 d x.net x.c)(hi:i∈x.c.items)(hid:j.id=i.id)(hmo:j.mode=i.mode)(htil:j.til=i.til)(hb:sW j.batch)(hbo:¬nV j.batch):d5 d x.net (x.its (rR x.c.items j)).c:=by
 obtain⟨r1,r2,r4,⟨r6,r7⟩,r8⟩:=h
 have g:=xA r6 i hi
 refine⟨r1,r2,r4,⟨TU r6 (by rw[hid];exact g.1) ⟨by rw[hid];exact g.2.1,by rw[htil];exact g.2.2.1,hb,hbo⟩,?_⟩,fun y hy=> ?_⟩
 ·show(rR x.c.items j).length≤64
  rw[rV]
  have:=JK (id:=j.id) ⟨i,hi,hid.symm⟩
  omega
 ·rcases vD hy with h|h
  ·rw[h,hmo];exact r8 i hi
  ·exact r8 y h
end
section
attribute [local irreducible] cl uE
variable{n0:Nat→Prop}{qp mb rb cap m:Nat}{g:aL}{es:List (Nat×Int)}
theorem aD0{v:AV}{len:Nat}(hq:aP g qp=some (.cells [v,.map mb]))(hv:∀h,bO .sl [v] h= .ok (iv len) h)(k:K (iv len) g):C 300 [.ptr qp 0] g K:=by
 refine aOD ?_
 refine Z1 hq ?_
 rw[hv]
 refine Zr ?_
 exact k
theorem QS.len(s:QS n0 qp mb rb cap m g es)(h:aL):bO .sl [.slice rb 0 es.length cap 2] h= .ok (iv es.length) h:=rfl
theorem aOm(s:QS n0 qp mb rb cap m g es)(hes:es.length<2^40)(k1:es= []→K (.tuple [iv 0,iv 0,.bool false]) g)(k2:∀x t,es[0]?=some x→K (.tuple [iv x.2,iv t,.bool true]) g):C 302 [.ptr qp 0] g K:=by
 refine bG (aIp ?_)
 refine aD0 s.q s.len ?_
 refine Zr ?_
 refine⟨fun q=> ?_,fun q=> ?_⟩
 ·have:es= []:=List.length_eq_zero_iff.1 (by omega)
  exact bA (bW.refl _ _) rfl (k1 this)
 ·obtain⟨cs,c1,c2,c3⟩:=s.row
  have h0:0<es.length:=by omega
  have e0:=aC h0
  have n0':=yJ c3 e0
  obtain⟨t,pl,gi,_⟩:=s.ent _ (aG e0)
  have x0:=sX (rb:=rb) (cap:=cap) h0
  have hq:=s.q
  simp only[go_sem,reduceAdd,reduceMul,reduceSub,aa,reduceEqDiff,reduceLT,hq,x0,c1,n0',gi]
  exact bA (bW.refl _ _) rfl (k2 _ _ e0)
theorem aD1{b n i cap:Nat}(hi:i≤cap):iQ none (some (iv i)) none (.slice b 0 n cap 2) (.sl 1)=some (.slice b 0 i cap 2):=by
 show(bif Nat.beq 2 0||Nat.beq 2 (1+1)then iD b 0 cap 1 2 (nN 0 i cap)else none)=_
 have h2:nN 0 i cap=some (0,i):=by
  show(bif Nat.ble i cap&&Nat.ble 0 i then some (0,i)else none)=_
  rw[show Nat.ble i cap=true from ble_eq.2 hi,show Nat.ble 0 i=true from ble_eq.2 (aH _)];rfl
 rw[h2]
 show some (AV.slice b (0+Nat.mul 0 1) (i-0) (cap-0) 2)=_
 rfl
theorem aOn{x:Nat×Int}(s:QS n0 qp mb rb cap m g (es++ [x]))(hes:es.length<2^40)(k:∀g',QS n0 qp mb rb cap m g' es→QF n0 mb g g'→K (.iface 389 (.ptr x.1 0)) g'):C 496 [.ptr qp 0] g K:=by
 refine aOz ?_
 obtain⟨cs,c1,c2,c3⟩:=s.row
 have hl:(es++ [x]).length=es.length+1:=by simp
 have hle:=s.le
 have hq:=s.q
 rw[hl]at hle hq c3
 have nx:=yJ (es:=es++ [x]) (cs:=cs) (by rw[hl];exact c3) (i:=es.length) (x:=x) (by simp)
 have xi:=sX (rb:=rb) (cap:=cap) (i:=es.length) (len:=es.length+1) (by omega)
 have hsl:=aD1 (b:=rb) (n:=es.length+1) (i:=es.length) (cap:=cap) (by omega)
 refine Z1 hq ?_
 refine pC (by omega) (by omega) ?_
 rw[show(((es.length+1:Nat):Int)-1)=(es.length:Int) by omega,show bB (iv (es.length:Int))=some es.length from rfl]
 refine Z3 xi c1 nx ?_
 refine pC (by omega) (by omega) ?_
 rw[show(((es.length+1:Nat):Int)-1)=(es.length:Int) by omega]
 refine Z2 hsl hq ?_
 refine⟨rfl,?_⟩
 obtain⟨d1,d2,d3⟩:=s.d
 have hsub:∀z∈es,z∈es++ [x]:=fun z hz=>List.mem_append_left _ hz
 obtain⟨⟨b1,b2⟩,⟨b3,b4⟩,b5,b6⟩:=s.b
 obtain⟨G,hG⟩:∃G,G=bI (up (up g 11) 12) qp (.cells [.slice rb 0 es.length cap 2,.map mb]):=⟨_,rfl⟩
 have nG:G.aA=g.aA+23:=by rw[hG,bC,cW,cW]
 have oG:∀b,b≠qp→aP G b=aP g b:=fun b hb=>by rw[hG,aX,if_neg hb,cM,cM]
 have qG:aP G qp=some (.cells [.slice rb 0 es.length cap 2,.map mb]):=by rw[hG];exact aU _ _ _
 rw[←hG]
 refine k _ ⟨qG,⟨cs,by rw[oG _ (Ne.symm d1)];exact c1,c2,?_⟩,⟨by omega,by omega⟩,fun z hz=> ?_,?_,fun z hz=>s.nq z (hsub z hz),s.d,⟨⟨b1,by omega⟩,⟨b3,by omega⟩,b5,by omega⟩⟩ ⟨fun b hb=>oG b (fun e=>b1 (e▸hb)),by omega,oG _ (Ne.symm d2)⟩
 ·have:=congrArg (List.take es.length) c3
  rw[List.take_take,Nat.min_eq_left (by omega)]at this
  rw[this,List.map_append,List.take_append_of_le_length (by rw[List.length_map];exact aE _),List.take_of_length_le (by rw[List.length_map];exact aE _)]
 ·obtain⟨t,pl,h1,h2,h3⟩:=s.ent z (hsub z hz)
  exact⟨t,pl,by rw[oG _ (s.nq z (hsub z hz)).1];exact h1,h2,by omega⟩
 ·have:=s.nd
  rw[List.map_append]at this
  exact(List.nodup_append.1 this).1
end
section
theorem tF{a b c d e:Int}(h1:0≤c)(h2:0≤d)(h3:0≤e)(h4:c+d+e≤1000):yG ⟨a,b,c,d,e⟩=c+d+e:=by
 unfold yG
 show wrap64 (wrap64 (c+d)+e)=_
 rw[rU (n:=c+d) (by omega) (by omega),rU (n:=c+d+e) (by omega) (by omega)]
theorem RA{b:dS}{w:Int}(h:sW b)(ho:¬nV b)(hc:w=0→¬yG b=b.most):sW (XL b w):=by
 obtain⟨mo,en,op,dn,fa⟩:=b
 have h':=h
 obtain⟨⟨b1,b2⟩,⟨b3,b4⟩,⟨b5,b6⟩,⟨b7,b8⟩,⟨b9,b10⟩,b11,b12⟩:=h
 simp only at b1 b2 b3 b4 b5 b6 b7 b8 b9 b10
 rw[tF (by omega) (by omega) (by omega) (by omega)]at b11 b12 hc
 simp only at b12 hc
 have hop:¬op=0:=fun e=>ho ⟨h',.inr e⟩
 unfold XL
 split
 ·rename_i e
  have hc:=hc e
  refine⟨⟨b1,b2⟩,⟨b3,b4⟩,⟨by show 0≤op+1;omega,by show op+1≤mo;omega⟩,⟨b7,b8⟩,⟨b9,b10⟩,?_⟩
  rw[show yG {most:=mo,enough:=en,opn:=op+1,done:=dn,failed:=fa}=op+1+dn+fa from tF (by omega) (by omega) (by omega) (by omega)]
  exact⟨by omega,by show op+1+dn+fa≤mo;omega⟩
 ·split
  ·refine⟨⟨b1,b2⟩,⟨b3,b4⟩,⟨by show 0≤op-1;omega,by show op-1≤mo;omega⟩,⟨by show 0≤dn+1;omega,by show dn+1≤mo;omega⟩,⟨b9,b10⟩,?_⟩
   rw[show yG {most:=mo,enough:=en,opn:=op-1,done:=dn+1,failed:=fa}=op-1+(dn+1)+fa from tF (by omega) (by omega) (by omega) (by omega)]
   exact⟨by omega,by show op-1+(dn+1)+fa≤mo;omega⟩
  ·refine⟨⟨b1,b2⟩,⟨b3,b4⟩,⟨by show 0≤op-1;omega,by show op-1≤mo;omega⟩,⟨b7,b8⟩,⟨by show 0≤fa+1;omega,by show fa+1≤mo;omega⟩,?_⟩
   rw[show yG {most:=mo,enough:=en,opn:=op-1,done:=dn,failed:=fa+1}=op-1+dn+(fa+1)from tF (by omega) (by omega) (by omega) (by omega)]
   exact⟨by omega,by show op-1+dn+(fa+1)≤mo;omega⟩
theorem wZ{b:dS}{w:Int}(h:(oN b w).2=0):sW (oN b w).1:=by
 unfold oN at h⊢
 by_cases q1:sW b
 ·rw[if_neg (fun n=>n q1)]at h⊢
  by_cases q2:nV b
  ·rw[if_pos q2]at h;cases h
  ·rw[if_neg q2]at h⊢
   by_cases q3:w=0∧yG b=b.most
   ·rw[if_pos q3]at h;cases h
   ·rw[if_neg q3]
    exact RA q1 q2 (fun e n=>q3 ⟨e,n⟩)
 ·rw[if_pos q1]at h;cases h
theorem MW{x:cK}{b:dS}(h:(iK x b).2=0):sW (iK x b).1:=by
 unfold iK at h⊢
 split
 ·rename_i q;rw[if_pos q]at h;exact wZ h
 ·rename_i q
  rw[if_neg q]at h
  split
  ·rename_i q2;rw[if_pos q2]at h;exact wZ h
  ·rename_i q2;rw[if_neg q2]at h;exact wZ h
theorem BQ{d:Nat}{x:cK}(h:d5 d x.net x.c)(h0:(fH d x).2.1=0):d5 d x.net (fH d x).2.2.c∧(fH d x).2.2.net=x.net:=by
 unfold fH at h0⊢
 by_cases q:(dP x).2=0
 ·rw[if_neg (fun n=>n q)]at h0⊢
  by_cases q2:(iK x (dP x).1.batch).2=0
  ·rw[if_neg (fun n=>n q2)]at h0⊢
   have hb:=MW q2
   obtain⟨i,hi⟩:∃i:Item,i=⟨(dP x).1.id,(dP x).1.mode,(iK x (dP x).1.batch).1,(dP x).1.til⟩:=⟨_,rfl⟩
   rw[←hi]at h0⊢
   unfold aAQ at h0⊢
   by_cases q3:nV i.batch
   ·rw[if_neg (fun n=>n q3)]at h0⊢
    by_cases q4:F9 i.batch
    ·rw[if_pos q4]at h0⊢
     exact mW h (fun e=>JO h.1 e) h0
    ·rw[if_neg q4]at h0⊢
     exact mW h (fun e=>n8 h.1 e) h0
   ·rw[if_pos q3]
    refine⟨RB h (JJ q).1 (by rw[hi]) (by rw[hi]) (by rw[hi]) (by rw[hi];exact hb) q3,rfl⟩
  ·rw[if_pos q2]at h0;exact absurd h0 q2
 ·rw[if_pos q]at h0;exact absurd h0 q
end
section
attribute [local irreducible] cl uE
variable{n0:Nat→Prop}{qp mb rb cap m:Nat}{g:aL}{es:List (Nat×Int)}
theorem aOl{x:Nat×Int}(s:QS n0 qp mb rb cap m g es)(e0:es[0]?=some x)(hes:es.length<2^40)(k:∀g' es' v,(x::es').Perm es→QS n0 qp mb rb cap m g' es'→QF n0 mb g g'→aQ v=true→K v g'):C 303 [.iface 393 (.ptr qp 0)] g K:=by
 refine aOF ?_
 refine XS s ?_
 have h0:=(aD.1 e0).1
 refine pC (by omega) (by omega) ?_
 rw[show((es.length:Int)-1)=((es.length-1:Nat):Int) by omega]
 have e1:=aC (show es.length-1<es.length by omega)
 refine IP (i:=0) s e0 e1 hes fun G1 s1 f1=> ?_
 have hll:=GE es 0 (es.length-1) x es[es.length-1]
 refine aOq (i:=0) (n1:=es.length-1) s1 (by omega) (by omega) (by omega) fun G2 l b p2 k2 s2 f2=> ?_
 have hl2:=p2.length_eq
 have hlast:l[es.length-1]?=some x:=by
  rw[k2 _ (aE _)]
  unfold y8
  rw[List.getElem?_set_self (by simp;omega)]
 have hsplit:l=l.dropLast++ [x]:=by
  have hne:l≠[]:=fun e=>by rw[e]at hlast;simp at hlast
  have:=List.dropLast_concat_getLast hne
  rw[List.getLast_eq_getElem]at this
  have hx:l[l.length-1]'(by cases l with|nil=>exact absurd rfl hne|cons=>simp)=x:=by
   have e:=hlast
   rw[show es.length-1=l.length-1 by omega]at e
   exact(aD.1 e).2
  rw[hx]at this
  exact this.symm
 rw[hsplit]at s2
 refine aIn aIm (aOn s2 (by simp;omega) fun G3 s3 f3=> ?_)
 refine⟨rfl,k G3 _ _ ?_ s3 (f1.trans (f2.trans f3)) rfl⟩
 have p1:(x::l.dropLast).Perm l:=by
  conv=>rhs;rw[hsplit]
  exact(List.perm_append_comm (l₁:= [x]) (l₂:=l.dropLast))
 exact p1.trans (p2.trans (qY e0 e1))
end
section
theorem MV{d:Nat}{n:dL}{m:Mark}{o:Mode}(hm:eX n m)(h:eQ d n m o=0):(mX d n m o).1=0:=by
 obtain⟨c1,c2,c3,c4⟩:=pP h
 unfold mX
 rw[if_neg (fun q=>q h),if_neg (fun q=>q c2)]
 refine BV fun i a b ea eb=> ?_
 obtain⟨p,_,h1⟩:=BT hm ea
 obtain⟨p2,_,h2⟩:=BT (pQ c2) eb
 have hw:=c4.2 i b a eb ea
 exact MY h1.1 h2.1 hw.2.2
theorem JI{m0 m1 m2:Int}(h:(m0=0∧m1=0∧m2=0)∨(1≤m0∧m0≤m1∧m1≤16∧1≤m2∧m2≤m1)):(jO m0 m1 m2 (max m0 1)).2=0:=by
 unfold jO
 rcases h with h|h
 ·simp only[if_pos h]
  rw[if_pos (by omega)]
 ·simp only[if_neg (show¬(m0=0∧m1=0∧m2=0) by omega)]
  rw[if_pos (by omega)]
def uG(n:dL):Prop:=∀t∈n.tasks,(0≤t.after∧t.after≤65536)∧((t.m0=0∧t.m1=0∧t.m2=0)∨(1≤t.m0∧t.m0≤t.m1∧t.m1≤16∧1≤t.m2∧t.m2≤t.m1))
theorem TQ{d:Nat}{x:cK}{t:Task}(h:d5 d x.net x.c)(hk:uG x.net)(hc:eQ d x.net x.c.m x.call.mode=0)(ht:x.net.tasks[x.call.mode.task.toNat]?=some t)(hn:x.call.num=max t.m0 1)(hl:x.c.items.length<64)(hnx:x.c.aA<1099511627776):
  i3 d x=(⟨0,x.c.aA,[]⟩,0,((x.mk_ (mX d x.net x.c.m x.call.mode).2).its (rR x.c.items (rL x t))).nx (x.c.aA+1)):=by
 unfold i3
 rw[if_neg (fun q=>q hc),ht]
 simp only
 rw[if_neg (fun q=>q (by rw[hn];exact JI (hk t (aG ht)).2)),if_neg (by omega),if_neg (by omega),if_neg (fun q=>q (MV h.1 hc))]
theorem Y9{l:List Item}{x:Item}{next:Int}(h:eJ next 0 l)(hx:next≤x.id):(rR l x).length=l.length+1:=by
 rw[rV]
 have:dZ l x.id=l:=by
  unfold dZ
  rw[List.filter_eq_self]
  intro y hy
  have:=(xA h y hy).2.1
  exact decide_eq_true (by omega)
 rw[this]
end
section
attribute [local irreducible] cl uE
variable{n0:Nat→Prop}{qp mb rb cap m:Nat}{g:aL}{es:List (Nat×Int)}
inductive QA(n0:Nat→Prop)(qp mb:Nat)(g:aL):List (Nat×Int)→Prop
 |nil:aP g qp=some (.cells [.aB,.map mb])→¬n0 qp→qp<g.aA→¬n0 mb→mb<g.aA→qp≠mb→QA n0 qp mb g []
 |row {l:List (Nat×Int)} (rb:Nat):l≠[]→QS n0 qp mb rb l.length l.length g l→QA n0 qp mb g l
theorem aOk{e:Nat}{id t pl:Int}(s:QA n0 qp mb g es)(he:aP g e=some (.cells [iv id,iv t,iv pl]))(hP:∀b,n0 b→b<g.aA)(hn:¬n0 e)(hen:e<g.aA)(heq:e≠qp)(hem:e≠mb)(hnew:∀rb,QS n0 qp mb rb es.length es.length g es→e≠rb∧¬e∈es.map Prod.fst)(hes:es.length<2^20)
  (k:∀g',QA n0 qp mb g' (es++ [(e,id)])→QF n0 mb g g'→K (.tuple []) g'):C 497 [.ptr qp 0,.iface 389 (.ptr e 0)] g K:=by
 refine aOA ?_
 rw[show wF (some 389) false (.iface 389 (.ptr e 0))=some (.ptr e 0)from rfl]
 have hq:∃v,aP g qp=some (.cells [v,.map mb])∧dG 0 1 fq g v es∧(∀c,gO v c→c≠e∧c≠qp∧c≠mb∧¬n0 c):=by
  cases s with
  |nil h1 h2 h3 h4 h5 h6=>exact⟨_,h1,.aB,fun c hc=>hc.elim⟩
  |row rb h1 h2=>
   obtain⟨cs,c1,c2,c3⟩:=h2.row
   obtain⟨d1,d2,d3⟩:=h2.d
   refine⟨_,h2.q,.row (aH _) h2.b.2.1.2 ?_,fun c hc=> ?_⟩
   ·rw[c1,OZ,←c3,List.take_of_length_le (by omega)]
   ·have:c=rb:=hc
    subst this
    exact⟨Ne.symm (hnew _ h2).1,Ne.symm d1,d3,h2.b.2.1.1⟩
 obtain⟨v,q1,q2,q3⟩:=hq
 have hb:(¬n0 qp∧qp<g.aA)∧(¬n0 mb∧mb<g.aA)∧qp≠mb:=by
  cases s with
  |nil h1 h2 h3 h4 h5 h6=>exact⟨⟨h2,h3⟩,⟨h4,h5⟩,h6⟩
  |row rb h1 h2=>exact⟨h2.b.1,h2.b.2.2,h2.d.2.1⟩
 have hent:∀z∈es,∃t pl,aP g z.1=some (.cells [iv z.2,iv t,iv pl])∧¬n0 z.1∧z.1<g.aA∧z.1≠qp∧z.1≠mb∧z.1≠e∧¬gO v z.1:=by
  cases s with
  |nil h1 h2 h3 h4 h5 h6=>intro z hz;cases hz
  |row rb h1 h2=>
   intro z hz
   obtain⟨t,pl,a1,a2,a3⟩:=h2.ent z hz
   obtain⟨c1,c2,c3⟩:=h2.nq z hz
   refine⟨t,pl,a1,a2,a3,c1,c3,fun e'=>(hnew _ h2).2 (List.mem_map.2 ⟨z,hz,e'⟩),fun hc=> ?_⟩
   have e2:=h2.q
   rw[q1]at e2
   injection e2 with e2;injection e2 with e2;injection e2 with e2 _
   rw[e2]at hc
   exact c2 hc
 have hnd:(es.map Prod.fst).Nodup∧¬e∈es.map Prod.fst:=by
  cases s with
  |nil h1 h2 h3 h4 h5 h6=>exact⟨by simp,by simp⟩
  |row rb h1 h2=>exact⟨h2.nd,(hnew _ h2).2⟩
 simp only[go_sem,reduceAdd,reduceMul,reduceSub,aa,reduceEqDiff,reduceLT,q1]
 rw[q2.len]
 have e1:(qp=e)=False:=eq_false (Ne.symm heq)
 simp only[go_sem,reduceAdd,reduceMul,reduceSub,aa,reduceEqDiff,reduceLT,he,q1,e1]
 obtain⟨⟨b1,b2⟩,⟨b3,b4⟩,b5⟩:=hb
 obtain⟨G,hG⟩:∃G,G=nw (bI g e (.cells [iv id,iv t,.int .i64 es.length])) (.cells [.ptr e 0]):=⟨_,rfl⟩
 rw[←hG]
 have nG:G.aA=g.aA+1:=by rw[hG,aT,bC]
 have oG:∀b,b<g.aA→b≠e→aP G b=aP g b:=fun b h1 h2=>by rw[hG,bF,if_neg (by rw[bC];omega),aX,if_neg h2]
 have eG:aP G e=some (.cells [iv id,iv t,iv es.length]):=by rw[hG,bF,if_neg (by rw[bC];omega)];exact aU _ _ _
 have xG:aP G g.aA=some (.cells [.ptr e 0]):=by rw[hG,bF,if_pos (by rw[bC])]
 clear hG
 have hO:=q2.mono (h':=G) (by omega) (fun b hb=>oG b (q2.own hb).2 (q3 b hb).1)
 obtain⟨v2,g5,a1,a2,a3,a4,a5,a6⟩:=hO.app (xs:= [(e,id)]) (x:= .slice g.aA 0 1 1 0) (fun _=>rfl) (by omega) (fun y _=>rfl) (by simp) rfl (iE (l:= [.ptr e 0]) xG rfl) (by simp;omega)
 have o5:∀b,b<g.aA→¬gO v b→b≠e→aP g5 b=aP g b:=fun b h1 h2 h3=>by rw[a4 b (by omega) h2,oG b h1 h3]
 have q5:aP g5 qp=some (.cells [v,.map mb]):=by rw[o5 _ b2 (fun hc=>(q3 _ hc).2.1 rfl) (Ne.symm heq)];exact q1
 refine Z1 a1 ?_
 rw[a2.cells]
 simp only[go_sem,reduceAdd,reduceMul,reduceSub,aa,reduceEqDiff,reduceLT,q5,a2.all1]
 have hlen:(es++ [(e,id)]).length=es.length+1:=by simp
 obtain⟨L,hL⟩:∃L,L=es++ [(e,id)]:=⟨_,rfl⟩
 rw[←hL]at a2 k hlen
 cases a2 with
 |aB=>simp at hL
 |row h1 h2 h3=>
  rename_i rb
  have hrb:rb=G.aA:=a6 rb rfl
  have oF:∀b,b≠qp→aP (bI g5 qp (.cells [.slice rb 0 L.length L.length (1+1),.map mb])) b=aP g5 b:=fun b hb=>by rw[aX,if_neg hb]
  have nF:(bI g5 qp (.cells [.slice rb 0 L.length L.length (1+1),.map mb])).aA=g.aA+2:=by rw[bC];omega
  have e5:aP g5 e=some (.cells [iv id,iv t,iv es.length]):=by rw[a4 e (by omega) (fun hc=>(q3 _ hc).1 rfl)];exact eG
  refine k _ (.row rb (by rw[hL];simp) ⟨aU _ _ _,⟨_,by rw[oF _ (by omega)];exact h3,by rw[OZ];simp,by rw[OZ,List.take_of_length_le (by simp)]⟩,⟨aE _,aE _⟩,fun z hz=> ?_,?_,fun z hz=> ?_,⟨by omega,b5,by omega⟩,⟨⟨b1,by omega⟩,⟨fun hh=>by have:=hP _ hh;omega,by omega⟩,b3,by omega⟩⟩) ⟨fun b hb=> ?_,by omega,?_⟩
  ·rw[hL]at hz
   rcases List.mem_append.1 hz with hz|hz
   ·obtain⟨t',pl',z1,z2,z3,z4,z5,z6,z7⟩:=hent z hz
    exact⟨t',pl',by rw[oF _ z4,o5 _ z3 z7 z6];exact z1,z2,by omega⟩
   ·rw[List.mem_singleton.1 hz]
    exact⟨t,es.length,by rw[oF _ heq];exact e5,hn,by show e<_;omega⟩
  ·rw[hL,List.map_append]
   exact List.nodup_append.2 ⟨hnd.1,by simp,fun a ha b hb=>by
    have:b=e:=by simpa using hb
    rw[this];rintro rfl;exact hnd.2 ha⟩
  ·rw[hL]at hz
   rcases List.mem_append.1 hz with hz|hz
   ·obtain⟨t',pl',z1,z2,z3,z4,z5,z6,z7⟩:=hent z hz
    exact⟨z4,by omega,z5⟩
   ·rw[List.mem_singleton.1 hz]
    exact⟨heq,by show e≠rb;omega,hem⟩
  ·rw[oF _ (fun e=>b1 (e▸hb)),o5 b (hP b hb) (fun hc=>(q3 _ hc).2.2.2 hb) (fun e=>hn (e▸hb))]
  ·rw[oF _ (Ne.symm b5),o5 _ b4 (fun hc=>(q3 _ hc).2.2.1 rfl) (Ne.symm hem)]
end
section
theorem TO{l:List cC}{k x y:Int}(h:M2 l k x=some y):0≤x∧x<fD l k:=by
 unfold M2 at h
 split at h
 ·rename_i q;exact q
 ·cases h
theorem JG{n:dL}:∀{vs:List EM} {xs l:List Int},CB n vs xs=some l→∀(i:Nat) v x,vs[i]?=some v→xs[i]?=some x→0≤x∧x<fD n.colours v.colour
 | [],xs,l,h=>fun i v x e=>by cases e
 |v::vs,[],l,h=>fun i v x _ e=>by cases e
 |v::vs,x::xs,l,h=>fun i v' x' e1 e2=>by
  unfold CB at h
  split at h
  ·rename_i y hy
   cases i with
   |zero=>cases e1;cases e2;exact TO hy
   |succ i=>
    cases hl:CB n vs xs with
    |none=>rw[hl]at h;cases h
    |some l'=>exact JG hl i v' x' (by simpa using e1) (by simpa using e2)
  ·cases h
theorem TP{n:dL}{task:Int}{vars:List Int}{t:Task}(h:(hY n task vars).1=0)(ht:n.tasks[task.toNat]?=some t):vars∈fM (iS n t):=by
 unfold hY at h
 split at h
 ·cases h
 ·rw[ht]at h
  simp only at h
  split at h
  ·cases h
  ·rename_i q
   have q:=Classical.byContradiction q
   split at h
   ·rename_i l el
    refine L6 ⟨by unfold iS;rw[List.length_map];exact q,fun i s x es ex=> ?_⟩
    unfold iS at es
    rw[List.getElem?_map]at es
    cases ev:t.vars[i]? with
    |none=>rw[ev]at es;cases es
    |some v=>rw[ev]at es;cases es;exact JG el i v x ev ex
   ·cases h
theorem JH{d:Nat}{n:dL}{m:Mark}{most:Int}(k:Nat):∀j,allM d n m most k<+:allM d n m most (k+j)
 |0=>List.prefix_rfl
 |j+1=>(JH k j).trans (List.prefix_append _ _)
theorem Y8{d:Nat}{n:dL}{m:Mark}{o:Mode}{most:Int}(h:eQ d n m o=0)(hfew:((allM d n m most n.tasks.length).length:Int)<most):o∈allM d n m most n.tasks.length:=by
 have henv:=(pP h).1
 obtain⟨h0,h1,t,ht⟩:=n9 henv
 have hk:o.task.toNat+1≤n.tasks.length:=by omega
 obtain⟨j,hj⟩:∃j,n.tasks.length=o.task.toNat+1+j:=⟨n.tasks.length-(o.task.toNat+1),by omega⟩
 have hp:=JH (d:=d) (n:=n) (m:=m) (most:=most) (o.task.toNat+1) j
 rw[←hj]at hp
 refine hp.subset ?_
 have hlen:=hp.length_le
 have un:allM d n m most (o.task.toNat+1)=allM d n m most o.task.toNat++oT d n m ((o.task.toNat:Nat):Int) (most-(allM d n m most o.task.toNat).length):=rfl
 rw[un]at hlen⊢
 refine List.mem_append_right _ ?_
 have e0:((o.task.toNat:Nat):Int)=o.task:=by omega
 rw[List.length_append,e0]at hlen
 rw[e0]
 unfold oT at hlen⊢
 rw[if_neg (by omega),ht]at hlen⊢
 simp only at hlen⊢
 rw[List.length_take]at hlen
 rw[List.take_of_length_le (by omega)]
 refine List.mem_flatMap.2 ⟨o.vars,TP henv ht,?_⟩
 unfold eQ at h
 rw[if_neg (fun q=>q henv),ht]at h
 simp only at h
 unfold eO
 rw[if_neg (fun q=>q henv)]
 split at h
 ·rename_i q;exact absurd h q
 ·rename_i q
  rw[if_neg q]
  split at h
  ·cases h
  ·rename_i q2
   split at h
   ·rename_i q3;exact absurd h q3
   ·rename_i q3
    have q3:=Classical.byContradiction q3
    have q4:o.ins∈d9 t.jn t.ins.length:=Classical.byContradiction fun e=>q2 (.inl e)
    have q5:o.outs∈d9 t.split t.outs.length:=Classical.byContradiction fun e=>q2 (.inr e)
    refine List.mem_flatMap.2 ⟨o.ins,List.mem_filter.2 ⟨q4,decide_eq_true q3⟩,List.mem_map.2 ⟨o.outs,List.mem_filter.2 ⟨q5,by simpa using h⟩,rfl⟩⟩
end
section
attribute [local irreducible] cl uE
variable{n0:Nat→Prop}{qp mb rb cap m:Nat}{g:aL}{es:List (Nat×Int)}
theorem QA.perm{es es':List (Nat×Int)}{rb m cap:Nat}(h:es'.Perm es)(s:QS n0 qp mb rb es.length es.length g es')(hne:es≠[]):QA n0 qp mb g es':=by
 refine .row rb (fun e=>hne ?_) ?_
 ·rw[e]at h;exact h.symm.eq_nil
 ·rw[h.length_eq];exact s
theorem aOh{e:Nat}{id t pl:Int}(s:QA n0 qp mb g es)(he:aP g e=some (.cells [iv id,iv t,iv pl]))(hP:∀b,n0 b→b<g.aA)(hn:¬n0 e)(hen:e<g.aA)(heq:e≠qp)(hem:e≠mb)(hnew:∀rb,QS n0 qp mb rb es.length es.length g es→e≠rb∧¬e∈es.map Prod.fst)(hes:es.length<2^20)
  (k:∀g' es',es'.Perm (es++ [(e,id)])→QA n0 qp mb g' es'→QF n0 mb g g'→K (.tuple []) g'):C 301 [.iface 393 (.ptr qp 0),.iface 389 (.ptr e 0)] g K:=by
 refine aOE ?_
 refine aIn aD4 (aOk s he hP hn hen heq hem hnew hes fun g1 s1 f1=> ?_)
 obtain⟨L,hL⟩:∃L,L=es++ [(e,id)]:=⟨_,rfl⟩
 have hl:L.length=es.length+1:=by rw[hL];simp
 rw[←hL]at s1 k
 cases s1 with
 |nil=>simp at hL
 |row rb h1 h2=>
  refine XS h2 ?_
  refine pC (by omega) (by omega) ?_
  rw[show((L.length:Int)-1)=((L.length-1:Nat):Int) by omega]
  refine aOp h2 (by omega) (by omega) fun g2 l p s2 f2=> ?_
  exact k g2 l p (QA.perm (m:=0) (cap:=0) p s2 h1) (f1.trans f2)
def EH(l:List (Int×Nat)):AO:=zA iv (fun b=>AV.ptr b 0) l
theorem aIj(s:QA n0 qp mb g es):∃v,aP g qp=some (.cells [v,.map mb])∧∀h,bO .sl [v] h= .ok (iv es.length) h:=by
 cases s with
 |nil h1=>exact⟨_,h1,fun h=>rfl⟩
 |row rb h1 h2=>exact⟨_,h2.q,fun h=>rfl⟩
theorem QA.up{o:AO}(s:QA n0 qp mb g es):QA n0 qp mb (nw g o) es:=by
 have f:∀b,b<g.aA→aP (nw g o) b=aP g b:=fun b hb=>by rw[bF,if_neg (by omega)]
 have nx:(nw g o).aA=g.aA+1:=aT _ _
 cases s with
 |nil h1 h2 h3 h4 h5 h6=>exact .nil (by rw[f _ h3];exact h1) h2 (by omega) h4 (by omega) h6
 |row rb h1 h2=>
  obtain⟨cs,c1,c2,c3⟩:=h2.row
  obtain⟨⟨b1,b2⟩,⟨b3,b4⟩,b5,b6⟩:=h2.b
  refine .row rb h1 ⟨by rw[f _ b2];exact h2.q,⟨cs,by rw[f _ b4];exact c1,c2,c3⟩,h2.le,fun z hz=> ?_,h2.nd,h2.nq,h2.d,⟨⟨b1,by omega⟩,⟨b3,by omega⟩,b5,by omega⟩⟩
  obtain⟨t,pl,h3,h4,h5⟩:=h2.ent z hz
  exact⟨t,pl,by rw[f _ h5];exact h3,h4,by omega⟩
theorem QA.mapset{o:AO}(s:QA n0 qp mb g es):QA n0 qp mb (bI g mb o) es:=by
 have f:∀b,b≠mb→aP (bI g mb o) b=aP g b:=fun b hb=>by rw[aX,if_neg hb]
 have nx:(bI g mb o).aA=g.aA:=bC _ _ _
 cases s with
 |nil h1 h2 h3 h4 h5 h6=>exact .nil (by rw[f _ h6];exact h1) h2 (by omega) h4 (by omega) h6
 |row rb h1 h2=>
  obtain⟨cs,c1,c2,c3⟩:=h2.row
  obtain⟨d1,d2,d3⟩:=h2.d
  obtain⟨⟨b1,b2⟩,⟨b3,b4⟩,b5,b6⟩:=h2.b
  refine .row rb h1 ⟨by rw[f _ d2];exact h2.q,⟨cs,by rw[f _ d3];exact c1,c2,c3⟩,h2.le,fun z hz=> ?_,h2.nd,h2.nq,h2.d,⟨⟨b1,by omega⟩,⟨b3,by omega⟩,b5,by omega⟩⟩
  obtain⟨t,pl,h3,h4,h5⟩:=h2.ent z hz
  exact⟨t,pl,by rw[f _ (h2.nq z hz).2.2];exact h3,h4,by omega⟩
theorem aOi{id t:Int}{ml:List (Int×Nat)}(s:QA n0 qp mb g es)(hP:∀b,n0 b→b<g.aA)(hml:aP g mb=some (EH ml))(hes:es.length<2^20)
  (k:∀g' es' ml' r,(es'=es∨∃e,es'.Perm (es++ [(e,id)]))→QA n0 qp mb g' es'→(∀b,n0 b→aP g' b=aP g b)→g.aA≤g'.aA→aP g' mb=some (EH ml')→K (iv r) g'):C 197 [.ptr qp 0,iv id,iv t] g K:=by
 refine aOC ?_
 obtain⟨v,q1,q2⟩:=aIj s
 have hb:qp≠mb∧¬n0 mb∧mb<g.aA∧qp<g.aA∧¬n0 qp:=by
  cases s with
  |nil h1 h2 h3 h4 h5 h6=>exact⟨h6,h4,h5,h3,h2⟩
  |row rb h1 h2=>exact⟨h2.d.2.1,h2.b.2.2.1,h2.b.2.2.2,h2.b.1.2,h2.b.1.1⟩
 have hmbP:=hb.2.1
 simp only[go_sem,reduceAdd,reduceMul,reduceSub,aa,reduceEqDiff,reduceLT,q1]
 have nq1:aO .neq .ptr .nilp .nilp=some (.bool false):=rfl
 have nq2:∀b o,aO .neq .ptr (.ptr b o) .nilp=some (.bool true):=fun b o=>rfl
 have same:∀r,K (iv r) g:=fun r=>k g es ml r (.inl rfl) s (fun _ _=>rfl) (aE _) hml
 cases hag:fL ml id with
 |some b=>
  rw[show fT .int .nilp false (iv id) (dK g (.map mb))=some (.ptr b 0) by rw[gU (fk:=iv) (fv:=fun b=>AV.ptr b 0) (l:=ml) hml,mQ (fv:=fun b=>AV.ptr b 0) gB _ _ hag];rfl]
  rw[aCm,nq2]
  refine Zr ?_
  exact same _
 |none=>
  rw[show fT .int .nilp false (iv id) (dK g (.map mb))=some .nilp by rw[gU (fk:=iv) (fv:=fun b=>AV.ptr b 0) (l:=ml) hml,pB (fv:=fun b=>AV.ptr b 0) gB _ _ hag];rfl]
  rw[aCm,nq1]
  refine Zr ?_
  refine aD0 q1 q2 ?_
  refine Zr ?_
  refine⟨fun _=>same _,fun _=> ?_⟩
  have e0:(qp=g.aA)=False:=eq_false (by omega)
  simp only[go_sem,reduceAdd,reduceMul,reduceSub,aa,reduceEqDiff,reduceLT,e0,q1]
  have hm1:aP (nw g (.cells [iv id,iv t,iv 0])) mb=some (EH ml):=by rw[bF,if_neg (by omega)];exact hml
  rw[show hU (nw g (.cells [iv id,iv t,iv 0])) .int (iv id) (.ptr g.aA 0) (.map mb)= .ok bS (bI (nw g (.cells [iv id,iv t,iv 0])) mb (EH (fI id g.aA ml)))from zT (fk:=iv) (fv:=fun b=>AV.ptr b 0) gB hm1]
  refine Zr ?_
  have s2:=(s.up (o:= .cells [iv id,iv t,iv 0])).mapset (o:=EH (fI id g.aA ml))
  refine aOh (e:=g.aA) (id:=id) (t:=t) (pl:=0) s2 (by rw[aX,if_neg (by omega)];exact bQ _ _) (fun b hb=>by rw[bC,aT];have:=hP b hb;omega) (fun hb=>by have:=hP _ hb;omega) (by rw[bC,aT];omega) (by omega) (by omega) (fun rb h2=> ?_) hes (fun g' es' p s' f=> ?_)
  ·have hq:=h2.q
   rw[aX,if_neg (by omega),bF,if_neg (by omega)]at hq
   cases s with
   |nil h1 _ _ _ _ _=>
    rw[h1]at hq
    injection hq with hq;injection hq with hq;injection hq with hq _;cases hq
   |row rb0 h1 s0=>
    rw[s0.q]at hq
    injection hq with hq;injection hq with hq;injection hq with hq _;injection hq with hq
    refine⟨by have:=s0.b.2.1.2;omega,fun hm=> ?_⟩
    obtain⟨z,hz,e⟩:=List.mem_map.1 hm
    obtain⟨_,_,_,_,h5⟩:=s0.ent z hz
    omega
  ·refine k g' es' _ 0 (.inr ⟨_,p⟩) s' (fun b hb=> ?_) ?_ (by rw[f.map];exact aU _ _ _)
   ·rw[f.old b hb,aX,if_neg (show¬b=mb from fun e=>hmbP (e▸hb)),bF,if_neg (by have:=hP b hb;omega)]
   ·have:=f.aA;rw[bC,aT]at this;omega
theorem aOj(k:K (.ptr (h.aA+1) 0) (nw (nw h (EH [])) (.cells [.aB,.map h.aA]))):C 196 [] h K:=by
 refine aOB ?_
 refine Zr ?_
 exact k
end
section
def jT(x:cK)(id:Int):Item:=(x.c.items[(mC (fun y:Item=>y.id=id) x.c.items).toNat]?).getD Y1
def lO(d:Nat):List Int→cK→Int×cK
 | [],x=>(0,x)
 |id::l,x=>if¬(fU (iL d x.net) x (jT x id)).1=0 then fU (iL d x.net) x (jT x id)else lO d l (fU (iL d x.net) x (jT x id)).2
def n7(d:Nat)(due:List Int)(x:cK):fN×Int×cK:=
 if x.c.now=1099511627776 then rN 1 x else
 if¬(lO d due (x.nw (x.c.now+1))).1=0 then(aDW,lO d due (x.nw (x.c.now+1)))else(⟨0,0,due⟩,0,(lO d due (x.nw (x.c.now+1))).2)
theorem yK{d:Nat}:∀(l:List Int) {x:cK},d5 d x.net x.c→(lO d l x).1=0→d5 d x.net (lO d l x).2.c∧(lO d l x).2.net=x.net
 | [],x,h,_=>⟨h,rfl⟩
 |id::l,x,h,h0=>by
  rw[lO]at h0⊢
  by_cases q:(fU (iL d x.net) x (jT x id)).1=0
  ·rw[if_neg (fun n=>n q)]at h0⊢
   obtain⟨a,b⟩:=mW h (fun e=>n8 h.1 e) q
   obtain⟨e,f⟩:=yK l (x:=(fU (iL d x.net) x (jT x id)).2) (by rw[b];exact a) h0
   rw[b]at e f
   exact⟨e,f⟩
  ·rw[if_pos q]at h0;exact absurd h0 q
theorem MU{d:Nat}{due:List Int}{x:cK}(h:d5 d x.net x.c)(h0:(n7 d due x).2.1=0):d5 d x.net (n7 d due x).2.2.c∧(n7 d due x).2.2.net=x.net:=by
 unfold n7 at h0⊢
 by_cases q:x.c.now=1099511627776
 ·rw[if_pos q]at h0;cases h0
 ·rw[if_neg q]at h0⊢
  by_cases q2:(lO d due (x.nw (x.c.now+1))).1=0
  ·rw[if_neg (fun n=>n q2)]
   obtain⟨r1,r2,⟨r4,r5⟩,r6,r8⟩:=h
   exact yK due (x:=x.nw (x.c.now+1)) ⟨r1,r2,⟨by show 0≤x.c.now+1;omega,by show x.c.now+1≤1099511627776;omega⟩,r6,r8⟩ q2
  ·rw[if_pos q2]at h0;exact absurd h0 q2
end
section
attribute [local irreducible] cl uE
variable{n0:Nat→Prop}{qp mb rb cap m:Nat}{g:aL}{es:List (Nat×Int)}
def MH(h:aL)(mb:Nat):Prop:=∃gG c,aP h mb=some (.map gG c)∧∀e∈gG,∃k,e.1=iv k
theorem MI(k:Int):∀(l:List kU) (i:Nat),(∀e∈l,∃k,e.1=iv k)→findKey .int (iv k) l i=some none∨∃j v b,findKey .int (iv k) l i=some (some (j,v,b))
 | [],i,_=> .inl rfl
 |(k',v,b)::l,i,h=>by
  obtain⟨k2,e⟩:=h _ (List.mem_cons_self ..)
  simp only at e
  subst e
  have ih:=MI k l (i+1) (fun e he=>h e (List.mem_cons_of_mem _ he))
  have hf:findKey .int (iv k) ((iv k2,v,b)::l) i=(match oR .int (iv k) (iv k2)with|some true=>some (some (i,v,b))|some false=>findKey .int (iv k) l (i+1)|none=>none):=rfl
  rw[hf,gB k k2]
  by_cases e:k=k2
  ·rw[decide_eq_true e];exact .inr ⟨_,_,_,rfl⟩
  ·rw[decide_eq_false e];exact ih
theorem GD{α:Type}:∀(l:List α) (i:Nat) (x:α),x∈eraseI l i→x∈l
 | [],i,x,h=>h
 |y::l,0,x,h=>List.mem_cons_of_mem _ h
 |y::l,i+1,x,h=>by
  rcases List.mem_cons.1 h with h|h
  ·rw[h];exact List.mem_cons_self ..
  ·exact List.mem_cons_of_mem _ (GD l i x h)
theorem aAR{k:Int}(s:MH h mb):∃h',tT .int [.map mb,iv k] h= .ok bS h'∧h'.aA=h.aA∧(∀b,b≠mb→aP h' b=aP h b)∧MH h' mb:=by
 obtain⟨gG,c,h1,h2⟩:=s
 have e:tT .int [.map mb,iv k] h=VC h mb c gG (findKey .int (iv k) gG 0):=by
  show aAq h .int mb (iv k) (wC (aP h mb))=_
  rw[h1];rfl
 rw[e]
 rcases MI k gG 0 h2 with h3|⟨j,v,b,h3⟩
 ·rw[h3]
  exact⟨h,rfl,rfl,fun _ _=>rfl,gG,c,h1,h2⟩
 ·rw[h3]
  exact⟨_,rfl,bC _ _ _,fun b hb=>by rw[aX,if_neg hb],_,_,aU _ _ _,fun e he=>h2 e (GD _ _ _ he)⟩
theorem QS.mapset'{P:Nat→Prop}{h':aL}(s:QS P qp mb rb cap m g es)(hn:h'.aA=g.aA)(hf:∀b,b≠mb→aP h' b=aP g b):QS P qp mb rb cap m h' es:=by
 obtain⟨cs,c1,c2,c3⟩:=s.row
 obtain⟨d1,d2,d3⟩:=s.d
 obtain⟨⟨b1,b2⟩,⟨b3,b4⟩,b5,b6⟩:=s.b
 refine⟨by rw[hf _ d2];exact s.q,⟨cs,by rw[hf _ d3];exact c1,c2,c3⟩,s.le,fun z hz=> ?_,s.nd,s.nq,s.d,⟨⟨b1,by omega⟩,⟨b3,by omega⟩,b5,by omega⟩⟩
 obtain⟨t,pl,h3,h4,h5⟩:=s.ent z hz
 exact⟨t,pl,by rw[hf _ (s.nq z hz).2.2];exact h3,h4,by omega⟩
theorem QS.app'{P:Nat→Prop}{h':aL}(s:QS P qp mb rb cap m g es)(hn:g.aA≤h'.aA)(hf:∀b,¬P b→b<g.aA→aP h' b=aP g b):QS P qp mb rb cap m h' es:=by
 obtain⟨cs,c1,c2,c3⟩:=s.row
 obtain⟨⟨b1,b2⟩,⟨b3,b4⟩,b5,b6⟩:=s.b
 refine⟨by rw[hf _ b1 b2];exact s.q,⟨cs,by rw[hf _ b3 b4];exact c1,c2,c3⟩,s.le,fun z hz=> ?_,s.nd,s.nq,s.d,⟨⟨b1,by omega⟩,⟨b3,by omega⟩,b5,by omega⟩⟩
 obtain⟨t,pl,h3,h4,h5⟩:=s.ent z hz
 exact⟨t,pl,by rw[hf _ h4 h5];exact h3,h4,by omega⟩
def PN(n0:Nat→Prop)(N:Nat):Nat→Prop:=fun b=>n0 b∨N≤b
theorem QS.toP(s:QS n0 qp mb rb cap m g es):QS (PN n0 g.aA) qp mb rb cap m g es:=by
 obtain⟨⟨b1,b2⟩,⟨b3,b4⟩,b5,b6⟩:=s.b
 have nb:∀b,¬n0 b→b<g.aA→¬PN n0 g.aA b:=fun b h1 h2 h3=>by
  rcases h3 with h3|h3
  ·exact h1 h3
  ·omega
 refine⟨s.q,s.row,s.le,fun z hz=> ?_,s.nd,s.nq,s.d,⟨⟨nb _ b1 b2,b2⟩,⟨nb _ b3 b4,b4⟩,nb _ b5 b6,b6⟩⟩
 obtain⟨t,pl,h3,h4,h5⟩:=s.ent z hz
 exact⟨t,pl,h3,nb _ h4 h5,h5⟩
end
section
attribute [local irreducible] cl uE
variable{n0:Nat→Prop}{qp mb rb cap m:Nat}{g:aL}{es:List (Nat×Int)}
theorem aIh(hq:aP g qp=some (.cells [.aB,.map mb]))(k:K (.tuple [iv 0,iv 0,.bool false]) g):C 302 [.ptr qp 0] g K:=by
 refine bG (aIp ?_)
 refine aD0 (len:=0) hq (fun h=>rfl) ?_
 refine Zr ?_
 refine⟨fun _=>bA (bW.refl _ _) rfl k,fun q=>absurd rfl q⟩
theorem aIi{now:Int}(s:QS (PN n0 g.aA) qp mb rb cap m g es)(hP:∀b,n0 b→b<g.aA)(hm:MH g mb)(hes:es.length<2^20)
  (k:∀g' v due rest,(∀b,n0 b→aP g' b=aP g b)→g.aA≤g'.aA→dG g.aA 1 fi g' v due→(due++rest).Perm (es.map Prod.snd)→K v g'):C 198 [.ptr qp 0,iv now] g K:=by
 refine aIo ?_
 have tell:∀(G:aL) (l:List (Nat×Int)) (K:KH),QS (PN n0 g.aA) qp mb rb cap m G l→l.length<2^20→(∀(b:Bool) (t id:Int),(b=true→∃x,l[0]?=some x∧id=x.2)→K (.tuple [iv id,iv t,.bool b]) G)→C 302 [.ptr qp 0] G K:=fun G l K s hl k=>
  aOm s (by omega) (fun _=>k false 0 0 (fun h=>by cases h)) (fun x t e=>k true t x.2 (fun _=>⟨x,e,rfl⟩))
 refine tell g es _ s hes fun b t id hb=> ?_
 refine Zr ?_
 refine cD (σ:=aL×List (Nat×Int)×List Int×AV×Bool×Int×Int) (fun p=> [.bool p.2.2.2.2.1,iv p.2.2.2.2.2.1,iv now,p.2.2.2.1,iv p.2.2.2.2.2.2,.ptr qp 0]) (fun p=>p.1)
  (fun p=>QS (PN n0 g.aA) qp mb rb cap m p.1 p.2.1∧(p.2.2.2.2.1=true→∃x,p.2.1[0]?=some x∧p.2.2.2.2.2.2=x.2)∧dG g.aA 1 fi p.1 p.2.2.2.1 p.2.2.1∧(p.2.2.1++p.2.1.map Prod.snd).Perm (es.map Prod.snd)∧(∀b,n0 b→aP p.1 b=aP g b)∧g.aA≤p.1.aA∧MH p.1 mb) (fun p=>p.2.1.length) ?_ (g,es,[],.aB,b,t,id) ⟨s,hb,.aB,.refl _,fun _ _=>rfl,aE _,hm⟩ (A:=QR) (cur:=0)
 rintro⟨G,l,out,v,b,t,id⟩ ⟨hs,hb,hO,hp,ho,hg,hM⟩
 simp only at hs hb hO hp ho hg hM
 have hll:=hp.length_eq
 simp only[List.length_append,List.length_map]at hll
 refine XU ?_
 cases b with
 |false=>
  refine Zr ?_
  exact⟨hO.seen,hO.seen,k G v out _ ho hg hO hp⟩
 |true=>
  refine Zr ?_
  refine⟨fun q=> ?_,fun q=> ?_⟩
  ·obtain⟨x,e0,rfl⟩:=hb rfl
   have h0:=(aD.1 e0).1
   obtain⟨⟨b1,b2⟩,⟨b3,b4⟩,b5,b6⟩:=hs.b
   have hO2:=hO.mono (h':=nw G (.cells [iv x.2])) (by rw[aT];omega) (fun c hc=>by
    have:=hO.own hc
    rw[bF,if_neg (by omega)])
   obtain⟨v2,g5,a1,a2,a3,a4,a5,a6⟩:=hO2.app (xs:= [x.2]) (x:= .slice G.aA 0 1 1 0) (fun _=>rfl) (by rw[aT];omega) (fun y _=>rfl) (by simp) rfl (iE (l:= [iv x.2]) (bQ _ _) rfl) (by simp;omega)
   refine Z1 a1 ?_
   have f5:∀c,¬PN n0 g.aA c→c<G.aA→aP g5 c=aP G c:=fun c h1 h2=>by
    rw[a4 c (by rw[aT];omega) (fun hc=>h1 (.inr (hO.own hc).1)),bF,if_neg (by omega)]
   have o5:∀c,n0 c→aP g5 c=aP G c:=fun c h1=>by
    rw[a4 c (by rw[aT];have:=hP c h1;omega) (fun hc=>by have:=(hO.own hc).1;have:=hP c h1;omega),bF,if_neg (by have:=hP c h1;omega)]
   have n5:G.aA≤g5.aA:=by rw[a3,aT];omega
   have s5:=hs.app' n5 f5
   have M5:MH g5 mb:=by
    obtain⟨gG,c,m1,m2⟩:=hM
    exact⟨gG,c,by rw[f5 _ b5 b6];exact m1,m2⟩
   refine aOl s5 e0 (by omega) fun g6 es' w p6 s6 f6 hw=> ?_
   have l6:=p6.length_eq
   simp only[List.length_cons]at l6
   have M6:MH g6 mb:=by
    obtain⟨gG,c,m1,m2⟩:=M5
    exact⟨gG,c,by rw[f6.map];exact m1,m2⟩
   have q6:=s6.q
   refine Z1 q6 ?_
   obtain⟨g7,d1,d2,d3,d4⟩:=aAR (k:=x.2) M6
   rw[d1]
   refine Zr ?_
   have s7:=s6.mapset' d2 d3
   refine tell g7 es' _ s7 (by omega) fun b' t' id' hb'=> ?_
   refine Zr ?_
   have nf6:=f6.aA
   refine⟨a2.seen,(g7,es',out++ [x.2],v2,b',t',id'),⟨s7,hb',?_,?_,fun c hc=> ?_,by show g.aA≤g7.aA;omega,d4⟩,by show es'.length<l.length;omega,rfl,rfl⟩
   ·refine a2.mono (by show g5.aA≤g7.aA;omega) (fun c hc=> ?_)
    show aP g7 c=_
    have hc1:=(a2.own hc).1
    rw[d3 c (fun e=>b5 (.inr (by rw[←e];exact hc1))),f6.old c (.inr hc1)]
   ·show(out++ [x.2]++es'.map Prod.snd).Perm _
    rw[List.append_assoc]
    exact((p6.map Prod.snd).append_left out).trans hp
   ·show aP g7 c=_
    rw[d3 c (fun e=>b5 (.inl (by rw[←e];exact hc))),f6.old c (.inl hc),o5 c hc];exact ho c hc
  ·exact⟨hO.seen,hO.seen,k G v out _ ho hg hO hp⟩
end
section
attribute [local irreducible] cl uE
variable{n0:Nat→Prop}{qp mb rb cap m:Nat}{g:aL}{es:List (Nat×Int)}
theorem QA.ext{P P':Nat→Prop}{g':aL}(s:QA P qp mb g es)(hn:g.aA≤g'.aA)(hf:∀b,¬P b→b<g.aA→aP g' b=aP g b)(hP:∀b,b<g.aA→¬P b→¬P' b):QA P' qp mb g' es:=by
 cases s with
 |nil h1 h2 h3 h4 h5 h6=>exact .nil (by rw[hf _ h2 h3];exact h1) (hP _ h3 h2) (by omega) (hP _ h5 h4) (by omega) h6
 |row rb h1 h2=>
  obtain⟨cs,c1,c2,c3⟩:=h2.row
  obtain⟨⟨b1,b2⟩,⟨b3,b4⟩,b5,b6⟩:=h2.b
  refine .row rb h1 ⟨by rw[hf _ b1 b2];exact h2.q,⟨cs,by rw[hf _ b3 b4];exact c1,c2,c3⟩,h2.le,fun z hz=> ?_,h2.nd,h2.nq,h2.d,⟨⟨hP _ b2 b1,by omega⟩,⟨hP _ b4 b3,by omega⟩,hP _ b6 b5,by omega⟩⟩
  obtain⟨t,pl,h3,h4,h5⟩:=h2.ent z hz
  exact⟨t,pl,by rw[hf _ h4 h5];exact h3,hP _ h5 h4,by omega⟩
theorem QA.sub{P P':Nat→Prop}(s:QA P qp mb g es)(hP:∀b,¬P b→¬P' b):QA P' qp mb g es:=s.ext (aE _) (fun _ _ _=>rfl) (fun b _=>hP b)
theorem QA.out{b:Nat}(s:QA n0 qp mb g es)(hb:g.aA≤b):qp≠b∧mb≠b:=by
 cases s with
 |nil h1 h2 h3 h4 h5 h6=>exact⟨by omega,by omega⟩
 |row rb h1 h2=>have:=h2.b;exact⟨by omega,by omega⟩
def OY(l:List (Int×Bool)):AO:=zA iv AV.bool l
theorem aDZ{b:Nat}{l:List (Int×Bool)}{k:Int}(hm:aP h b=some (OY l)):fT .int (.bool false) false (iv k) (dK h (.map b))=some (.bool ((fL l k).getD false)):=by
 rw[gU (fk:=iv) (fv:=AV.bool) (l:=l) hm]
 cases e:fL l k with
 |none=>rw[pB (fv:=AV.bool) gB _ _ e];rfl
 |some v=>rw[mQ (fv:=AV.bool) gB _ _ e];rfl
theorem aOf{now:Int}(s:QA n0 qp mb g es)(hP:∀b,n0 b→b<g.aA)(hm:MH g mb)(hes:es.length<2^20)
  (k:∀g' v due rest,(∀b,n0 b→aP g' b=aP g b)→g.aA≤g'.aA→dG g.aA 1 fi g' v due→(due++rest).Perm (es.map Prod.snd)→K v g'):C 198 [.ptr qp 0,iv now] g K:=by
 cases s with
 |row rb h1 h2=>exact aIi h2.toP hP hm hes k
 |nil h1 h2 h3 h4 h5 h6=>
  refine aIo ?_
  refine aIh h1 ?_
  refine Zr ?_
  refine cD (σ:=Unit) (fun _=> [.bool false,iv 0,iv now,.aB,iv 0,.ptr qp 0]) (fun _=>g) (fun _=>True) (fun _=>0) ?_ () trivial (A:=QR) (cur:=0)
  rintro⟨⟩ _
  refine XU ?_
  refine Zr ?_
  exact k g .aB [] [] (fun _ _=>rfl) (aE _) .aB (.refl _)
theorem aOg{l:List Item}{now:Int}(hl:l.length<2^19)(k:∀due:List Int,due.Nodup→due.length≤l.length→(∀id∈due,∃x∈l,x.id=id)→K (ints due) h):C 101 [sl eI l,iv now] h K:=by
 refine bG (aOI ?_)
 refine aOj ?_
 refine Zr ?_
 obtain⟨P,hPd⟩:∃P:Nat→Prop,P=fun b=>b<h.aA∨b=h.aA+2:=⟨_,rfl⟩
 have P1:∀b,b<h.aA→P b:=fun b hb=>by rw[hPd];exact .inl hb
 have P2:P (h.aA+2):=by rw[hPd];exact .inr rfl
 have P3:∀b,P b→b<h.aA+3:=fun b hb=>by rw[hPd]at hb;rcases hb with hb|hb<;>omega
 have P4:¬P (h.aA+1)∧¬P h.aA:=by rw[hPd];exact⟨fun hb=>by rcases hb with hb|hb<;>omega,fun hb=>by rcases hb with hb|hb<;>omega⟩
 clear hPd
 refine cD (σ:=Nat×aL×List (Nat×Int)×List (Int×Nat)×List (Int×Bool)) (fun p=> [iv p.1,iv l.length,sl eI l,.map (h.aA+2),.ptr (h.aA+1) 0,iv now]) (fun p=>p.2.1)
  (fun p=>p.1≤l.length∧QA P (h.aA+1) h.aA p.2.1 p.2.2.1∧aP p.2.1 h.aA=some (EH p.2.2.2.1)∧aP p.2.1 (h.aA+2)=some (OY p.2.2.2.2)∧bW h.aA h p.2.1∧h.aA+3≤p.2.1.aA∧(p.2.2.1.map Prod.snd).Nodup∧
   (∀id∈p.2.2.1.map Prod.snd,fL p.2.2.2.2 id=some true∧∃x∈l,x.id=id)∧p.2.2.1.length≤p.1) (fun p=>l.length-p.1) ?_
  (0,nw (nw (nw h (EH [])) (.cells [.aB,.map h.aA])) (.map [] 0),[],[],[]) ⟨aH _,.nil ?_ P4.1 ?_ P4.2 ?_ (by omega),?_,?_,?_,?_,by simp,fun id h=>by simp at h,aE _⟩ (A:=X0) (cur:=0)
 ·rintro⟨i,g,es,ml,hd⟩ ⟨hi,hs,hml,hhd,ho,hg,hnd,hin,hel⟩
  simp only at hi hs hml hhd ho hg hnd hin hel
  refine aEe ?_
  refine Zr ?_
  refine⟨fun hl2=> ?_,fun hl2=> ?_⟩
  ·have hl2:i<l.length:=by omega
   have e:=aC hl2
   obtain⟨x,hx⟩:∃x,x=l[i]:=⟨_,rfl⟩
   rw[←hx]at e
   have hxl:=aG e
   rw[bV dV e]
   refine Zr ?_
   rw[bU _ _ (by rw[dV];rfl)]
   refine Zr ?_
   obtain⟨G,hG⟩:∃G,G=bI (nw g (.cells [iv 0,iv 0,.aB,.aB,.aB,iv 0,iv 0,iv 0,iv 0,iv 0,iv 0])) g.aA (.cells (eI x)):=⟨_,rfl⟩
   rw[←hG]
   have nG:G.aA=g.aA+1:=by rw[hG,fK]
   have oG:∀b,b<g.aA→aP G b=aP g b:=fun b hb=>by rw[hG,g8 _ _ _ hb]
   have sG:aP G g.aA=some (.cells (eI x)):=by rw[hG];exact aU _ _ _
   clear hG
   have hhG:aP G (h.aA+2)=some (OY hd):=by rw[oG _ (by omega)];exact hhd
   have sQ:QA (fun b=>P b∨b=g.aA) (h.aA+1) h.aA G es:=hs.ext (by omega) (fun b _ hb=>oG b hb) (fun b hb h1 h2=>by rcases h2 with h2|h2;exact h1 h2;omega)
   have fin:∀(g2:aL) (es':List (Nat×Int)) (ml':List (Int×Nat)),QA (fun b=>P b∨b=g.aA) (h.aA+1) h.aA g2 es'→(∀b,P b∨b=g.aA→aP g2 b=aP G b)→G.aA≤g2.aA→aP g2 h.aA=some (EH ml')→(es'=es∨((fL hd x.id).getD false=false∧∃e,es'.Perm (es++ [(e,x.id)])))→
     RO (fO 0 (.one 0) (aP g2 g.aA)) fun v41=>RP (hU g2 .int v41 (.bool true) (.map (h.aA+2))) fun v42 h43=>RO (aO .add .no (iv i) (iv 1)) fun v44=>aQ v44=true∧∃s':Nat×aL×List (Nat×Int)×List (Int×Nat)×List (Int×Bool),(s'.1≤l.length∧QA P (h.aA+1) h.aA s'.2.1 s'.2.2.1∧aP s'.2.1 h.aA=some (EH s'.2.2.2.1)∧aP s'.2.1 (h.aA+2)=some (OY s'.2.2.2.2)∧bW h.aA h s'.2.1∧h.aA+3≤s'.2.1.aA∧(s'.2.2.1.map Prod.snd).Nodup∧
   (∀id∈s'.2.2.1.map Prod.snd,fL s'.2.2.2.2 id=some true∧∃x∈l,x.id=id)∧s'.2.2.1.length≤s'.1)∧l.length-s'.1<l.length-i∧[v44,iv l.length,sl eI l,.map (h.aA+2),.ptr (h.aA+1) 0,iv now]= [iv s'.1,iv l.length,sl eI l,.map (h.aA+2),.ptr (h.aA+1) 0,iv now]∧h43=s'.2.1:=by
    intro g2 es' ml' q2 f2 n2 m2 hc
    have x2:aP g2 g.aA=some (.cells (eI x)):=by rw[f2 _ (.inr rfl)];exact sG
    have h2:aP g2 (h.aA+2)=some (OY hd):=by rw[f2 _ (.inl P2)];exact hhG
    rw[x2]
    refine Zr ?_
    rw[show hU g2 .int (iv x.id) (.bool true) (.map (h.aA+2))= .ok bS (bI g2 (h.aA+2) (OY (fI x.id true hd)))from zT (fk:=iv) (fv:=AV.bool) gB h2]
    refine Zr ?_
    refine bT (by omega) (by omega) ⟨rfl,(i+1,bI g2 (h.aA+2) (OY (fI x.id true hd)),es',ml',fI x.id true hd),⟨hl2,?_,?_,aU _ _ _,fun b hb=> ?_,?_,?_,?_,?_⟩,(by omega),rfl,rfl⟩
    ·exact(q2.sub (fun b hb hp=>hb (.inl hp))).ext (by rw[bC];exact aE _) (fun b hb _=>by rw[aX,if_neg (show¬b=h.aA+2 from fun e=>hb (e▸P2))]) (fun b _ hb=>hb)
    ·show aP (bI _ _ _) _=_
     rw[aX,if_neg (by omega)];exact m2
    ·show aP (bI _ _ _) b=_
     rw[aX,if_neg (by omega),f2 b (.inl (P1 b hb)),oG b (by omega)];exact ho b hb
    ·show _≤(bI _ _ _).aA
     rw[bC];omega
    ·rcases hc with rfl|⟨hf,e,hp⟩
     ·exact hnd
     ·refine(hp.map Prod.snd).nodup_iff.2 ?_
      rw[List.map_append]
      refine List.nodup_append.2 ⟨hnd,by simp,fun a ha b hb=> ?_⟩
      have:b=x.id:=by simpa using hb
      rw[this];rintro rfl
      have:=(hin _ ha).1
      rw[this]at hf;cases hf
    ·intro id hid
     have hsub:id∈es.map Prod.snd∨id=x.id:=by
      rcases hc with rfl|⟨hf,e,hp⟩
      ·exact .inl hid
      ·have:=(hp.map Prod.snd).mem_iff.1 hid
       rw[List.map_append]at this
       rcases List.mem_append.1 this with h|h
       ·exact .inl h
       ·exact .inr (by simpa using h)
     show fL (fI x.id true hd) id=some true∧_
     rw[tX]
     rcases hsub with h|h
     ·split
      ·rename_i e;rw[e];exact⟨rfl,x,hxl,rfl⟩
      ·exact hin id h
     ·rw[if_pos h,h];exact⟨rfl,x,hxl,rfl⟩
    ·show es'.length≤i+1
     rcases hc with rfl|⟨hf,e,hp⟩
     ·omega
     ·rw[hp.length_eq];simp;omega
   have mG:aP G h.aA=some (EH ml):=by rw[oG _ (by omega)];exact hml
   have same:=fin G es ml sQ (fun _ _=>rfl) (aE _) mG (.inl rfl)
   rw[aDZ hhG]
   cases hb:(fL hd x.id).getD false with
   |true=>
    refine Zr ?_
    exact same
   |false=>
    refine Z1 sG ?_
    rw[sG]at same
    have same:RO (some (iv x.id)) _:=same
    rw[aCm]at same
    refine⟨fun _=> ?_,fun _=>same⟩
    exact aOi sQ (fun b hb=>by rcases hb with hb|hb;have:=P3 b hb;omega;omega) mG (by omega) fun g2 es' ml' r hc q f n m=>fin g2 es' ml' q f n m (hc.imp id (fun h=>⟨hb,h⟩))
  ·have:i=l.length:=by omega
   subst this
   try simp only[go_sem,reduceAdd,reduceMul,reduceSub,aa,reduceEqDiff,reduceLT]
   have mI:MH g h.aA:=⟨_,_,hml,fun e he=>by
    have:∀(l:List (Int×Nat)) (n:Nat),∀e∈gG iv (fun b=>AV.ptr b 0) n l,∃k,e.1=iv k:=by
     intro l
     induction l with
     |nil=>intro n e he;cases he
     |cons a l ih=>
      intro n e he
      rcases List.mem_cons.1 he with he|he
      ·rw[he];exact⟨_,rfl⟩
      ·exact ih _ e he
    exact this ml 0 e he⟩
   refine aOf hs (fun b hb=>by have:=P3 b hb;omega) mI (by omega) fun g2 v due rest f2 n2 hO hp=> ?_
   refine⟨hO.seen,?_⟩
   unfold cl
   refine⟨fun b hb=>(f2 b (P1 b hb)).trans (ho b hb),_,hO.fz' (by omega) (fun _=>rfl) (fun x _=>rfl),k due ?_ ?_ ?_⟩
   ·have:=hp.nodup_iff.2 hnd
    exact(List.nodup_append.1 this).1
   ·have:=hp.length_eq
    rw[List.length_append,List.length_map]at this
    omega
   ·intro id hid
    exact(hin id (hp.mem_iff.1 (List.mem_append_left _ hid))).2
 ·exact Zr trivial
 ·refine Zr ?_;omega
 ·refine Zr ?_;omega
 ·exact Zr trivial
 ·refine Zr ?_;rfl
 ·exact Oq
 ·refine Zr ?_;omega
end
section
attribute [local irreducible] cl uE
theorem c5{n:dL}(hp:T2 n.places)(k:K (.agg (mY ⟨lV n,[],1,0⟩)) h):C 5 [.agg (eN n)] h K:=by
 refine bG (e5 ?_)
 refine Zr ?_
 refine c15 hp ?_
 refine Zr ?_
 unfold cl
 exact⟨Oq,_,.agg (.cons (.same (cN mZ _)) (.cons .aB (.cons (.same rfl) (.cons (.same rfl) .nil)))),k⟩
theorem c21{x:cK}{p:Nat}(hp:aP h p=some (.cells (eD x)))(k1:x.call.doN=1→K (.func (.func 49) [.ptr p 0] []) h)(k2:x.call.doN=2∨x.call.doN=3∨x.call.doN=4→K (.func (.func 50) [.ptr p 0] []) h)
  (k3:x.call.doN=5→K (.func (.func 51) [.ptr p 0] []) h) (k4:x.call.doN=6→K (.func (.func 52) [.ptr p 0] []) h) (k5:¬(1≤x.call.doN∧x.call.doN≤6)→K .nilf h):C 21 [.ptr p 0] h K:=by
 refine e21 ?_
 refine Z1 hp ?_
 refine⟨fun q1=>k1 q1,fun q1=>⟨fun q2=>k2 (.inl q2),fun q2=>⟨fun q3=>k2 (.inr (.inl q3)),fun q3=>⟨fun q4=>k2 (.inr (.inr q4)),fun q4=>⟨fun q5=>k3 q5,fun q5=>⟨fun q6=>k4 q6,fun q6=>k5 (by omega)⟩⟩⟩⟩⟩⟩
end
section
attribute [local irreducible] cl uE
theorem Q9{x:cK}{id:Int}(h:∃y∈x.c.items,y.id=id):0≤mC (fun y:Item=>y.id=id) x.c.items∧x.c.items[(mC (fun y:Item=>y.id=id) x.c.items).toNat]?=some (jT x id)∧(jT x id).id=id:=by
 have q:0≤mC (fun y:Item=>y.id=id) x.c.items:=kR.2 h
 obtain⟨j,z,e1,e2,e3,_⟩:=tY q
 refine⟨q,?_,?_⟩
 ·unfold jT
  rw[e1]
  have:((j:Nat):Int).toNat=j:=by omega
  rw[this,e2];rfl
 ·unfold jT
  rw[e1]
  have:((j:Nat):Int).toNat=j:=by omega
  rw[this,e2];exact e3
theorem MT{how:Mark→Mode→Int×Mark}{x:cK}{i:Item}(h:(fU how x i).1=0):(fU how x i).2.c.items=dZ x.c.items i.id:=by
 unfold fU at h⊢
 by_cases q:(how x.c.m i.mode).1=0
 ·rw[if_neg (fun n=>n q)];rfl
 ·rw[if_pos q]at h;exact absurd h q
theorem c52{d p:Nat}{x:cK}(hp:aP h p=some (.cells (eD x)))(hph:p<h.aA)(hs:uZ d x)(hr:d5 d x.net x.c)
  (k:∀due:List Int,K (XR (n7 d due x)) (bI h p (.cells (eD (n7 d due x).2.2)))):C 52 [.ptr p 0] h K:=by
 refine wU hph (e52 ?_)
 have e0:(p=h.aA)=False:=eq_false (by omega)
 have e0':(h.aA=p)=False:=eq_false (by omega)
 have hnow:=hr.2.2.1
 have hil:=hs.items
 refine Z3 hp e0 e0' ?_
 refine⟨fun q=> ?_,fun q=> ?_⟩
 ·have k:=k []
  unfold n7 at k
  rw[if_pos q]at k
  exact kZ Fq (.tuple (.cons nY (.cons (.same rfl) .nil))) (by refine Z2 hp e0 ?_;rfl) (gJ _) k
 ·refine bT (by omega) (by omega) ?_
  refine Z3 hp e0 e0' ?_
  refine aOg (show x.c.items.length<2^19 by omega) (fun due hnd hdl hin=> ?_)
  have k:=k due
  unfold n7 at k
  rw[if_neg q]at k
  refine Z3 hp e0 e0' ?_
  have hdl:due.length≤x.c.items.length:=hdl
  obtain⟨X,hX⟩:∃X,X=x.nw (x.c.now+1):=⟨_,rfl⟩
  have rX:d5 d X.net X.c:=by
   rw[hX]
   obtain⟨r1,r2,⟨r4,r5⟩,r6,r8⟩:=hr
   exact⟨r1,r2,⟨by show 0≤x.c.now+1;omega,by show x.c.now+1≤1099511627776;omega⟩,r6,r8⟩
  have nX:dR d X.net:=by rw[hX];exact hs.net
  have iX:∀i∈X.c.items,dO i.mode:=by rw[hX];exact hs.mods
  have inX:∀id∈due,∃z∈X.c.items,z.id=id:=by rw[hX];exact hin
  rw[←hX]at k⊢
  clear hX
  refine cD (σ:=Nat×aL×cK) (fun s=> [iv s.1,iv due.length,ints due,.ptr p 0,.ptr h.aA 0,ints due,iv 0]) (fun s=>s.2.1)
   (fun s=>s.1≤due.length∧(∀b,b<h.aA→b≠p→aP s.2.1 b=aP h b)∧aP s.2.1 p=some (.cells (eD s.2.2))∧aP s.2.1 h.aA=some (.cells [iv 0,iv 0,.aB])∧h.aA+1≤s.2.1.aA∧
    lO d due X=lO d (due.drop s.1) s.2.2∧d5 d s.2.2.net s.2.2.c∧dR d s.2.2.net∧(∀i∈s.2.2.c.items,dO i.mode)∧(∀id∈due.drop s.1,∃z∈s.2.2.c.items,z.id=id)) (fun s=>due.length-s.1) ?_
   (0,up (bI (nw h (.cells [iv 0,iv 0,.aB])) p (.cells (eD X))) 12,X) ⟨aH _,?_,?_,?_,?_,rfl,rX,nX,iX,inX⟩ (A:=aDY) (cur:=0)
  ·rintro⟨i,g,y⟩ ⟨hi,hf,gp,gn,hg,ht,ry,ny,iy,iny⟩
   simp only at hi hf gp gn hg ht ry ny iy iny
   refine aIf ?_
   have ylen:=ry.2.2.2.1.2
   refine Zr ?_
   refine⟨fun hl=> ?_,fun hl=> ?_⟩
   ·have hl:i<due.length:=by omega
    have e:=aC hl
    obtain⟨id,hid⟩:∃id,id=due[i]:=⟨_,rfl⟩
    rw[←hid]at e
    rw[List.drop_eq_getElem_cons hl,←hid]at ht iny
    rw[bV (f:=fi) (n:=1) (fun _=>rfl) e]
    refine Z1 gp ?_
    refine aH7 (show y.c.items.length<2^40 by omega) ?_
    obtain⟨j1,j2,j3⟩:=Q9 (iny id (by simp))
    have gp':aP (up g 17) p=some (.cells (eD y)):=gp
    refine Z2 gp' gp ?_
    rw[cS j1,bV dV j2]
    refine Zr ?_
    refine c98 (x:=y) (how:=iL d y.net) gp (by rw[cW];omega) (by omega) (fun i hi=>(iy i hi).sm) (fun G K k=> ?_) ?_
    ·rw[kC]
     exact aB2 ny (vE ny ry.1) (iy _ (aG j2)) k
    have mono:∀(z:cK) b,b<h.aA→b≠p→aP (bI (up g 17) p (.cells (eD z))) b=aP h b:=fun z b hb hn=>by
     rw[aX,if_neg hn];exact hf b hb hn
    have gn':∀z:cK,aP (bI (up g 17) p (.cells (eD z))) h.aA=some (.cells [iv 0,iv 0,.aB]):=fun z=>by rw[aX,if_neg (by omega)];exact gn
    rw[lO]at ht
    refine Z1 gn' ?_
    refine⟨fun q2=> ?_,fun q2=> ?_⟩
    ·rw[if_neg (fun n=>n q2)]at ht
     obtain⟨ra,rb⟩:=mW ry (fun e=>n8 ry.1 e) q2
     have si:=MT q2
     refine bT (by omega) (by omega) ⟨rfl,(i+1,bI (up g 17) p (.cells (eD (fU (iL d y.net) y (jT y id)).2)),(fU (iL d y.net) y (jT y id)).2),⟨hl,mono _,aU _ _ _,gn' _,by show h.aA+1≤(bI _ _ _).aA;rw[bC,cW];omega,ht,by rw[rb];exact ra,by rw[rb];exact ny,?_,?_⟩,(by omega),rfl,rfl⟩
     ·show∀i∈(fU (iL d y.net) y (jT y id)).2.c.items,_
      rw[si]
      exact fun z hz=>iy z (List.mem_filter.1 hz).1
     ·show∀id'∈due.drop (i+1),∃z∈(fU (iL d y.net) y (jT y id)).2.c.items,_
      rw[si,j3]
      intro id' hid'
      obtain⟨z,hz,ez⟩:=iny id' (by simp[hid'])
      refine⟨z,List.mem_filter.2 ⟨hz,decide_eq_true ?_⟩,ez⟩
      rw[ez]
      have hnd':(due.drop i).Nodup:=hnd.sublist (List.drop_sublist _ _)
      rw[List.drop_eq_getElem_cons hl,←hid]at hnd'
      rintro rfl
      exact(List.nodup_cons.1 hnd').1 hid'
    ·rw[if_pos q2]at ht
     rw[ht]at k
     rw[if_pos q2]at k
     refine kZ (fun b hb hn=> ?_) (.tuple (.cons nY (.cons (.same rfl) .nil))) ?_ (gJ _) k
     ·rw[aX,if_neg (by omega)];exact mono _ b hb hn
     ·rw[aX,if_neg (by omega)];exact aU _ _ _
   ·have:i=due.length:=by omega
    subst this
    rw[List.drop_length]at ht
    rw[ht]at k
    refine Z1 gn ?_
    have t0:lO d [] y=(0,y):=rfl
    rw[t0]at k
    rw[if_neg (fun n=>n rfl)]at k
    exact kZ (fun b hb hn=>by rw[aX,if_neg (by omega)];exact hf b hb hn) (.tuple (.cons (.agg (.cons (.same rfl) (.cons (.same rfl) (.cons (.same (cN (fun _=>rfl) _)) .nil)))) (.cons (.same rfl) .nil))) (by rw[aX,if_neg (by omega)];exact gp) (gJ _) k
  ·exact Fq
  ·rw[cM];exact aU _ _ _
  ·rw[cM,aX,if_neg (by omega)];exact bQ _ _
  ·show h.aA+1≤(up _ _).aA;rw[cW,bC,aT];omega
end
section
attribute [local irreducible] cl uE
structure DoR(d:Nat)(x:cK)(r:fN×Int×cK):Prop where
 one:x.call.doN=1→r=i3 d x
 inst:x.call.doN=2∨x.call.doN=3∨x.call.doN=4→r=fH d x
 canc:x.call.doN=5→r=iT d x
 tick:x.call.doN=6→∃due,r=n7 d due x
 none:¬(1≤x.call.doN∧x.call.doN≤6)→r=rN 1 x
def GI(x:cK)(r:fN×Int×cK):pU:=if r.2.1=0 then r.2.2.c else x.c
def JF(r:fN×Int×cK):fN:=if r.2.1=0 then r.1 else⟨r.2.1,0,[]⟩
@[go_sem]theorem aQn(x:cK):jY [(5,4,.agg (mY x.c)),(9,7,.agg (yO x.call))] (aV [.aB,.aB,.aB,iv 0,iv 0,.aB,.aB,iv 0,iv 0,iv 0,iv 0,iv 0,.aB,.aB,.aB,iv 0] 0 (eN x.net))=some (eD x):=by rfl
@[go_sem]theorem aLc(f:Fn)(a b:List AV)(K:AV→Prop):RO (aO .eql .func (.func f a b) .nilf) K=K (.bool false):=by show RO (some (.bool false)) K=_;simp only[go_sem]
@[go_sem]theorem aFP(K:AV→Prop):RO (aO .eql .func .nilf .nilf) K=K (.bool true):=by show RO (some (.bool true)) K=_;simp only[go_sem]
theorem TN{t:bE AO}{m:Nat}(e:Int):Fz t m (.agg [iv e,iv 0,.aB]) (.agg (CF ⟨e,0,[]⟩)):= .agg (.cons (.same rfl) (.cons (.same rfl) (.cons .aB .nil)))
theorem c9{d:Nat}{x:cK}(hs:uZ d x)(hj:k7 x.net)(ho:dO x.call.mode)(hr:d5 d x.net x.c)
  (k:∀r,DoR d x r→K (.tuple [.agg (mY (GI x r)),.agg (CF (JF r))]) h):C 9 [.agg (eN x.net),.agg (mY x.c),.agg (yO x.call)] h K:=by
 refine bG (e9 ?_)
 have hc:M3 x.c:=⟨hs.m,by have:=hs.items;omega,fun i hi=>(hs.mods i hi).sm⟩
 have hil:=hs.items
 refine Zr ?_
 refine c19 hc ?_
 refine Zr ?_
 obtain⟨H,hH⟩:∃H,H=nwAt (up (nw (nw (nw (nw (nw h (.cells (eN x.net))) (.cells (mY x.c))) (.cells (yO x.call))) (.cells [.aB,.aB,iv 0,iv 0])) (.cells [iv 0,iv 0,.aB])) 7) (h.aA+10) (.cells (eD x)):=⟨_,rfl⟩
 rw[←hH]
 have H0:aP H h.aA=some (.cells (eN x.net)):=by rw[hH];exact Zr trivial
 have H1:aP H (h.aA+1)=some (.cells (mY x.c)):=by rw[hH];exact Zr trivial
 have H3:aP H (h.aA+3)=some (.cells [.aB,.aB,iv 0,iv 0]):=by rw[hH];exact Zr trivial
 have H4:aP H (h.aA+4)=some (.cells [iv 0,iv 0,.aB]):=by rw[hH];exact Zr trivial
 have H5:aP H (h.aA+10)=some (.cells (eD x)):=by rw[hH];exact Zr trivial
 have Hn:h.aA+11≤H.aA:=by rw[hH];refine Zr ?_;omega
 have Ho:bW h.aA h H:=by rw[hH];exact bW.nwAt Oq (by omega)
 clear hH
 have hlt:h.aA+10<H.aA:=by omega
 refine c21 (x:=x) H5 (fun q=> ?_) (fun q=> ?_) (fun q=> ?_) (fun q=> ?_) (fun q=> ?_)
 rotate_right
 ·refine Z2 H0 H1 ?_
  refine c19 hc ?_
  refine Z2 H3 H4 ?_
  rw[bU _ _ (by rw[lH];rfl)]
  refine Z2 H3 H4 ?_
  have k:=k (rN 1 x) ⟨fun n=>by omega,fun n=>by omega,fun n=>by omega,fun n=>by omega,fun _=>rfl⟩
  unfold cl
  exact⟨bW.set (bW.set Ho (by omega)) (by omega),_,.tuple (.cons (.same (zN _)) (.cons (TN 1) .nil)),k⟩
 have hD:DoR d x (i3 d x):=⟨fun _=>rfl,fun n=>by omega,fun n=>by omega,fun n=>by omega,fun n=>by omega⟩
 refine Z2 H0 H1 ?_
 refine c22 hs.net hs.m (by omega) hs.mods (fun _=> ?_) (fun n=>absurd hr n)
 refine Z2 H0 H1 ?_
 refine c49 (d:=d) H5 hlt hs hj ho hr.2.1.2 hr.2.1.1 ?_
 revert hD
 generalize i3 d x=r
 intro hD
 rotate_left
 have hD:DoR d x (fH d x):=⟨fun n=>by omega,fun _=>rfl,fun n=>by omega,fun n=>by omega,fun n=>by omega⟩
 refine Z2 H0 H1 ?_
 refine c22 hs.net hs.m (by omega) hs.mods (fun _=> ?_) (fun n=>absurd hr n)
 refine Z2 H0 H1 ?_
 refine c50 (d:=d) H5 hlt hs ?_
 revert hD
 generalize fH d x=r
 intro hD
 rotate_left
 have hD:DoR d x (iT d x):=⟨fun n=>by omega,fun n=>by omega,fun _=>rfl,fun n=>by omega,fun n=>by omega⟩
 refine Z2 H0 H1 ?_
 refine c22 hs.net hs.m (by omega) hs.mods (fun _=> ?_) (fun n=>absurd hr n)
 refine Z2 H0 H1 ?_
 refine c51 (d:=d) H5 hlt hs ?_
 revert hD
 generalize iT d x=r
 intro hD
 rotate_left
 refine Z2 H0 H1 ?_
 refine c22 hs.net hs.m (by omega) hs.mods (fun _=> ?_) (fun n=>absurd hr n)
 refine Z2 H0 H1 ?_
 refine c52 (d:=d) H5 hlt hs hr fun due=> ?_
 have hD:DoR d x (n7 d due x):=⟨fun n=>by omega,fun n=>by omega,fun n=>by omega,fun _=>⟨due,rfl⟩,fun n=>by omega⟩
 revert hD
 generalize n7 d due x=r
 intro hD
 rotate_left
 all_goals
  have k:=k r hD
  unfold XR
  have e1:(h.aA+1=H.aA)=False:=eq_false (by omega)
  have e3:(h.aA+3=H.aA)=False:=eq_false (by omega)
  have e4:(h.aA+4=H.aA)=False:=eq_false (by omega)
  have e10:(h.aA+10=H.aA)=False:=eq_false (by omega)
  have e3':(H.aA=h.aA+3)=False:=eq_false (by omega)
  have e4':(H.aA=h.aA+4)=False:=eq_false (by omega)
  refine Zr ?_
  rw[bU _ _ (by rw[mH];rfl)]
  simp only[go_sem,reduceAdd,reduceMul,reduceSub,aa,reduceEqDiff,reduceLT,e1,e3,e4,e10,e3',e4',H1,H3,H4]
  unfold GI JF at k
  refine⟨fun q=> ?_,fun q=> ?_⟩
  ·rw[if_pos q,if_pos q]at k
   rw[bU _ _ (by rw[lH];rfl)]
   simp only[go_sem,reduceAdd,reduceMul,reduceSub,aa,reduceEqDiff,reduceLT,e1,e3,e4,e10,e3',e4',H1,H3,H4]
   rw[bU _ _ (by rw[mH];rfl)]
   simp only[go_sem,reduceAdd,reduceMul,reduceSub,aa,reduceEqDiff,reduceLT,e1,e3,e4,e10,e3',e4',H1,H3,H4]
   refine bA ?_ (eA (aY (zN _) (aY (GR _) rfl))) k
   exact bW.set (bW.set (bW.up (bW.set (bW.nw (bW.set Ho (by omega)) (by rw[bC];omega)) (by omega))) (by omega)) (by omega)
  ·rw[if_neg q,if_neg q]at k
   refine c19 hc ?_
   simp only[go_sem,reduceAdd,reduceMul,reduceSub,aa,reduceEqDiff,reduceLT,e1,e3,e4,e10,e3',e4',H1,H3,H4]
   rw[bU _ _ (by rw[lH];rfl)]
   simp only[go_sem,reduceAdd,reduceMul,reduceSub,aa,reduceEqDiff,reduceLT,e1,e3,e4,e10,e3',e4',H1,H3,H4]
   unfold cl
   refine⟨?_,_,.tuple (.cons (.same (zN _)) (.cons (TN _) .nil)),k⟩
   exact bW.set (bW.set (bW.set (bW.nw (bW.set Ho (by omega)) (by rw[bC];omega)) (by omega)) (by omega)) (by omega)
end
section
structure uF(x:cK)(c:pU):Prop where
 mods:(∀i∈x.c.items,dO i.mode)→dO x.call.mode→∀i∈c.items,dO i.mode
 len:c.items.length≤x.c.items.length+1
 aA:c.aA≤x.c.aA+1
theorem uF.rfl'(x:cK):uF x x.c:=⟨fun h _=>h,by omega,by omega⟩
theorem MS{d:Nat}{x:cK}(h:(i3 d x).2.1=0):uF x (i3 d x).2.2.c:=by
 unfold i3 at h⊢
 by_cases q1:eQ d x.net x.c.m x.call.mode=0
 ·rw[if_neg (fun n=>n q1)]at h⊢
  cases et:x.net.tasks[x.call.mode.task.toNat]? with
  |none=>rw[et]at h;cases h
  |some t=>
   rw[et]at h
   simp only at h⊢
   by_cases q2:(jO t.m0 t.m1 t.m2 x.call.num).2=0
   ·rw[if_neg (fun n=>n q2)]at h⊢
    by_cases q3:64≤(x.c.items.length:Int)
    ·rw[if_pos q3]at h;cases h
    ·rw[if_neg q3]at h⊢
     by_cases q4:x.c.aA=1099511627776
     ·rw[if_pos q4]at h;cases h
     ·rw[if_neg q4]at h⊢
      by_cases q5:(mX d x.net x.c.m x.call.mode).1=0
      ·rw[if_neg (fun n=>n q5)]
       refine⟨fun hm ho y hy=> ?_,?_,?_⟩
       ·rcases vD hy with h|h
        ·rw[h];exact ho
        ·exact hm y h
       ·show(rR x.c.items (rL x t)).length≤_
        rw[rV]
        have:(dZ x.c.items (rL x t).id).length≤x.c.items.length:=List.length_filter_le _ _
        omega
       ·show x.c.aA+1≤_;omega
      ·rw[if_pos q5]at h;exact absurd h q5
   ·rw[if_pos q2]at h;exact absurd h q2
 ·rw[if_pos q1]at h;exact absurd h q1
theorem tD{how:Mark→Mode→Int×Mark}{x y:cK}{i:Item}(hx:uF x y.c)(h:(fU how y i).1=0):uF x (fU how y i).2.c:=by
 unfold fU at h⊢
 by_cases q:(how y.c.m i.mode).1=0
 ·rw[if_neg (fun n=>n q)]
  refine⟨fun hm ho z hz=>hx.mods hm ho z (List.mem_filter.1 hz).1,?_,hx.aA⟩
  show(dZ y.c.items i.id).length≤_
  have:(dZ y.c.items i.id).length≤y.c.items.length:=List.length_filter_le _ _
  have:=hx.len
  omega
 ·rw[if_pos q]at h;exact absurd h q
theorem JE{d:Nat}{x:cK}(h:(iT d x).2.1=0):uF x (iT d x).2.2.c:=by
 unfold iT at h⊢
 by_cases q:(dP x).2=0
 ·rw[if_neg (fun n=>n q)]at h⊢
  exact tD (uF.rfl' x) h
 ·rw[if_pos q]at h;exact absurd h q
theorem EO{d:Nat}{x:cK}(h:(fH d x).2.1=0):uF x (fH d x).2.2.c:=by
 unfold fH at h⊢
 by_cases q:(dP x).2=0
 ·rw[if_neg (fun n=>n q)]at h⊢
  by_cases q2:(iK x (dP x).1.batch).2=0
  ·rw[if_neg (fun n=>n q2)]at h⊢
   have hm:=(JJ q).1
   obtain⟨i,hi⟩:∃i:Item,i=⟨(dP x).1.id,(dP x).1.mode,(iK x (dP x).1.batch).1,(dP x).1.til⟩:=⟨_,rfl⟩
   have him:i.mode=(dP x).1.mode:=by rw[hi]
   rw[←hi]at h⊢
   clear hi
   unfold aAQ at h⊢
   by_cases q3:nV i.batch
   ·rw[if_neg (fun n=>n q3)]at h⊢
    by_cases q4:F9 i.batch
    ·rw[if_pos q4]at h⊢
     exact tD (uF.rfl' x) h
    ·rw[if_neg q4]at h⊢
     exact tD (uF.rfl' x) h
   ·rw[if_pos q3]
    refine⟨fun hm' ho y hy=> ?_,?_,?_⟩
    ·rcases vD hy with h|h
     ·rw[h,him];exact hm' _ hm
     ·exact hm' y h
    ·show(rR x.c.items i).length≤_
     rw[rV]
     have:(dZ x.c.items i.id).length≤x.c.items.length:=List.length_filter_le _ _
     omega
    ·show x.c.aA≤_;omega
  ·rw[if_pos q2]at h;exact absurd h q2
 ·rw[if_pos q]at h;exact absurd h q
theorem BP{d:Nat}{x:cK}:∀(l:List Int) {y:cK},uF x y.c→(lO d l y).1=0→uF x (lO d l y).2.c
 | [],y,h,_=>h
 |id::l,y,h,h0=>by
  rw[lO]at h0⊢
  by_cases q:(fU (iL d y.net) y (jT y id)).1=0
  ·rw[if_neg (fun n=>n q)]at h0⊢
   exact BP l (tD h q) h0
  ·rw[if_pos q]at h0;exact absurd h0 q
theorem Q8{d:Nat}{due:List Int}{x:cK}(h:(n7 d due x).2.1=0):uF x (n7 d due x).2.2.c:=by
 unfold n7 at h⊢
 by_cases q:x.c.now=1099511627776
 ·rw[if_pos q]at h;cases h
 ·rw[if_neg q]at h⊢
  by_cases q2:(lO d due (x.nw (x.c.now+1))).1=0
  ·rw[if_neg (fun n=>n q2)]
   exact BP due (y:=x.nw (x.c.now+1)) ⟨fun h _=>h,by show x.c.items.length≤_;omega,by show x.c.aA≤_;omega⟩ q2
  ·rw[if_pos q2]at h;exact absurd h q2
theorem Y7{d:Nat}{x:cK}{r:fN×Int×cK}(hD:DoR d x r)(h:d5 d x.net x.c)(hk:uG x.net):d5 d x.net (GI x r)∧uF x (GI x r):=by
 unfold GI
 by_cases q:r.2.1=0
 ·rw[if_pos q]
  by_cases q1:x.call.doN=1
  ·have e:=hD.one q1;subst e
   exact⟨(JL h (fun t ht=>(hk t ht).1) q).1,MS q⟩
  ·by_cases q2:x.call.doN=2∨x.call.doN=3∨x.call.doN=4
   ·have e:=hD.inst q2;subst e
    exact⟨(BQ h q).1,EO q⟩
   ·by_cases q3:x.call.doN=5
    ·have e:=hD.canc q3;subst e
     exact⟨(GJ h q).1,JE q⟩
    ·by_cases q4:x.call.doN=6
     ·obtain⟨due,e⟩:=hD.tick q4;subst e
      exact⟨(MU h q).1,Q8 q⟩
     ·have e:=hD.none (by omega);subst e
      cases q
 ·rw[if_neg q];exact⟨h,uF.rfl' x⟩
end
section
attribute [local irreducible] cl uE
theorem c7{d:Nat}{n:dL}{c:pU}{l:List Call}(hn:dR d n)(hj:k7 n)(hk:uG n)(hl:l.length<2^10)(hlm:∀x∈l,dO x.mode)(hr:d5 d n c)(hm:∀i∈c.items,dO i.mode)
  (k:∀c' outs,d5 d n c'→(∀i∈c'.items,dO i.mode)→c'.items.length≤c.items.length+l.length→c'.aA≤c.aA+l.length→K (.tuple [.agg (mY c'),sl CF outs]) h):C 7 [.agg (eN n),.agg (mY c),sl yO l] h K:=by
 refine bG (e7 ?_)
 have hil:=hr.2.2.2.1.2
 have hc:M3 c:=⟨vE hn hr.1,by omega,fun i hi=>(hm i hi).sm⟩
 refine Zr ?_
 refine c19 hc ?_
 refine Zr ?_
 try rw[bU _ _ (by rw[lH])]
 try simp only[go_sem,reduceAdd,reduceMul,reduceSub,aa,reduceEqDiff,reduceLT]
 refine cD (σ:=Nat×aL×pU×AV×List fN) (fun s=> [iv s.1,iv l.length,sl yO l,.ptr h.aA 0,.ptr (h.aA+1) 0,s.2.2.2.1,.ptr (h.aA+2) 0]) (fun s=>s.2.1)
  (fun s=>s.1≤l.length∧bW h.aA h s.2.1∧aP s.2.1 h.aA=some (.cells (eN n))∧aP s.2.1 (h.aA+1)=some (.cells (mY s.2.2.1))∧aP s.2.1 (h.aA+2)=some (.cells [.aB,.aB,iv 0,iv 0])∧h.aA+3≤s.2.1.aA∧
   dG (h.aA+3) 3 CF s.2.1 s.2.2.2.1 s.2.2.2.2∧s.2.2.2.2.length=s.1∧d5 d n s.2.2.1∧(∀i∈s.2.2.1.items,dO i.mode)∧s.2.2.1.items.length≤c.items.length+s.1∧s.2.2.1.aA≤c.aA+s.1) (fun s=>l.length-s.1) ?_
  (0,bI (nw (nw (nw h (.cells (eN n))) (.cells (mY c))) (.cells [.aB,.aB,iv 0,iv 0])) (h.aA+1) (.cells (mY c)),c,.aB,[]) ⟨aH _,?_,?_,?_,?_,?_,.aB,rfl,hr,hm,by simp,by simp⟩ (A:=an7) (cur:=0)
 ·rintro⟨i,g,cc,v,outs⟩ ⟨hi,ho,g0,g1,g2,hg,hO,hol,rc,mc,lc,nc⟩
  simp only at hi ho g0 g1 g2 hg hO hol rc mc lc nc
  refine aOe ?_
  refine Zr ?_
  refine⟨fun hl'=> ?_,fun hl'=> ?_⟩
  ·have hlt:i<l.length:=by omega
   have e:=aC hlt
   obtain⟨o,hoo⟩:∃o,o=l[i]:=⟨_,rfl⟩
   rw[←hoo]at e
   have hom:=hlm o (aG e)
   rw[bV tH e]
   refine Zr ?_
   rw[bU _ _ (by rw[tH];rfl)]
   refine Zr ?_
   obtain⟨G,hG⟩:∃G,G=nw (bI (nw g (.cells [iv 0,iv 0,iv 0,.aB,.aB,.aB,iv 0])) g.aA (.cells (yO o))) (.cells [iv 0,iv 0,.aB]):=⟨_,rfl⟩
   rw[←hG]
   have nG:G.aA=g.aA+2:=by rw[hG];exact Zr trivial
   have oG:∀b,b<g.aA→aP G b=aP g b:=fun b hb=>by rw[hG,bF,if_neg (by rw[bC,aT];omega),aX,if_neg (by omega),bF,if_neg (by omega)]
   have sG:aP G (g.aA+1)=some (.cells [iv 0,iv 0,.aB]):=by rw[hG,show g.aA+1=(bI (nw g (.cells [iv 0,iv 0,iv 0,.aB,.aB,.aB,iv 0])) g.aA (.cells (yO o))).aA by rw[bC,aT]];exact bQ _ _
   clear hG
   have G0:aP G h.aA=some (.cells (eN n)):=by rw[oG _ (by omega)];exact g0
   have G1:aP G (h.aA+1)=some (.cells (mY cc)):=by rw[oG _ (by omega)];exact g1
   have G2:aP G (h.aA+2)=some (.cells [.aB,.aB,iv 0,iv 0]):=by rw[oG _ (by omega)];exact g2
   refine Z2 G0 G1 ?_
   have hds:uZ d ⟨n,cc,o⟩:=⟨hn,vE hn rc.1,by have:=rc.2.2.2.1.2;show cc.items.length<_;omega,mc⟩
   refine c9 (d:=d) (x:=⟨n,cc,o⟩) hds hj hom rc fun r hD=> ?_
   obtain⟨kr,kl⟩:=Y7 hD rc hk
   generalize GI ⟨n,cc,o⟩ r=c2 at kr kl⊢
   generalize JF r=a2
   have kr:d5 d n c2:=kr
   have e1:(g.aA+1=h.aA+1)=False:=eq_false (by omega)
   have e2:(h.aA+1=g.aA+1)=False:=eq_false (by omega)
   refine Z1 G1 ?_
   rw[bU _ _ (by rw[lH];rfl)]
   refine Z3 e1 e2 sG ?_
   rw[bU _ _ (by rw[mH];rfl)]
   refine Z3 e1 e2 sG ?_
   rw[bU _ _ (by rw[mH];rfl)]
   refine Z3 e1 e2 sG ?_
   obtain⟨G3,MO⟩:∃G3,G3=nw (bI (bI G (h.aA+1) (.cells (mY c2))) (g.aA+1) (.cells (CF a2))) (.cells (CF a2)):=⟨_,rfl⟩
   rw[←MO]
   have n3:G3.aA=G.aA+1:=by rw[MO];exact Zr trivial
   have o3:∀b,b<g.aA→b≠h.aA+1→aP G3 b=aP g b:=fun b hb hn=>by rw[MO,bF,if_neg (by rw[bC,bC];omega),aX,if_neg (by omega),aX,if_neg hn];exact oG b hb
   have s3:aP G3 (h.aA+1)=some (.cells (mY c2)):=by rw[MO,bF,if_neg (by rw[bC,bC];omega),aX,if_neg (by omega)];exact aU _ _ _
   have t3:aP G3 G.aA=some (.cells (CF a2)):=by rw[MO,show G.aA=(bI (bI G (h.aA+1) (.cells (mY c2))) (g.aA+1) (.cells (CF a2))).aA by rw[bC,bC]];exact bQ _ _
   clear MO
   have hO2:=hO.mono (h':=G3) (by omega) (fun b hb=>by have:=hO.own hb;exact o3 b (by omega) (by omega))
   obtain⟨v2,g5,a1,a2',a3,a4,a5,a6⟩:=hO2.app (xs:= [a2]) (x:= .slice G.aA 0 1 1 0) mH (by omega) (fun y _=>ZH y) (by simp) rfl (iE (l:=CF a2) t3 (by rw[mH];rfl)) (by simp;omega)
   refine Z1 a1 ?_
   have keep:∀b,b<h.aA+3→b≠h.aA+1→aP g5 b=aP g b:=fun b hb hn=>by rw[a4 b (by omega) (hO2.old (by omega)),o3 b (by omega) hn]
   refine bT (by omega) (by omega) ⟨⟨rfl,a2'.seen⟩,(i+1,g5,c2,v2,outs++ [a2]),⟨hlt,fun b hb=>(keep b (by omega) (by omega)).trans (ho b hb),by show aP g5 _=_;rw[keep _ (by omega) (by omega)];exact g0,?_,by show aP g5 _=_;rw[keep _ (by omega) (by omega)];exact g2,by show _≤g5.aA;omega,a2',by simp[hol],kr,kl.mods mc hom,?_,?_⟩,(by omega),rfl,rfl⟩
   ·show aP g5 _=_
    rw[a4 _ (by omega) (hO2.old (by omega))];exact s3
   ·have:=kl.len;show c2.items.length≤c.items.length+(i+1);have:c2.items.length≤cc.items.length+1:=this;omega
   ·have:=kl.aA;show c2.aA≤c.aA+((i+1:Nat):Int);have:c2.aA≤cc.aA+1:=this;omega
  ·have:i=l.length:=by omega
   subst this
   have e1:(h.aA+2=h.aA+1)=False:=eq_false (by omega)
   refine Z2 g1 g2 ?_
   rw[bU _ _ (by rw[lH];rfl)]
   refine Zr ?_
   refine⟨hO.seen,hO.seen,?_⟩
   have fz:=hO.fz' (m:=h.aA) (by omega) mH (fun x _=>GR x)
   unfold cl
   refine⟨bW.set ho (by omega),_,.tuple (.cons (.same (zN _)) (.cons ?_ .nil)),k cc outs rc mc lc nc⟩
   exact(hO.mono (h':=bI g (h.aA+2) (.cells (mY cc))) (by rw[bC];omega) (fun b hb=>by have:=hO.own hb;rw[aX,if_neg (by omega)])).fz' (by omega) mH (fun x _=>GR x)
 ·exact Oq
 ·exact Zr trivial
 ·exact Zr trivial
 ·exact Zr trivial
 ·refine Zr ?_;omega
end
section
attribute [local irreducible] cl uE
theorem vC{α:Type}{f:α→List AV}{l:List α}{m i:Nat}(hi:i≤l.length):iQ none (some (iv i)) none (sl f l) (.sl m)=some (.rslice ((l.take i).flatMap f++(l.drop i).flatMap f) i l.length false):=by
 rw[←List.flatMap_append,List.take_append_drop]
 show N4 (l.flatMap f) l.length m false (nN 0 i l.length)=_
 have h2:nN 0 i l.length=some (0,i):=by
  show(bif Nat.ble i l.length&&Nat.ble 0 i then some (0,i)else none)=_
  rw[show Nat.ble i l.length=true from ble_eq.2 hi,show Nat.ble 0 i=true from ble_eq.2 (aH _)];rfl
 rw[h2]
 show some (AV.rslice (drop (Nat.mul 0 m) (l.flatMap f)) (i-0) (l.length-0) false)=_
 rw[show Nat.mul 0 m=0 from Nat.zero_mul m]
 rfl
theorem JD{α:Type}{f:Nat}{e:α→List AV}{l:List α}{i c:Nat}{b:List AV}{args:List AV}(hi:i≤l.length)(s:C f (sl e (l.take i)::args) h K):C f (.rslice ((l.take i).flatMap e++b) i c false::args) h K:=by
 have e1:sl e (l.take i)= .rslice ((l.take i).flatMap e) i i false:=by
  show AV.rslice _ (l.take i).length (l.take i).length false=_
  rw[List.length_take,Nat.min_eq_left hi]
 rw[e1]at s
 have same:∀args:List AV,qC args args:=fun args=>by
  induction args with
  |nil=>exact .nil
  |cons a l ih=>exact .same ih
 exact M1 (.cut (same args)) s
theorem t228{l:List (List Nat)}{fv:AV}(hl:l.length<2^40)(hs:aQ fv=true)
  (hp:∀x∈l,∀K:KH,(∀b,K (.bool b) h)→CV fv [.str x] h K) (k:∀n:Int,K (iv n) h):C 228 [sl (fun s:List Nat=> [AV.str s]) l,fv] h K:=by
 refine aPj ?_
 refine Sr ?_
 refine cD (σ:=Nat) (fun i=> [iv i,iv l.length,fv,sl (fun s:List Nat=> [AV.str s]) l,iv 0]) (fun _=>h) (fun i=>i≤l.length) (fun i=>l.length-i) ?_ 0 (aH _) (A:=X6) (cur:=0)
 rintro i hi
 refine aEk ?_
 refine Sr ?_
 refine⟨fun q=> ?_,fun q=> ?_⟩
 ·have hil:i<l.length:=by omega
  have ee:=aC hil
  rw[bV (n:=1) (fun _=>rfl) ee]
  refine Sr ?_
  refine hp _ (List.getElem_mem hil) _ (fun b=> ?_)
  cases b
  ·refine Sr ?_
   exact bT (by omega) (by omega) ⟨⟨rfl,hs⟩,i+1,hil,(by omega),rfl⟩
  ·refine S1 hs ?_
   exact k _
 ·refine S1 hs ?_
  exact k _
theorem aK3{l:List (List Nat)}{fv:AV}(hl:l.length<2^40)(hs:aQ fv=true)
  (hp:∀x∈l,∀K:KH,(∀b,K (.bool b) h)→CV fv [.str x] h K) (k:∀b,K (.bool b) h):C 122 [sl (fun s:List Nat=> [AV.str s]) l,fv] h K:=by
 refine aON ?_
 refine t228 hl hs hp fun n=> ?_
 refine Sr ?_
 exact⟨fun q=>k _,fun q=>k _⟩
theorem aK4{l:List Place}{fv:AV}(hl:l.length<2^40)(hs:aQ fv=true)
  (hp:∀x∈l,∀K:KH,(∀b,K (.bool b) h)→CV fv [.agg (oV x)] h K) (k:∀n:Int,K (iv n) h):C 224 [sl oV l,fv] h K:=by
 refine aPh ?_
 refine Sr ?_
 refine cD (σ:=Nat) (fun i=> [iv i,iv l.length,fv,sl oV l,iv 0]) (fun _=>h) (fun i=>i≤l.length) (fun i=>l.length-i) ?_ 0 (aH _) (A:=X4) (cur:=0)
 rintro i hi
 refine aEj ?_
 refine Sr ?_
 refine⟨fun q=> ?_,fun q=> ?_⟩
 ·have hil:i<l.length:=by omega
  have ee:=aC hil
  rw[bV (n:=3) jW ee]
  refine Sr ?_
  refine hp _ (List.getElem_mem hil) _ (fun b=> ?_)
  cases b
  ·refine Sr ?_
   exact bT (by omega) (by omega) ⟨⟨rfl,hs⟩,i+1,hil,(by omega),rfl⟩
  ·refine S1 hs ?_
   exact k _
 ·refine S1 hs ?_
  exact k _
theorem aK5{l:List Place}{fv:AV}(hl:l.length<2^40)(hs:aQ fv=true)
  (hp:∀x∈l,∀K:KH,(∀b,K (.bool b) h)→CV fv [.agg (oV x)] h K) (k:∀b,K (.bool b) h):C 129 [sl oV l,fv] h K:=by
 refine aOT ?_
 refine aK4 hl hs hp fun n=> ?_
 refine Sr ?_
 exact⟨fun q=>k _,fun q=>k _⟩
theorem aK6{l:List Task}{fv:AV}(hl:l.length<2^40)(hs:aQ fv=true)
  (hp:∀x∈l,∀K:KH,(∀b,K (.bool b) h)→CV fv [.agg (eT x)] h K) (k:∀n:Int,K (iv n) h):C 231 [sl eT l,fv] h K:=by
 refine aPl ?_
 refine Sr ?_
 refine cD (σ:=Nat) (fun i=> [iv i,iv l.length,fv,sl eT l,iv 0]) (fun _=>h) (fun i=>i≤l.length) (fun i=>l.length-i) ?_ 0 (aH _) (A:=YA) (cur:=0)
 rintro i hi
 refine aEm ?_
 refine Sr ?_
 refine⟨fun q=> ?_,fun q=> ?_⟩
 ·have hil:i<l.length:=by omega
  have ee:=aC hil
  rw[bV (n:=14) eS ee]
  refine Sr ?_
  refine hp _ (List.getElem_mem hil) _ (fun b=> ?_)
  cases b
  ·refine Sr ?_
   exact bT (by omega) (by omega) ⟨⟨rfl,hs⟩,i+1,hil,(by omega),rfl⟩
  ·refine S1 hs ?_
   exact k _
 ·refine S1 hs ?_
  exact k _
theorem aK7{l:List Task}{fv:AV}(hl:l.length<2^40)(hs:aQ fv=true)
  (hp:∀x∈l,∀K:KH,(∀b,K (.bool b) h)→CV fv [.agg (eT x)] h K) (k:∀b,K (.bool b) h):C 139 [sl eT l,fv] h K:=by
 refine aO3 ?_
 refine aK6 hl hs hp fun n=> ?_
 refine Sr ?_
 exact⟨fun q=>k _,fun q=>k _⟩
theorem aK8{l:List EM}{fv:AV}(hl:l.length<2^40)(hs:aQ fv=true)
  (hp:∀x∈l,∀K:KH,(∀b,K (.bool b) h)→CV fv [.agg (gN x)] h K) (k:∀n:Int,K (iv n) h):C 324 [sl gN l,fv] h K:=by
 refine aPD ?_
 refine Sr ?_
 refine cD (σ:=Nat) (fun i=> [iv i,iv l.length,fv,sl gN l,iv 0]) (fun _=>h) (fun i=>i≤l.length) (fun i=>l.length-i) ?_ 0 (aH _) (A:=YI) (cur:=0)
 rintro i hi
 refine aEq ?_
 refine Sr ?_
 refine⟨fun q=> ?_,fun q=> ?_⟩
 ·have hil:i<l.length:=by omega
  have ee:=aC hil
  rw[bV (n:=2) jX ee]
  refine Sr ?_
  refine hp _ (List.getElem_mem hil) _ (fun b=> ?_)
  cases b
  ·refine Sr ?_
   exact bT (by omega) (by omega) ⟨⟨rfl,hs⟩,i+1,hil,(by omega),rfl⟩
  ·refine S1 hs ?_
   exact k _
 ·refine S1 hs ?_
  exact k _
theorem aK9{l:List EM}{fv:AV}(hl:l.length<2^40)(hs:aQ fv=true)
  (hp:∀x∈l,∀K:KH,(∀b,K (.bool b) h)→CV fv [.agg (gN x)] h K) (k:∀b,K (.bool b) h):C 238 [sl gN l,fv] h K:=by
 refine aPs ?_
 refine aK8 hl hs hp fun n=> ?_
 refine Sr ?_
 exact⟨fun q=>k _,fun q=>k _⟩
theorem aLa{l:List (Int×Int)}{fv:AV}(hl:l.length<2^40)(hs:aQ fv=true)
  (hp:∀x∈l,∀K:KH,(∀b,K (.bool b) h)→CV fv [.agg (eR x)] h K) (k:∀n:Int,K (iv n) h):C 230 [sl eR l,fv] h K:=by
 refine aPk ?_
 refine Sr ?_
 refine cD (σ:=Nat) (fun i=> [iv i,iv l.length,fv,sl eR l,iv 0]) (fun _=>h) (fun i=>i≤l.length) (fun i=>l.length-i) ?_ 0 (aH _) (A:=X8) (cur:=0)
 rintro i hi
 refine aEl ?_
 refine Sr ?_
 refine⟨fun q=> ?_,fun q=> ?_⟩
 ·have hil:i<l.length:=by omega
  have ee:=aC hil
  rw[bV (n:=2) uL ee]
  refine Sr ?_
  refine hp _ (List.getElem_mem hil) _ (fun b=> ?_)
  cases b
  ·refine Sr ?_
   exact bT (by omega) (by omega) ⟨⟨rfl,hs⟩,i+1,hil,(by omega),rfl⟩
  ·refine S1 hs ?_
   exact k _
 ·refine S1 hs ?_
  exact k _
theorem aLb{l:List (Int×Int)}{fv:AV}(hl:l.length<2^40)(hs:aQ fv=true)
  (hp:∀x∈l,∀K:KH,(∀b,K (.bool b) h)→CV fv [.agg (eR x)] h K) (k:∀b,K (.bool b) h):C 134 [sl eR l,fv] h K:=by
 refine aOY ?_
 refine aLa hl hs hp fun n=> ?_
 refine Sr ?_
 exact⟨fun q=>k _,fun q=>k _⟩
end
section
attribute [local irreducible] cl uE
theorem c66{l:List Place}{fv:AV}{P:Nat→Place→Int→Prop}(hl:l.length<2^40)(hs:aQ fv=true)
  (ask:∀i x,l[i]?=some x→∀(g:aL) (K:KH),h.aA≤g.aA→bW h.aA h g→(∀e,P i x e→K (iv e) g)→CV fv [iv i,.agg (oV x)] g K)
  (k:∀k e,(e=0→∀i x,l[i]?=some x→P i x 0)→K (.tuple [iv k,iv e]) h):C 66 [sl oV l,fv] h K:=by
 refine bG (e66 ?_)
 refine Zr ?_
 refine cD (σ:=Nat×aL) (fun s=> [iv s.1,iv l.length,sl oV l,fv,iv 0,iv 0]) (fun s=>s.2) (fun s=>s.1≤l.length∧h.aA≤s.2.aA∧bW h.aA h s.2∧∀i x,l[i]?=some x→i<s.1→P i x 0) (fun s=>l.length-s.1) ?_ (0,h) ⟨aH _,aE _,bW.refl _ _,fun i x _ h=>absurd h (Nat.not_lt_zero _)⟩ (A:=aEg) (cur:=0)
 rintro⟨i,g⟩ ⟨hi,hg,ho,hP⟩
 simp only at hi hg ho hP
 refine aIr ?_
 refine Zr ?_
 refine⟨fun q=> ?_,fun q=> ?_⟩
 ·have hil:i<l.length:=by omega
  have ee:=aC hil
  obtain⟨x,hx⟩:∃x,x=l[i]:=⟨_,rfl⟩
  rw[←hx]at ee
  rw[bV (n:=3) jW ee]
  refine Zr ?_
  rw[bU _ _ (by rw[jW];rfl)]
  refine Zr ?_
  obtain⟨G,hG⟩:∃G,G=bI (nw g (.cells [.str [],iv 0,.aB])) g.aA (.cells (oV x)):=⟨_,rfl⟩
  rw[←hG]
  have nG:G.aA=g.aA+1:=by rw[hG,fK]
  have oG:bW h.aA h G:=fun b hb=>by rw[hG,g8 _ _ _ (by omega)];exact ho b hb
  clear hG
  refine ask i x ee _ _ (by omega) oG fun e he=> ?_
  refine Zr ?_
  refine⟨fun q=> ?_,fun q=> ?_⟩
  ·rw[q]at he
   refine Z1 hs ?_
   refine bT (by omega) (by omega) ⟨rfl,(i+1,G),⟨hil,by show _≤G.aA;omega,oG,fun j y hy hj=> ?_⟩,(by omega),rfl,rfl⟩
   by_cases hji:j=i
   ·subst hji;rw[ee]at hy;cases hy;exact he
   ·exact hP j y hy (by simp only at hj;omega)
  ·refine Z1 hs ?_
   exact bA oG rfl (k _ _ (fun z=>absurd z q))
 ·refine Z1 hs ?_
  exact bA ho rfl (k _ _ fun _ j y hy=>hP j y hy (by have:=(aD.1 hy).1;omega))
theorem c69{l:List Task}{fv:AV}{P:Nat→Task→Int→Prop}(hl:l.length<2^40)(hs:aQ fv=true)
  (ask:∀i x,l[i]?=some x→∀(g:aL) (K:KH),h.aA≤g.aA→bW h.aA h g→(∀e,P i x e→K (iv e) g)→CV fv [iv i,.agg (eT x)] g K)
  (k:∀k e,(e=0→∀i x,l[i]?=some x→P i x 0)→K (.tuple [iv k,iv e]) h):C 69 [sl eT l,fv] h K:=by
 refine bG (e69 ?_)
 refine Zr ?_
 refine cD (σ:=Nat×aL) (fun s=> [iv s.1,iv l.length,sl eT l,fv,iv 0,iv 0]) (fun s=>s.2) (fun s=>s.1≤l.length∧h.aA≤s.2.aA∧bW h.aA h s.2∧∀i x,l[i]?=some x→i<s.1→P i x 0) (fun s=>l.length-s.1) ?_ (0,h) ⟨aH _,aE _,bW.refl _ _,fun i x _ h=>absurd h (Nat.not_lt_zero _)⟩ (A:=aEh) (cur:=0)
 rintro⟨i,g⟩ ⟨hi,hg,ho,hP⟩
 simp only at hi hg ho hP
 refine aIs ?_
 refine Zr ?_
 refine⟨fun q=> ?_,fun q=> ?_⟩
 ·have hil:i<l.length:=by omega
  have ee:=aC hil
  obtain⟨x,hx⟩:∃x,x=l[i]:=⟨_,rfl⟩
  rw[←hx]at ee
  rw[bV (n:=14) eS ee]
  refine Zr ?_
  rw[bU _ _ (by rw[eS];rfl)]
  refine Zr ?_
  obtain⟨G,hG⟩:∃G,G=bI (nw g (.cells [.str [],.aB,iv 0,iv 0,.aB,iv 0,iv 0,.aB,.aB,.aB,iv 0,iv 0,iv 0,iv 0])) g.aA (.cells (eT x)):=⟨_,rfl⟩
  rw[←hG]
  have nG:G.aA=g.aA+1:=by rw[hG,fK]
  have oG:bW h.aA h G:=fun b hb=>by rw[hG,g8 _ _ _ (by omega)];exact ho b hb
  clear hG
  refine ask i x ee _ _ (by omega) oG fun e he=> ?_
  refine Zr ?_
  refine⟨fun q=> ?_,fun q=> ?_⟩
  ·rw[q]at he
   refine Z1 hs ?_
   refine bT (by omega) (by omega) ⟨rfl,(i+1,G),⟨hil,by show _≤G.aA;omega,oG,fun j y hy hj=> ?_⟩,(by omega),rfl,rfl⟩
   by_cases hji:j=i
   ·subst hji;rw[ee]at hy;cases hy;exact he
   ·exact hP j y hy (by simp only at hj;omega)
  ·refine Z1 hs ?_
   exact bA oG rfl (k _ _ (fun z=>absurd z q))
 ·refine Z1 hs ?_
  exact bA ho rfl (k _ _ fun _ j y hy=>hP j y hy (by have:=(aD.1 hy).1;omega))
theorem aKZ{l:List cC}{fv:AV}{P:Nat→cC→Int→Prop}(hl:l.length<2^40)(hs:aQ fv=true)
  (ask:∀i x,l[i]?=some x→∀(g:aL) (K:KH),h.aA≤g.aA→bW h.aA h g→(∀e,P i x e→K (iv e) g)→CV fv [iv i,.agg (eC x)] g K)
  (k:∀k e,(e=0→∀i x,l[i]?=some x→P i x 0)→K (.tuple [iv k,iv e]) h):C 118 [sl eC l,fv] h K:=by
 refine bG (aOJ ?_)
 refine Zr ?_
 refine cD (σ:=Nat×aL) (fun s=> [iv s.1,iv l.length,sl eC l,fv,iv 0,iv 0]) (fun s=>s.2) (fun s=>s.1≤l.length∧h.aA≤s.2.aA∧bW h.aA h s.2∧∀i x,l[i]?=some x→i<s.1→P i x 0) (fun s=>l.length-s.1) ?_ (0,h) ⟨aH _,aE _,bW.refl _ _,fun i x _ h=>absurd h (Nat.not_lt_zero _)⟩ (A:=X2) (cur:=0)
 rintro⟨i,g⟩ ⟨hi,hg,ho,hP⟩
 simp only at hi hg ho hP
 refine aEi ?_
 refine Zr ?_
 refine⟨fun q=> ?_,fun q=> ?_⟩
 ·have hil:i<l.length:=by omega
  have ee:=aC hil
  obtain⟨x,hx⟩:∃x,x=l[i]:=⟨_,rfl⟩
  rw[←hx]at ee
  rw[bV (n:=7) qV ee]
  refine Zr ?_
  rw[bU _ _ (by rw[qV];rfl)]
  refine Zr ?_
  obtain⟨G,hG⟩:∃G,G=bI (nw g (.cells [.str [],iv 0,iv 0,iv 0,.aB,iv 0,iv 0])) g.aA (.cells (eC x)):=⟨_,rfl⟩
  rw[←hG]
  have nG:G.aA=g.aA+1:=by rw[hG,fK]
  have oG:bW h.aA h G:=fun b hb=>by rw[hG,g8 _ _ _ (by omega)];exact ho b hb
  clear hG
  refine ask i x ee _ _ (by omega) oG fun e he=> ?_
  refine Zr ?_
  refine⟨fun q=> ?_,fun q=> ?_⟩
  ·rw[q]at he
   refine Z1 hs ?_
   refine bT (by omega) (by omega) ⟨rfl,(i+1,G),⟨hil,by show _≤G.aA;omega,oG,fun j y hy hj=> ?_⟩,(by omega),rfl,rfl⟩
   by_cases hji:j=i
   ·subst hji;rw[ee]at hy;cases hy;exact he
   ·exact hP j y hy (by simp only at hj;omega)
  ·refine Z1 hs ?_
   exact bA oG rfl (k _ _ (fun z=>absurd z q))
 ·refine Z1 hs ?_
  exact bA ho rfl (k _ _ fun _ j y hy=>hP j y hy (by have:=(aD.1 hy).1;omega))
theorem aK0{l:List EM}{fv:AV}{P:Nat→EM→Int→Prop}(hl:l.length<2^40)(hs:aQ fv=true)
  (ask:∀i x,l[i]?=some x→∀(g:aL) (K:KH),h.aA≤g.aA→bW h.aA h g→(∀e,P i x e→K (iv e) g)→CV fv [iv i,.agg (gN x)] g K)
  (k:∀k e,(e=0→∀i x,l[i]?=some x→P i x 0)→K (.tuple [iv k,iv e]) h):C 233 [sl gN l,fv] h K:=by
 refine bG (aPn ?_)
 refine Zr ?_
 refine cD (σ:=Nat×aL) (fun s=> [iv s.1,iv l.length,sl gN l,fv,iv 0,iv 0]) (fun s=>s.2) (fun s=>s.1≤l.length∧h.aA≤s.2.aA∧bW h.aA h s.2∧∀i x,l[i]?=some x→i<s.1→P i x 0) (fun s=>l.length-s.1) ?_ (0,h) ⟨aH _,aE _,bW.refl _ _,fun i x _ h=>absurd h (Nat.not_lt_zero _)⟩ (A:=YC) (cur:=0)
 rintro⟨i,g⟩ ⟨hi,hg,ho,hP⟩
 simp only at hi hg ho hP
 refine aEn ?_
 refine Zr ?_
 refine⟨fun q=> ?_,fun q=> ?_⟩
 ·have hil:i<l.length:=by omega
  have ee:=aC hil
  obtain⟨x,hx⟩:∃x,x=l[i]:=⟨_,rfl⟩
  rw[←hx]at ee
  rw[bV (n:=2) jX ee]
  refine Zr ?_
  rw[bU _ _ (by rw[jX];rfl)]
  refine Zr ?_
  obtain⟨G,hG⟩:∃G,G=bI (nw g (.cells [.str [],iv 0])) g.aA (.cells (gN x)):=⟨_,rfl⟩
  rw[←hG]
  have nG:G.aA=g.aA+1:=by rw[hG,fK]
  have oG:bW h.aA h G:=fun b hb=>by rw[hG,g8 _ _ _ (by omega)];exact ho b hb
  clear hG
  refine ask i x ee _ _ (by omega) oG fun e he=> ?_
  refine Zr ?_
  refine⟨fun q=> ?_,fun q=> ?_⟩
  ·rw[q]at he
   refine Z1 hs ?_
   refine bT (by omega) (by omega) ⟨rfl,(i+1,G),⟨hil,by show _≤G.aA;omega,oG,fun j y hy hj=> ?_⟩,(by omega),rfl,rfl⟩
   by_cases hji:j=i
   ·subst hji;rw[ee]at hy;cases hy;exact he
   ·exact hP j y hy (by simp only at hj;omega)
  ·refine Z1 hs ?_
   exact bA oG rfl (k _ _ (fun z=>absurd z q))
 ·refine Z1 hs ?_
  exact bA ho rfl (k _ _ fun _ j y hy=>hP j y hy (by have:=(aD.1 hy).1;omega))
theorem aK1{l:List yN}{fv:AV}{P:Nat→yN→Int→Prop}(hl:l.length<2^40)(hs:aQ fv=true)
  (ask:∀i x,l[i]?=some x→∀(g:aL) (K:KH),h.aA≤g.aA→bW h.aA h g→(∀e,P i x e→K (iv e) g)→CV fv [iv i,.agg (iM x)] g K)
  (k:∀k e,(e=0→∀i x,l[i]?=some x→P i x 0)→K (.tuple [iv k,iv e]) h):C 243 [sl iM l,fv] h K:=by
 refine bG (aPu ?_)
 refine Zr ?_
 refine cD (σ:=Nat×aL) (fun s=> [iv s.1,iv l.length,sl iM l,fv,iv 0,iv 0]) (fun s=>s.2) (fun s=>s.1≤l.length∧h.aA≤s.2.aA∧bW h.aA h s.2∧∀i x,l[i]?=some x→i<s.1→P i x 0) (fun s=>l.length-s.1) ?_ (0,h) ⟨aH _,aE _,bW.refl _ _,fun i x _ h=>absurd h (Nat.not_lt_zero _)⟩ (A:=YE) (cur:=0)
 rintro⟨i,g⟩ ⟨hi,hg,ho,hP⟩
 simp only at hi hg ho hP
 refine aEo ?_
 refine Zr ?_
 refine⟨fun q=> ?_,fun q=> ?_⟩
 ·have hil:i<l.length:=by omega
  have ee:=aC hil
  obtain⟨x,hx⟩:∃x,x=l[i]:=⟨_,rfl⟩
  rw[←hx]at ee
  rw[bV (n:=4) oW ee]
  refine Zr ?_
  rw[bU _ _ (by rw[oW];rfl)]
  refine Zr ?_
  obtain⟨G,hG⟩:∃G,G=bI (nw g (.cells [iv 0,iv 0,iv 0,.aB])) g.aA (.cells (iM x)):=⟨_,rfl⟩
  rw[←hG]
  have nG:G.aA=g.aA+1:=by rw[hG,fK]
  have oG:bW h.aA h G:=fun b hb=>by rw[hG,g8 _ _ _ (by omega)];exact ho b hb
  clear hG
  refine ask i x ee _ _ (by omega) oG fun e he=> ?_
  refine Zr ?_
  refine⟨fun q=> ?_,fun q=> ?_⟩
  ·rw[q]at he
   refine Z1 hs ?_
   refine bT (by omega) (by omega) ⟨rfl,(i+1,G),⟨hil,by show _≤G.aA;omega,oG,fun j y hy hj=> ?_⟩,(by omega),rfl,rfl⟩
   by_cases hji:j=i
   ·subst hji;rw[ee]at hy;cases hy;exact he
   ·exact hP j y hy (by simp only at hj;omega)
  ·refine Z1 hs ?_
   exact bA oG rfl (k _ _ (fun z=>absurd z q))
 ·refine Z1 hs ?_
  exact bA ho rfl (k _ _ fun _ j y hy=>hP j y hy (by have:=(aD.1 hy).1;omega))
theorem aK2{l:List Int}{fv:AV}{P:Nat→Int→Int→Prop}(hl:l.length<2^40)(hs:aQ fv=true)
  (ask:∀i x,l[i]?=some x→∀(g:aL) (K:KH),h.aA≤g.aA→bW h.aA h g→(∀e,P i x e→K (iv e) g)→CV fv [iv i,iv x] g K)
  (k:∀k e,(e=0→∀i x,l[i]?=some x→P i x 0)→K (.tuple [iv k,iv e]) h):C 247 [sl fi l,fv] h K:=by
 refine bG (aPy ?_)
 refine Zr ?_
 refine cD (σ:=Nat×aL) (fun s=> [iv s.1,iv l.length,sl fi l,fv,iv 0,iv 0]) (fun s=>s.2) (fun s=>s.1≤l.length∧h.aA≤s.2.aA∧bW h.aA h s.2∧∀i x,l[i]?=some x→i<s.1→P i x 0) (fun s=>l.length-s.1) ?_ (0,h) ⟨aH _,aE _,bW.refl _ _,fun i x _ h=>absurd h (Nat.not_lt_zero _)⟩ (A:=YG) (cur:=0)
 rintro⟨i,g⟩ ⟨hi,hg,ho,hP⟩
 simp only at hi hg ho hP
 refine aEp ?_
 refine Zr ?_
 refine⟨fun q=> ?_,fun q=> ?_⟩
 ·have hil:i<l.length:=by omega
  have ee:=aC hil
  obtain⟨x,hx⟩:∃x,x=l[i]:=⟨_,rfl⟩
  rw[←hx]at ee
  rw[bV (n:=1) (fun _=>rfl) ee]
  refine Zr ?_
  refine ask i x ee _ _ (by omega) ho fun e he=> ?_
  refine Zr ?_
  refine⟨fun q=> ?_,fun q=> ?_⟩
  ·rw[q]at he
   refine Z1 hs ?_
   refine bT (by omega) (by omega) ⟨rfl,(i+1,g),⟨hil,by show _≤g.aA;omega,ho,fun j y hy hj=> ?_⟩,(by omega),rfl,rfl⟩
   by_cases hji:j=i
   ·subst hji;rw[ee]at hy;cases hy;exact he
   ·exact hP j y hy (by simp only at hj;omega)
  ·refine Z1 hs ?_
   exact bA ho rfl (k _ _ (fun z=>absurd z q))
 ·refine Z1 hs ?_
  exact bA ho rfl (k _ _ fun _ j y hy=>hP j y hy (by have:=(aD.1 hy).1;omega))
end
section
attribute [local irreducible] cl uE
def Kp(t:Nat)(h g:aL):Prop:=h.aA≤g.aA∧∀c,c<h.aA→c≠t→aP g c=aP h c
theorem Kp.refl(t:Nat)(h:aL):Kp t h h:=⟨aE _,fun _ _ _=>rfl⟩
theorem Kp.trans{t:Nat}{h g g':aL}(q:Kp t h g)(q':Kp t g g'):Kp t h g':=⟨Nat.le_trans q.1 q'.1,fun c hc ht=>(q'.2 c (Nat.lt_of_lt_of_le hc q.1) ht).trans (q.2 c hc ht)⟩
structure Ask where
 f:Nat
 c:List AV
 e:Int
abbrev Ask.v(a:Ask):AV:= .func (.func a.f) [] a.c
def mF(a:Ask):List AV:= [a.v,iv a.e]
@[go_sem]theorem BO(a:Ask):(mF a).length=2:=rfl
@[go_sem]theorem aKX(a:Ask):bR (mF a) 0=some a.v:=rfl
@[go_sem]theorem aKY(a:Ask):bR (mF a) 1=some (iv a.e):=rfl
theorem TM(a:Ask):aZ (mF a)=true:=rfl
theorem c60{t b:Nat}{I:aL→Prop}{Q:Nat→Prop}{J:Nat→aL→Prop}{fs:List Ask}(ht:t<h.aA)(hbn:b<h.aA)
  (hI:∀g g',I g→g.aA≤g'.aA→(∀c,c<g.aA→aP g' c=aP g c)→I g') (hb:∀g,I g→aP g b=some (.cells (fs.flatMap mF))) (h0:I h) (hl:fs.length<2^20)
  (ask:∀i p,fs[i]?=some p→∀(g:aL) (K:KH),I g→h.aA≤g.aA→(∀g',I g'→Kp t g g'→Q i→K (.bool true) g')→(∀g',I g'→Kp t g g'→J i g'→K (.bool false) g')→C p.f p.c g K)
  (k1:∀g,I g→Kp t h g→(∀i,i<fs.length→Q i)→K (iv 0) g) (k2:∀i p g,fs[i]?=some p→I g→Kp t h g→J i g→K (iv p.e) g):C 60 [.slice b 0 fs.length fs.length 0] h K:=by
 refine e60 ?_
 refine Zr ?_
 refine cD (σ:=Nat×aL) (fun s=> [iv s.1,iv fs.length,.slice b 0 fs.length fs.length 0,iv 0]) (fun s=>s.2) (fun s=>s.1≤fs.length∧I s.2∧Kp t h s.2∧∀i,i<s.1→Q i) (fun s=>fs.length-s.1) ?_ (0,h) ⟨aH _,h0,Kp.refl _ _,fun i h=>absurd h (Nat.not_lt_zero _)⟩ (A:=aEf) (cur:=0)
 rintro⟨i,g⟩ ⟨hi,hg,hk,hQ⟩
 simp only at hi hg hk hQ
 refine aIq ?_
 refine Zr ?_
 refine⟨fun q=> ?_,fun q=> ?_⟩
 ·have hil:i<fs.length:=by omega
  have ee:=aC hil
  obtain⟨p,hp⟩:∃p,p=fs[i]:=⟨_,rfl⟩
  rw[←hp]at ee
  have rd:rO 2 mF g (.slice b 0 fs.length fs.length 0) fs:= .inr (.inr ⟨b,0,fs.length,0,_,rfl,hb g hg,by rw[List.drop_zero,List.take_of_length_le (by rw[dA BO];omega)],by have:=hk.1;omega⟩)
  obtain⟨a,a1,a2⟩:=rd.ixw BO TM ee
  rw[a1]
  refine Z1 a2 ?_
  rw[nA (by rfl) (by rfl)]
  obtain⟨G,hG⟩:∃G,G=bI (nw g (.cells [.nilf,iv 0])) g.aA (.cells (mF p)):=⟨_,rfl⟩
  have nG:G.aA=g.aA+1:=by rw[hG,fK]
  have oG:∀b,b<g.aA→aP G b=aP g b:=fun b hb=>by rw[hG,g8 _ _ _ hb]
  have sG:aP G g.aA=some (.cells (mF p)):=by rw[hG];exact aU _ _ _
  refine Zr ?_
  rw[bU _ _ (by rw[BO];rfl)]
  refine Zr ?_
  rw[←hG]
  clear hG
  try simp only[go_sem,reduceAdd,reduceMul,reduceSub,aa,reduceEqDiff,reduceLT]
  have IG:I G:=hI g G hg (by omega) oG
  have kG:Kp t h G:=hk.trans ⟨by omega,fun c hc _=>oG c hc⟩
  refine ask i p ee G _ IG kG.1 (fun g' ig kg hq=> ?_) (fun g' ig kg hj=> ?_)
  ·refine Zr ?_
   refine bT (by omega) (by omega) ⟨rfl,(i+1,g'),⟨hil,ig,kG.trans kg,fun j hj=> ?_⟩,(by omega),rfl,rfl⟩
   by_cases hji:j=i
   ·rw[hji];exact hq
   ·exact hQ j (by simp only at hj;omega)
  ·have s1:aP g' g.aA=some (.cells (mF p)):=by rw[kg.2 _ (by omega) (by have:=hk.1;omega)];exact sG
   simp only[go_sem,reduceAdd,reduceMul,reduceSub,aa,reduceEqDiff,reduceLT,s1]
   exact k2 i p g' ee ig (kG.trans kg) hj
 ·have:i=fs.length:=by omega
  subst this
  try simp only[go_sem,reduceAdd,reduceMul,reduceSub,aa,reduceEqDiff,reduceLT]
  exact k1 g hg hk hQ
end
section
attribute [local irreducible] cl uE
theorem aKQ{l:List (List Nat)}{s:List Nat}(hl:l.length<2^40)(k:∀n:Int,K (iv n) h):C 387 [strs l,.str s] h K:=by
 refine aPK ?_
 refine Sr ?_
 refine cD (σ:=Nat) (fun i=> [iv i,iv l.length,.str s,strs l,iv 0]) (fun _=>h) (fun i=>i≤l.length) (fun i=>l.length-i) ?_ 0 (aH _) (A:=YQ) (cur:=0)
 rintro i hi
 refine aEz ?_
 refine Sr ?_
 refine⟨fun q=> ?_,fun q=> ?_⟩
 ·have hil:i<l.length:=by omega
  have ee:=aC hil
  rw[bV (f:=fun s=> [AV.str s]) (n:=1) (fun _=>rfl) ee]
  refine Sr ?_
  refine⟨fun q=>k _,fun q=> ?_⟩
  exact bT (by omega) (by omega) ⟨rfl,i+1,hil,(by omega),rfl⟩
 ·exact k _
theorem aKR{l:List (List Nat)}{s:List Nat}(hl:l.length<2^40)(k:∀b,K (.bool b) h):C 321 [strs l,.str s] h K:=by
 refine aPJ ?_
 refine aKQ hl fun n=> ?_
 refine Sr ?_
 exact⟨fun _=>k _,fun _=>k _⟩
theorem aKS{s:List Nat}(k:∀b,K (.bool b) h):C 227 [.str s] h K:=by
 refine aPi ?_
 refine aIH ?_
 refine aKR (by decide) fun b=> ?_
 exact⟨rfl,k b⟩
theorem TL{s:List Nat}(k:∀b,K (.bool b) h):C 121 [.str s] h K:=by
 refine aOM ?_
 refine aDf (fun _=> ?_) (fun _=> ?_)
 ·refine Zr ?_
  refine aKS fun b=> ?_
  cases b
  ·refine Zr ?_
   exact k _
  ·refine Zr ?_
   exact k _
 ·refine Zr ?_
  exact k _
theorem aKT{s:List Nat}(k:∀b,K (.bool b) h):C 123 [.str s] h K:=by
 refine aOO ?_
 refine TL fun b=> ?_
 cases b
 ·refine Zr ?_;exact k _
 ·refine Zr ?_;exact k _
theorem c63{l:List Place}{i:Int}(k1:0≤i∧i<l.length→K (.bool true) h)(k2:¬(0≤i∧i<l.length)→K (.bool false) h):C 63 [sl oV l,iv i] h K:=by
 refine e63 ?_
 refine Zr ?_
 exact⟨fun q1=>⟨fun q2=>k1 ⟨q1,q2⟩,fun q2=>k2 (fun q=>q2 q.2)⟩,fun q1=>k2 (fun q=>q1 q.1)⟩
theorem aFO{l:List cC}{i:Int}(k1:0≤i∧i<l.length→K (.bool true) h)(k2:¬(0≤i∧i<l.length)→K (.bool false) h):C 131 [sl eC l,iv i] h K:=by
 refine aOV ?_
 refine Zr ?_
 exact⟨fun q1=>⟨fun q2=>k1 ⟨q1,q2⟩,fun q2=>k2 (fun q=>q2 q.2)⟩,fun q1=>k2 (fun q=>q1 q.1)⟩
theorem c86{l:List Task}{i:Int}(k1:0≤i∧i<l.length→K (.bool true) h)(k2:¬(0≤i∧i<l.length)→K (.bool false) h):C 86 [sl eT l,iv i] h K:=by
 refine e86 ?_
 refine Zr ?_
 exact⟨fun q1=>⟨fun q2=>k1 ⟨q1,q2⟩,fun q2=>k2 (fun q=>q2 q.2)⟩,fun q1=>k2 (fun q=>q1 q.1)⟩
theorem bW.on{n:Nat}{h h' g:aL}(q:bW n h h')(hn:n≤h'.aA)(q':bW h'.aA h' g):bW n h g:=fun b hb=>(q' b (by omega)).trans (q b hb)
theorem aKU{p:Nat}{c:cC}(hp:aP h p=some (.cells (eC c)))(hc:c.names.length<2^40)(k:∀b,K (.bool b) h):C 120 [.ptr p 0] h K:=by
 refine aOL ?_
 refine Z1 hp ?_
 refine TL fun b=> ?_
 cases b
 ·refine Zr ?_;exact k _
 ·refine Z1 hp ?_
  refine⟨fun q=> ?_,fun q=> ?_⟩
  ·refine aK3 hc rfl (fun x _ K k=>by rw[kC];exact aKT k) fun b=> ?_
   cases b
   ·refine Zr ?_;exact k _
   ·refine Zr ?_;exact k _
  ·exact k _
theorem aKV{p q i:Nat}{n:dL}(hp:aP h p=some (.cells (eN n)))(hq:aP h q=some (.cells [iv i]))(hi:i<n.colours.length)(hl:n.colours.length<2^40)(hs:nR n.colours)(k:∀b,K (.bool b) h):C 124 [.ptr p 0,.ptr q 0] h K:=by
 refine aOP ?_
 refine Z2 hp hq ?_
 refine bT (by omega) (by omega) ?_
 rw[show((i:Int)+1)=((i+1:Nat):Int) by omega,vC (by omega)]
 refine Zr ?_
 refine JD (by omega) ?_
 refine aMq (fun c hc=>hs c (List.mem_of_mem_take hc)) (fun _=> ?_) (fun _=> ?_)
 ·exact⟨rfl,k _⟩
 ·exact⟨rfl,k _⟩
theorem Q7{b:Nat}{Q:Nat→Prop}{fs:List Ask}(hbn:b<h.aA)(hb:aP h b=some (.cells (fs.flatMap mF)))(hl:fs.length<2^20)
  (ask:∀(i:Nat) (p:Ask),fs[i]?=some p→∀(g:aL) (K:KH),h.aA≤g.aA→bW h.aA h g→(∀b,(b=true→Q i)→K (.bool b) g)→C p.f p.c g K)
  (k1:∀g,h.aA≤g.aA→bW h.aA h g→(∀i,i<fs.length→Q i)→K (iv 0) g) (k2:∀(i:Nat) (p:Ask) g,fs[i]?=some p→h.aA≤g.aA→bW h.aA h g→K (iv p.e) g):C 60 [.slice b 0 fs.length fs.length 0] h K:=
 c60 (t:=b) (I:=fun g=>h.aA≤g.aA∧bW h.aA h g) (Q:=Q) (J:=fun _ _=>True) hbn hbn (fun g g' ⟨a,o⟩ hn ho=>⟨by omega,fun c hc=>(ho c (by omega)).trans (o c hc)⟩) (fun g ⟨a,o⟩=>by rw[o b hbn];exact hb) ⟨aE _,bW.refl _ _⟩ hl
  (fun i p e g K ⟨a,o⟩ _ q1 q2=>ask i p e g K a o fun b hq=>by
   cases b
   ·exact q2 g ⟨a,o⟩ (Kp.refl _ _) trivial
   ·exact q1 g ⟨a,o⟩ (Kp.refl _ _) (hq rfl)) (fun g ⟨a,o⟩ _ hq=>k1 g a o hq) (fun i p g e ⟨a,o⟩ _ _=>k2 i p g e a o)
theorem aKW{p i:Nat}{n:dL}{c:cC}(hp:aP h p=some (.cells (eN n)))(hpn:p<h.aA)(hi:i<n.colours.length)(hl:n.colours.length<2^40)(hs:nR n.colours)(hc:c.names.length<2^40)(k:∀e,K (iv e) h):C 119 [iv i,.agg (eC c),.ptr p 0] h K:=by
 refine bG (aOK ?_)
 refine Zr ?_
 refine Q7 (fs:= [⟨124,[.ptr p 0,.ptr h.aA 0],8⟩,⟨120,[.ptr (h.aA+1) 0],8⟩]) (Q:=fun _=>True) (by refine Zr ?_;omega) (bQ _ _) (show 2<2^20 by decide) (fun i' p' e g K hn ho k=> ?_) (fun g hn ho _=> ?_) (fun i' p' g e hn ho=> ?_)
 ·have hn:h.aA+3≤g.aA:=by have:=hn;rw[aT,aT,aT]at this;exact this
  have o0:aP g p=some (.cells (eN n)):=by rw[ho p (by rw[aT,aT,aT];omega),bF,if_neg (by rw[aT,aT];omega),bF,if_neg (by rw[aT];omega),bF,if_neg (by omega)];exact hp
  have o1:aP g h.aA=some (.cells [iv i]):=by rw[ho _ (by rw[aT,aT,aT];omega)];exact Zr trivial
  have o2:aP g (h.aA+1)=some (.cells (eC c)):=by rw[ho _ (by rw[aT,aT,aT];omega)];exact Zr trivial
  match i',e with
  |0,e=>cases e;exact aKV o0 o1 hi hl hs fun b=>k b fun _=>trivial
  |1,e=>cases e;exact aKU o2 hc fun b=>k b fun _=>trivial
  |j+2,e=>cases e
 ·exact⟨rfl,bA (bW.on Oq (by refine Zr ?_;omega) ho) rfl (k _)⟩
 ·exact⟨rfl,bA (bW.on Oq (by refine Zr ?_;omega) ho) rfl (k _)⟩
theorem t65{n:dL}(hl:n.colours.length<2^40)(hs:nR n.colours)(k:∀a e,K (.tuple [iv a,iv e]) h):C 65 [.agg (eN n)] h K:=by
 refine bG (e65 ?_)
 refine Zr ?_
 refine aKZ (P:=fun _ _ _=>True) hl rfl (fun i c e g K hn ho k=> ?_) fun a e _=> ?_
 ·rw[kC]
  exact aKW (n:=n) (by rw[ho _ (by rw[aT];omega)];exact bQ _ _) (by rw[aT]at hn;omega) (aD.1 e).1 hl hs (hs c (aG e)) fun e=>k e trivial
 ·refine Zr ?_
  exact fP (k _ _)
end
section
attribute [local irreducible] cl uE
theorem aKJ{q:Nat}{x y:Place}(hq:aP h q=some (.cells (oV y)))(hqn:q<h.aA)(k:∀b,K (.bool b) h):C 126 [.agg (oV x),.ptr q 0] h K:=by
 refine bG (aOQ ?_)
 have e0:(q=h.aA)=False:=eq_false (by omega)
 refine Z2 hq e0 ?_
 exact⟨fun _=>fP (k _),fun _=>fP (k _)⟩
theorem aKK{q:Nat}{y:Place}(hq:aP h q=some (.cells (oV y)))(k:∀b,K (.bool b) h):C 127 [.ptr q 0] h K:=by
 refine aOR ?_
 refine Z1 hq ?_
 exact TL fun b=>⟨rfl,k b⟩
theorem aKL{p q r s i:Nat}{n:dL}{y:Place}(hp:aP h p=some (.cells (eN n)))(hq:aP h q=some (.cells [iv i]))(hr:aP h r=some (.cells [.func (.func 126) [] [.ptr s 0]]))(hs:aP h s=some (.cells (oV y)))(hsn:s<h.aA)
  (hi:i≤n.places.length) (hl:n.places.length<2^40) (k:∀b,K (.bool b) h):C 128 [.ptr p 0,.ptr q 0,.ptr r 0] h K:=by
 refine bG (aOS ?_)
 refine Z3 hp hq hr ?_
 rw[vC (by omega)]
 refine Z3 hp hq hr ?_
 refine JD (by omega) ?_
 refine aK5 (by rw[List.length_take];omega) rfl (fun x _ K k=> ?_) fun b=> ?_
 ·rw[kC]
  exact aKJ (y:=y) hs (by rw[cW];omega) k
 ·cases b
  ·refine Zr ?_;exact fP (k _)
  ·refine Zr ?_;exact fP (k _)
theorem aKM{p q:Nat}{n:dL}{y:Place}(hp:aP h p=some (.cells (eN n)))(hq:aP h q=some (.cells (oV y)))(k:∀b,K (.bool b) h):C 130 [.ptr p 0,.ptr q 0] h K:=by
 refine aOU ?_
 refine Z2 hp hq ?_
 exact aFO (fun _=>⟨rfl,k _⟩) (fun _=>⟨rfl,k _⟩)
theorem aKN{q:Nat}{y:Place}(hq:aP h q=some (.cells (oV y)))(hl:y.first.length<2^40)(k:∀b,K (.bool b) h):C 132 [.ptr q 0] h K:=by
 refine aOW ?_
 refine Z1 hq ?_
 exact c85 hl (fun _=>⟨rfl,k _⟩) (fun _=>⟨rfl,k _⟩)
theorem aKO{q:Nat}{x:Int×Int}{y:Int}(hq:aP h q=some (.cells [iv y]))(hqn:q<h.aA)(k:∀b,K (.bool b) h):C 135 [.agg (eR x),.ptr q 0] h K:=by
 refine bG (aOZ ?_)
 have e0:(q=h.aA)=False:=eq_false (by omega)
 refine Z2 hq e0 ?_
 exact⟨fun _=>fP (k _),fun _=>fP (k _)⟩
theorem aKP{p q:Nat}{n:dL}{y:Place}(hp:aP h p=some (.cells (eN n)))(hq:aP h q=some (.cells (oV y)))(hqn:q<h.aA)(hc:nR n.colours)(hl:y.first.length<2^40)(k:∀b,K (.bool b) h):C 133 [.ptr p 0,.ptr q 0] h K:=by
 refine bG (aOX ?_)
 refine Z2 hp hq ?_
 refine c84 hc ?_
 have e0:(q=h.aA)=False:=eq_false (by omega)
 refine Z3 hp hq e0 ?_
 refine aLb hl rfl (fun x _ K k=> ?_) fun b=> ?_
 ·rw[kC]
  exact aKO (y:=fD n.colours y.colour) (aU _ _ _) (by rw[bC,aT];omega) k
 ·cases b
  ·refine Zr ?_;exact fP (k _)
  ·refine Zr ?_;exact fP (k _)
theorem t68{n:dL}{i:Int}(hc:nR n.colours)(hp:T2 n.places)(k:∀e,K (iv e) h):C 68 [.agg (eN n),iv i] h K:=by
 refine bG (e68 ?_)
 refine Zr ?_
 refine c63 (fun q=> ?_) (fun _=> ?_)
 ·refine Zr ?_
  obtain⟨j,rfl⟩:=Int.eq_ofNat_of_zero_le q.1
  have hj:j<n.places.length:=by omega
  have ee:=aC hj
  obtain⟨y,hy⟩:∃y,y=n.places[j]:=⟨_,rfl⟩
  rw[←hy]at ee
  have hpf:=hp.2 y (aG ee)
  have hpl:=hp.1
  rw[cS (by omega),Int.toNat_natCast,bV jW ee]
  refine Zr ?_
  rw[bU _ _ (by rw[jW];rfl)]
  refine Zr ?_
  obtain⟨H,hH⟩:∃H,H=nw (bI (nw (bI (nw (nw (nw h (.cells (eN n))) (.cells [iv j])) (.cells [.str [],iv 0,.aB])) (h.aA+2) (.cells (oV y))) (.cells [.nilf])) (h.aA+3) (.cells [.func (.func 126) [] [.ptr (h.aA+2) 0]])) (.cells ([⟨127,[.ptr (h.aA+2) 0],1⟩,⟨128,[.ptr h.aA 0,.ptr (h.aA+1) 0,.ptr (h.aA+3) 0],5⟩,⟨130,[.ptr h.aA 0,.ptr (h.aA+2) 0],3⟩,⟨132,[.ptr (h.aA+2) 0],1⟩,⟨133,[.ptr h.aA 0,.ptr (h.aA+2) 0],8⟩].flatMap mF)):=⟨_,rfl⟩
  change C 60 _ (nw (bI (nw (bI (nw (nw (nw h (.cells (eN n))) (.cells [iv j])) (.cells [.str [],iv 0,.aB])) (h.aA+2) (.cells (oV y))) (.cells [.nilf])) (h.aA+3) (.cells [.func (.func 126) [] [.ptr (h.aA+2) 0]])) (.cells ([⟨127,[.ptr (h.aA+2) 0],1⟩,⟨128,[.ptr h.aA 0,.ptr (h.aA+1) 0,.ptr (h.aA+3) 0],5⟩,⟨130,[.ptr h.aA 0,.ptr (h.aA+2) 0],3⟩,⟨132,[.ptr (h.aA+2) 0],1⟩,⟨133,[.ptr h.aA 0,.ptr (h.aA+2) 0],8⟩].flatMap mF))) _
  rw[←hH]
  have H0:aP H h.aA=some (.cells (eN n)):=by rw[hH];exact Zr trivial
  have H1:aP H (h.aA+1)=some (.cells [iv j]):=by rw[hH];exact Zr trivial
  have H2:aP H (h.aA+2)=some (.cells (oV y)):=by rw[hH];exact Zr trivial
  have H3:aP H (h.aA+3)=some (.cells [.func (.func 126) [] [.ptr (h.aA+2) 0]]):=by rw[hH];exact Zr trivial
  have Hn:H.aA=h.aA+5:=by rw[hH];exact Zr trivial
  have Ho:bW h.aA h H:=by rw[hH];exact Oq
  refine Q7 (fs:= [⟨127,[.ptr (h.aA+2) 0],1⟩,⟨128,[.ptr h.aA 0,.ptr (h.aA+1) 0,.ptr (h.aA+3) 0],5⟩,⟨130,[.ptr h.aA 0,.ptr (h.aA+2) 0],3⟩,⟨132,[.ptr (h.aA+2) 0],1⟩,⟨133,[.ptr h.aA 0,.ptr (h.aA+2) 0],8⟩]) (Q:=fun _=>True) (h:=H) ?_ ?_ (show 5<2^20 by decide) (fun i' p' e g K hn ho k=> ?_) (fun g hn ho _=> ?_) (fun i' p' g e hn ho=> ?_)
  ·omega
  ·rw[hH];exact bQ _ _
  ·clear hH
   have o0:=(ho _ (by omega)).trans H0
   have o1:=(ho _ (by omega)).trans H1
   have o2:=(ho _ (by omega)).trans H2
   have o3:=(ho _ (by omega)).trans H3
   match i',e with
   |0,e=>cases e;exact aKK o2 fun b=>k b fun _=>trivial
   |1,e=>cases e;exact aKL (i:=j) o0 o1 o3 o2 (by omega) (by omega) (by omega) fun b=>k b fun _=>trivial
   |2,e=>cases e;exact aKM o0 o2 fun b=>k b fun _=>trivial
   |3,e=>cases e;exact aKN o2 (by omega) fun b=>k b fun _=>trivial
   |4,e=>cases e;exact aKP o0 o2 (by omega) hc (by omega) fun b=>k b fun _=>trivial
   |j+5,e=>cases e
  ·exact⟨rfl,bA (bW.on Ho (by omega) ho) rfl (k _)⟩
  ·exact⟨rfl,bA (bW.on Ho (by omega) ho) rfl (k _)⟩
 ·refine Zr ?_
  exact fP (k _)
end
section
attribute [local irreducible] cl uE
theorem t67{p:Nat}{i:Int}{n:dL}{x:Place}(hp:aP h p=some (.cells (eN n)))(hpn:p<h.aA)(hc:nR n.colours)(hpl:T2 n.places)(k:∀e,K (iv e) h):C 67 [iv i,.agg (oV x),.ptr p 0] h K:=by
 refine bG (e67 ?_)
 have e0:(p=h.aA)=False:=eq_false (by omega)
 refine Z2 hp e0 ?_
 exact t68 hc hpl fun e=>⟨rfl,fP (k e)⟩
theorem aKu{q:Nat}{x y:EM}(hq:aP h q=some (.cells (gN y)))(hqn:q<h.aA)(k:∀b,K (.bool b) h):C 235 [.agg (gN x),.ptr q 0] h K:=by
 refine bG (aPp ?_)
 have e0:(q=h.aA)=False:=eq_false (by omega)
 refine Z2 hq e0 ?_
 exact⟨fun _=>fP (k _),fun _=>fP (k _)⟩
theorem aKv{q:Nat}{y:EM}(hq:aP h q=some (.cells (gN y)))(k:∀b,K (.bool b) h):C 236 [.ptr q 0] h K:=by
 refine aPq ?_
 refine Z1 hq ?_
 exact TL fun b=>⟨rfl,k b⟩
theorem aKw{p q r s i:Nat}{l:List EM}{y:EM}(hp:aP h p=some (.cells [sl gN l]))(hq:aP h q=some (.cells [iv i]))(hr:aP h r=some (.cells [.func (.func 235) [] [.ptr s 0]]))(hs:aP h s=some (.cells (gN y)))(hsn:s<h.aA)
  (hi:i≤l.length) (hl:l.length<2^40) (k:∀b,K (.bool b) h):C 237 [.ptr p 0,.ptr q 0,.ptr r 0] h K:=by
 refine bG (aPr ?_)
 refine Z3 hp hq hr ?_
 rw[vC (by omega)]
 refine Z3 hp hq hr ?_
 refine JD (by omega) ?_
 refine aK9 (by rw[List.length_take];omega) rfl (fun x _ K k=> ?_) fun b=> ?_
 ·rw[kC]
  exact aKu (y:=y) hs (by rw[cW];omega) k
 ·cases b
  ·refine Zr ?_;exact fP (k _)
  ·refine Zr ?_;exact fP (k _)
theorem aKx{p q:Nat}{n:dL}{y:EM}(hp:aP h p=some (.cells (eN n)))(hq:aP h q=some (.cells (gN y)))(k:∀b,K (.bool b) h):C 239 [.ptr p 0,.ptr q 0] h K:=by
 refine aPt ?_
 refine Z2 hp hq ?_
 exact aFO (fun _=>⟨rfl,k _⟩) (fun _=>⟨rfl,k _⟩)
theorem aKy{p r i:Nat}{n:dL}{l:List EM}{y:EM}(hr:aP h r=some (.cells [sl gN l]))(hp:aP h p=some (.cells (eN n)))(hrn:r<h.aA)(hpn:p<h.aA)(hi:i<l.length)(hl:l.length<2^40)(k:∀e,K (iv e) h):C 234 [iv i,.agg (gN y),.ptr r 0,.ptr p 0] h K:=by
 refine bG (aPo ?_)
 refine Zr ?_
 obtain⟨H,hH⟩:∃H,H=nw (bI (nw (nw (nw h (.cells [iv i])) (.cells (gN y))) (.cells [.nilf])) (h.aA+2) (.cells [.func (.func 235) [] [.ptr (h.aA+1) 0]])) (.cells ([⟨236,[.ptr (h.aA+1) 0],1⟩,⟨237,[.ptr r 0,.ptr h.aA 0,.ptr (h.aA+2) 0],5⟩,⟨239,[.ptr p 0,.ptr (h.aA+1) 0],3⟩].flatMap mF)):=⟨_,rfl⟩
 change C 60 _ (nw (bI (nw (nw (nw h (.cells [iv i])) (.cells (gN y))) (.cells [.nilf])) (h.aA+2) (.cells [.func (.func 235) [] [.ptr (h.aA+1) 0]])) (.cells ([⟨236,[.ptr (h.aA+1) 0],1⟩,⟨237,[.ptr r 0,.ptr h.aA 0,.ptr (h.aA+2) 0],5⟩,⟨239,[.ptr p 0,.ptr (h.aA+1) 0],3⟩].flatMap mF))) _
 rw[←hH]
 have H0:aP H (h.aA)=some (.cells [iv i]):=by rw[hH];exact Zr trivial
 have H1:aP H (h.aA+1)=some (.cells (gN y)):=by rw[hH];exact Zr trivial
 have H2:aP H (h.aA+2)=some (.cells [.func (.func 235) [] [.ptr (h.aA+1) 0]]):=by rw[hH];exact Zr trivial
 have Hr:aP H (r)=some (.cells [sl gN l]):=by rw[hH];(rw[bF,if_neg (by rw[bC,aT,aT,aT];omega),aX,if_neg (by omega),bF,if_neg (by rw[aT,aT];omega),bF,if_neg (by rw[aT];omega),bF,if_neg (by omega)];exact hr)
 have Hp:aP H (p)=some (.cells (eN n)):=by rw[hH];(rw[bF,if_neg (by rw[bC,aT,aT,aT];omega),aX,if_neg (by omega),bF,if_neg (by rw[aT,aT];omega),bF,if_neg (by rw[aT];omega),bF,if_neg (by omega)];exact hp)
 have Hn:H.aA=h.aA+4:=by rw[hH];exact Zr trivial
 have Ho:bW h.aA h H:=by rw[hH];exact Oq
 refine Q7 (fs:= [⟨236,[.ptr (h.aA+1) 0],1⟩,⟨237,[.ptr r 0,.ptr h.aA 0,.ptr (h.aA+2) 0],5⟩,⟨239,[.ptr p 0,.ptr (h.aA+1) 0],3⟩]) (Q:=fun _=>True) (h:=H) ?_ ?_ (show 3<2^20 by decide) (fun i' p' e g K hn ho k=> ?_) (fun g hn ho _=> ?_) (fun i' p' g e hn ho=> ?_)
 ·omega
 ·rw[hH];exact bQ _ _
 ·clear hH
  have o0:=(ho _ (by omega)).trans H0
  have o1:=(ho _ (by omega)).trans H1
  have o2:=(ho _ (by omega)).trans H2
  have or:=(ho _ (by omega)).trans Hr
  have op:=(ho _ (by omega)).trans Hp
  match i',e with
  |0,e=>cases e;exact aKv o1 fun b=>k b fun _=>trivial
  |1,e=>cases e;exact aKw (i:=i) or o0 o2 o1 (by omega) (by omega) (by omega) fun b=>k b fun _=>trivial
  |2,e=>cases e;exact aKx op o1 fun b=>k b fun _=>trivial
  |j+3,e=>cases e
 ·exact⟨rfl,bA (bW.on Ho (by omega) ho) rfl (k _)⟩
 ·exact⟨rfl,bA (bW.on Ho (by omega) ho) rfl (k _)⟩
theorem aKz{n:dL}{l:List EM}(hl:l.length<2^40)(k:∀e,K (iv e) h):C 143 [.agg (eN n),sl gN l] h K:=by
 refine bG (aO7 ?_)
 refine Zr ?_
 refine aK0 (P:=fun _ _ _=>True) hl rfl (fun i c e g K hn ho k=> ?_) fun a e _=> ?_
 ·rw[aT,aT]at hn
  rw[kC]
  exact aKy (n:=n) (l:=l) (by rw[ho _ (by rw[aT,aT];omega)];exact Zr trivial) (by rw[ho _ (by rw[aT,aT];omega)];exact Zr trivial) (by omega) (by omega) (aD.1 e).1 hl fun e=>k e trivial
 ·refine Zr ?_
  exact fP (k _)
theorem aKA{p q:Nat}{n:dL}{y:yN}(hp:aP h p=some (.cells (eN n)))(hq:aP h q=some (.cells (iM y)))(k:∀b,K (.bool b) h):C 245 [.ptr p 0,.ptr q 0] h K:=by
 refine aPw ?_
 refine Z2 hp hq ?_
 exact c63 (fun _=>⟨rfl,k _⟩) (fun _=>⟨rfl,k _⟩)
theorem aKB{d p q:Nat}{vars:Int}{y:yN}(hp:aP h p=some (.cells (iM y)))(hq:aP h q=some (.cells [iv vars]))(hd:kV d y.expr)(k:∀b,K (.bool b) h):C 246 [.ptr p 0,.ptr q 0] h K:=by
 refine aPx ?_
 refine Z2 hp hq ?_
 exact aDr hd (fun _=>⟨rfl,k _⟩) (fun _=>⟨rfl,k _⟩)
theorem aKC{d p q:Nat}{i:Int}{n:dL}{vars:Int}{y:yN}(hp:aP h p=some (.cells (eN n)))(hq:aP h q=some (.cells [iv vars]))(hpn:p<h.aA)(hqn:q<h.aA)(hd:kV d y.expr)(k:∀e,K (iv e) h):C 244 [iv i,.agg (iM y),.ptr p 0,.ptr q 0] h K:=by
 refine bG (aPv ?_)
 refine Zr ?_
 obtain⟨H,hH⟩:∃H,H=nw (nw h (.cells (iM y))) (.cells ([⟨245,[.ptr p 0,.ptr h.aA 0],3⟩,⟨246,[.ptr h.aA 0,.ptr q 0],1⟩].flatMap mF)):=⟨_,rfl⟩
 change C 60 _ (nw (nw h (.cells (iM y))) (.cells ([⟨245,[.ptr p 0,.ptr h.aA 0],3⟩,⟨246,[.ptr h.aA 0,.ptr q 0],1⟩].flatMap mF))) _
 rw[←hH]
 have H0:aP H (h.aA)=some (.cells (iM y)):=by rw[hH];exact Zr trivial
 have Hp:aP H (p)=some (.cells (eN n)):=by rw[hH];(rw[bF,if_neg (by rw[aT];omega),bF,if_neg (by omega)];exact hp)
 have Hq:aP H (q)=some (.cells [iv vars]):=by rw[hH];(rw[bF,if_neg (by rw[aT];omega),bF,if_neg (by omega)];exact hq)
 have Hn:H.aA=h.aA+2:=by rw[hH];exact Zr trivial
 have Ho:bW h.aA h H:=by rw[hH];exact Oq
 refine Q7 (fs:= [⟨245,[.ptr p 0,.ptr h.aA 0],3⟩,⟨246,[.ptr h.aA 0,.ptr q 0],1⟩]) (Q:=fun _=>True) (h:=H) ?_ ?_ (show 2<2^20 by decide) (fun i' p' e g K hn ho k=> ?_) (fun g hn ho _=> ?_) (fun i' p' g e hn ho=> ?_)
 ·omega
 ·rw[hH];exact bQ _ _
 ·clear hH
  have o0:=(ho _ (by omega)).trans H0
  have op:=(ho _ (by omega)).trans Hp
  have oq:=(ho _ (by omega)).trans Hq
  match i',e with
  |0,e=>cases e;exact aKA op o0 fun b=>k b fun _=>trivial
  |1,e=>cases e;exact aKB o0 oq hd fun b=>k b fun _=>trivial
  |j+2,e=>cases e
 ·exact⟨rfl,bA (bW.on Ho (by omega) ho) rfl (k _)⟩
 ·exact⟨rfl,bA (bW.on Ho (by omega) ho) rfl (k _)⟩
theorem aFM{d:Nat}{n:dL}{l:List yN}{vars:Int}(hl:l.length<2^40)(hd:∀a∈l,kV d a.expr)(k:∀e,K (iv e) h):C 148 [.agg (eN n),sl iM l,iv vars] h K:=by
 refine bG (aPb ?_)
 refine Zr ?_
 refine aK1 (P:=fun _ _ _=>True) hl rfl (fun i c e g K hn ho k=> ?_) fun a e _=> ?_
 ·rw[aT,aT]at hn
  rw[kC]
  exact aKC (d:=d) (n:=n) (vars:=vars) (by rw[ho _ (by rw[aT,aT];omega)];exact Zr trivial) (by rw[ho _ (by rw[aT,aT];omega)];exact Zr trivial) (by omega) (by omega) (hd _ (aG e)) fun e=>k e trivial
 ·refine Zr ?_
  exact fP (k _)
theorem aKD{l:List Int}{s:Int}(hl:l.length<2^40)(k:∀n:Int,K (iv n) h):C 277 [ints l,iv s] h K:=by
 refine aPF ?_
 refine Sr ?_
 refine cD (σ:=Nat) (fun i=> [iv i,iv l.length,iv s,ints l,iv 0]) (fun _=>h) (fun i=>i≤l.length) (fun i=>l.length-i) ?_ 0 (aH _) (A:=YK) (cur:=0)
 rintro i hi
 refine aEr ?_
 refine Sr ?_
 refine⟨fun q=> ?_,fun q=> ?_⟩
 ·have hil:i<l.length:=by omega
  have ee:=aC hil
  rw[bV (f:=fi) (n:=1) (fun _=>rfl) ee]
  refine Sr ?_
  refine⟨fun q=>k _,fun q=> ?_⟩
  exact bT (by omega) (by omega) ⟨rfl,i+1,hil,(by omega),rfl⟩
 ·exact k _
theorem aKE{l:List Int}{s:Int}(hl:l.length<2^40)(k:∀b,K (.bool b) h):C 162 [ints l,iv s] h K:=by
 refine aPE ?_
 refine aKD hl fun n=> ?_
 refine Sr ?_
 exact⟨fun _=>k _,fun _=>k _⟩
theorem aKF{p q:Nat}{n:dL}{y:Int}(hp:aP h p=some (.cells (eN n)))(hq:aP h q=some (.cells [iv y]))(k:∀b,K (.bool b) h):C 249 [.ptr p 0,.ptr q 0] h K:=by
 refine aPA ?_
 refine Z2 hp hq ?_
 exact c63 (fun _=>⟨rfl,k _⟩) (fun _=>⟨rfl,k _⟩)
theorem aKG{p q r i:Nat}{l:List Int}{y:Int}(hp:aP h p=some (.cells [ints l]))(hq:aP h q=some (.cells [iv i]))(hr:aP h r=some (.cells [iv y]))(hi:i≤l.length)(hl:l.length<2^40)(k:∀b,K (.bool b) h):C 250 [.ptr p 0,.ptr q 0,.ptr r 0] h K:=by
 refine bG (aPB ?_)
 refine Z3 hp hq hr ?_
 rw[vC (by omega)]
 refine Z3 hp hq hr ?_
 refine JD (by omega) ?_
 refine aKE (by rw[List.length_take];omega) fun b=> ?_
 cases b
 ·refine Zr ?_;exact fP (k _)
 ·refine Zr ?_;exact fP (k _)
theorem aKH{p q i:Nat}{n:dL}{l:List Int}{y:Int}(hp:aP h p=some (.cells (eN n)))(hq:aP h q=some (.cells [ints l]))(hpn:p<h.aA)(hqn:q<h.aA)(hi:i≤l.length)(hl:l.length<2^40)(k:∀e,K (iv e) h):C 248 [iv i,iv y,.ptr p 0,.ptr q 0] h K:=by
 refine bG (aPz ?_)
 refine Zr ?_
 obtain⟨H,hH⟩:∃H,H=nw (nw (nw h (.cells [iv i])) (.cells [iv y])) (.cells ([⟨249,[.ptr p 0,.ptr (h.aA+1) 0],3⟩,⟨250,[.ptr q 0,.ptr h.aA 0,.ptr (h.aA+1) 0],5⟩].flatMap mF)):=⟨_,rfl⟩
 change C 60 _ (nw (nw (nw h (.cells [iv i])) (.cells [iv y])) (.cells ([⟨249,[.ptr p 0,.ptr (h.aA+1) 0],3⟩,⟨250,[.ptr q 0,.ptr h.aA 0,.ptr (h.aA+1) 0],5⟩].flatMap mF))) _
 rw[←hH]
 have H0:aP H (h.aA)=some (.cells [iv i]):=by rw[hH];exact Zr trivial
 have H1:aP H (h.aA+1)=some (.cells [iv y]):=by rw[hH];exact Zr trivial
 have Hp:aP H (p)=some (.cells (eN n)):=by rw[hH];(rw[bF,if_neg (by rw[aT,aT];omega),bF,if_neg (by rw[aT];omega),bF,if_neg (by omega)];exact hp)
 have Hq:aP H (q)=some (.cells [ints l]):=by rw[hH];(rw[bF,if_neg (by rw[aT,aT];omega),bF,if_neg (by rw[aT];omega),bF,if_neg (by omega)];exact hq)
 have Hn:H.aA=h.aA+3:=by rw[hH];exact Zr trivial
 have Ho:bW h.aA h H:=by rw[hH];exact Oq
 refine Q7 (fs:= [⟨249,[.ptr p 0,.ptr (h.aA+1) 0],3⟩,⟨250,[.ptr q 0,.ptr h.aA 0,.ptr (h.aA+1) 0],5⟩]) (Q:=fun _=>True) (h:=H) ?_ ?_ (show 2<2^20 by decide) (fun i' p' e g K hn ho k=> ?_) (fun g hn ho _=> ?_) (fun i' p' g e hn ho=> ?_)
 ·omega
 ·rw[hH];exact bQ _ _
 ·clear hH
  have o0:=(ho _ (by omega)).trans H0
  have o1:=(ho _ (by omega)).trans H1
  have op:=(ho _ (by omega)).trans Hp
  have oq:=(ho _ (by omega)).trans Hq
  match i',e with
  |0,e=>cases e;exact aKF op o1 fun b=>k b fun _=>trivial
  |1,e=>cases e;exact aKG (i:=i) oq o0 o1 hi hl fun b=>k b fun _=>trivial
  |j+2,e=>cases e
 ·exact⟨rfl,bA (bW.on Ho (by omega) ho) rfl (k _)⟩
 ·exact⟨rfl,bA (bW.on Ho (by omega) ho) rfl (k _)⟩
theorem aKI{n:dL}{l:List Int}(hl:l.length<2^40)(k:∀e,K (iv e) h):C 151 [.agg (eN n),ints l] h K:=by
 refine bG (aPe ?_)
 refine Zr ?_
 refine aK2 (P:=fun _ _ _=>True) hl rfl (fun i c e g K hn ho k=> ?_) fun a e _=> ?_
 ·rw[aT,aT]at hn
  rw[kC]
  exact aKH (n:=n) (l:=l) (i:=i) (by rw[ho _ (by rw[aT,aT];omega)];exact Zr trivial) (by rw[ho _ (by rw[aT,aT];omega)];exact Zr trivial) (by omega) (by omega) (by have:=(aD.1 e).1;omega) hl fun e=>k e trivial
 ·refine Zr ?_
  exact fP (k _)
end
section
attribute [local irreducible] cl uE
theorem aFK{kk:Int}{l:List yN}(k:∀b,K (.bool b) h):C 251 [iv kk,sl iM l] h K:=by
 refine aPC ?_
 refine Zr ?_
 repeat' first|exact k _|refine⟨fun _=> ?_,fun _=> ?_⟩
def BN(t:Task):Prop:=(0≤t.after∧t.after≤65536)∧((t.m0=0∧t.m1=0∧t.m2=0)∨(1≤t.m0∧t.m0≤t.m1∧t.m1≤16∧1≤t.m2∧t.m2≤t.m1))
def TK(v82:AV)(h g:aL)(K:KH):Prop:=
 RO (aN 5 (.ptr h.aA 0)) fun v83=>
 RO (aJ g (.one 0) v83) fun v84=>
 RO (aN 7 (.ptr h.aA 0)) fun v85=>
 RO (aJ g (.one 0) v85) fun v86=>
 CV (fn 251) [v84,v86] g fun v87 h88=>
 gV v87 true (fun k89=>k89 (fn 251) h88) h88 fun v90 h91=>
 gV v87 true (fun k92=>RO (aN 6 (.ptr h.aA 0)) fun v93=>
 k92 v93 h91) h91 fun v94 h95=>
 gV v87 true (fun k96=>RO (aJ h95 (.one 0) v94) fun v97=>
 k96 v97 h95) h95 fun v98 h99=>
 gV v87 true (fun k100=>RO (aN 8 (.ptr h.aA 0)) fun v101=>
 k100 v101 h99) h99 fun v102 h103=>
 gV v87 true (fun k104=>RO (aJ h103 (.one 0) v102) fun v105=>
 k104 v105 h103) h103 fun v106 h107=>
 gV v87 true (fun k108=>CV v90 [v98,v106] h107 fun v109 h110=>
 k108 v109 h110) h107 fun v111 h112=>
 RO (bJ v111 (.bool false) v87) fun v113=>
 gV v113 true (fun k114=>RO (aN 10 (.ptr h.aA 0)) fun v115=>
 k114 v115 h112) h112 fun v116 h117=>
 gV v113 true (fun k118=>RO (aJ h117 (.one 0) v116) fun v119=>
 k118 v119 h117) h117 fun v120 h121=>
 gV v113 true (fun k122=>RO (aO .geq .no v120 (iv 0)) fun v123=>
 k122 v123 h121) h121 fun v124 h125=>
 RO (bJ v124 (.bool false) v113) fun v126=>
 gV v126 true (fun k127=>RO (aN 10 (.ptr h.aA 0)) fun v128=>
 k127 v128 h125) h125 fun v129 h130=>
 gV v126 true (fun k131=>RO (aJ h130 (.one 0) v129) fun v132=>
 k131 v132 h130) h130 fun v133 h134=>
 gV v126 true (fun k135=>RO (aO .leq .no v133 (iv 65536)) fun v136=>
 k135 v136 h134) h134 fun v137 h138=>
 RO (bJ v137 (.bool false) v126) fun v139=>
 gV v139 true (fun k140=>k140 v82 h138) h138 fun v141 h142=>
 RO (bJ v141 (.bool false) v139) fun v143=>
 aQ v143=true∧K v143 h142
@[go_sem]theorem aKq(b:Nat):cR (some 3) 1 (.ptr b 11) (some 0)=some (.ptr b 11):=rfl
@[go_sem]theorem aKr(b:Nat):cR (some 3) 1 (.ptr b 11) (some 1)=some (.ptr b 12):=rfl
@[go_sem]theorem aKs(b:Nat):cR (some 3) 1 (.ptr b 11) (some 2)=some (.ptr b 13):=rfl
theorem aFL{b:Bool}{t:Task}{h g:aL}(hg:aP g h.aA=some (.cells (eT t)))(k1:b=true→(0≤t.after∧t.after≤65536)→K (.bool true) g)(k2:K (.bool false) g):TK (.bool b) h g K:=by
 unfold TK
 refine Z1 hg ?_
 refine aFK fun b1=> ?_
 have no:∀b:Bool,K (.bool false) g:=fun _=>k2
 cases b1
 ·refine Zr ?_
  exact k2
 ·refine Z1 hg ?_
  refine aFK fun b2=> ?_
  cases b2
  ·refine Zr ?_
   exact k2
  ·refine Z1 hg ?_
   refine⟨fun q1=> ?_,fun q1=> ?_⟩
   ·try simp only[go_sem,reduceAdd,reduceMul,reduceSub,aa,reduceEqDiff,reduceLT]
    refine⟨fun q2=> ?_,fun q2=> ?_⟩
    ·cases b
     ·exact k2
     ·exact k1 rfl ⟨q1,q2⟩
    ·exact k2
   ·exact k2
theorem aKt{t:Task}(k1:BN t→K (.bool true) h)(k2:K (.bool false) h):C 153 [.agg (eT t)] h K:=by
 refine bG (aPg ?_)
 refine Zr ?_
 rw[aBD]
 have tail:∀b:Bool,(b=true→((t.m0=0∧t.m1=0∧t.m2=0)∨(1≤t.m0∧t.m0≤t.m1∧t.m1≤16∧1≤t.m2∧t.m2≤t.m1)))→TK (.bool b) h (up (nw h (.cells (eT t))) 12) (cl h K):=fun b hb=>
  aFL (t:=t) (by exact Zr trivial) (fun e ha=>fP (k1 ⟨ha,hb e⟩)) (fP k2)
 by_cases q:t.m0=0∧t.m1=0∧t.m2=0
 ·rw[decide_eq_true q]
  have tail:=tail true (fun _=> .inl q)
  unfold TK at tail
  revert tail
  refine Zr ?_
  exact id
 ·rw[decide_eq_false q]
  have no:=tail false (fun z=>by cases z)
  have tail:=fun z=>tail true (fun _=> .inr z)
  unfold TK at no tail
  revert no tail
  refine Zr ?_
  intro no tail
  refine⟨fun q1=>⟨fun q2=>⟨fun q3=>⟨fun q4=>⟨fun q5=>tail ⟨q1,q2,q3,q4,q5⟩,fun _=>no⟩,fun _=>no⟩,fun _=>no⟩,fun _=>no⟩,fun _=>no⟩
theorem t43{n:dL}{i:Int}(hc:nR n.colours)(hv:∀t∈n.tasks,t.vars.length<2^40)(k:∀x:Int,K (iv x) h):C 43 [.agg (eN n),iv i] h K:=by
 refine bG (e43 ?_)
 refine Zr ?_
 refine c86 (fun q=> ?_) (fun _=> ?_)
 ·refine Zr ?_
  obtain⟨j,rfl⟩:=Int.eq_ofNat_of_zero_le q.1
  have hj:j<n.tasks.length:=by omega
  have ee:=aC hj
  obtain⟨y,hy⟩:∃y,y=n.tasks[j]:=⟨_,rfl⟩
  rw[←hy]at ee
  have hyv:=hv y (aG ee)
  rw[cS (by omega),Int.toNat_natCast,bV eS ee]
  refine Zr ?_
  refine cD (σ:=Nat×aL×Int) (fun s=> [iv s.1,iv y.vars.length,sl gN y.vars,.ptr h.aA 0,iv s.2.2,iv 0]) (fun s=>s.2.1) (fun s=>s.1≤y.vars.length∧h.aA+1≤s.2.1.aA∧bW h.aA h s.2.1∧aP s.2.1 h.aA=some (.cells (eN n))) (fun s=>y.vars.length-s.1) ?_ (0,nw h (.cells (eN n)),1) ⟨aH _,?_,Oq,bQ _ _⟩ (A:=aEx) (cur:=0)
  ·rintro⟨i,g,x⟩ ⟨hi,hg,ho,hn⟩
   simp only at hi hg ho hn
   refine aIC ?_
   refine Zr ?_
   refine⟨fun q=> ?_,fun q=> ?_⟩
   ·have hil:i<y.vars.length:=by omega
    have ee:=aC hil
    obtain⟨v,hv⟩:∃v,v=y.vars[i]:=⟨_,rfl⟩
    rw[←hv]at ee
    rw[bV jX ee]
    refine Zr ?_
    rw[bU _ _ (by rw[jX];rfl)]
    refine Zr ?_
    obtain⟨G,hG⟩:∃G,G=bI (nw g (.cells [.str [],iv 0])) g.aA (.cells (gN v)):=⟨_,rfl⟩
    rw[←hG]
    have nG:G.aA=g.aA+1:=by rw[hG,fK]
    have oG:∀b,b<g.aA→aP G b=aP g b:=fun b hb=>by rw[hG,g8 _ _ _ hb]
    have sG:aP G g.aA=some (.cells (gN v)):=by rw[hG];exact aU _ _ _
    have sN:aP G h.aA=some (.cells (eN n)):=by rw[oG _ (by omega)];exact hn
    clear hG
    refine Z2 sN sG ?_
    refine c84 hc ?_
    have oG':bW h.aA h G:=fun b hb=>(oG b (by omega)).trans (ho b hb)
    refine Zr ?_
    refine⟨fun _=> ?_,fun _=> ?_⟩
    ·exact bA oG' rfl (k _)
    ·simp only[go_sem,reduceAdd,reduceMul,reduceSub,aa,reduceEqDiff,reduceLT,CQ]
     refine bT (by omega) (by omega) ⟨rfl,(i+1,G,_),⟨hil,by show _≤G.aA;omega,oG',sN⟩,(by omega),rfl,rfl⟩
   ·have:i=y.vars.length:=by omega
    subst this
    try simp only[go_sem,reduceAdd,reduceMul,reduceSub,aa,reduceEqDiff,reduceLT]
    exact bA ho rfl (k _)
  ·refine Zr ?_;exact aE _
 ·refine Zr ?_
  exact fP (k _)
end
section
attribute [local irreducible] cl uE
theorem aKf{q:Nat}{x y:Task}(hq:aP h q=some (.cells (eT y)))(hqn:q<h.aA)(k:∀b,K (.bool b) h):C 136 [.agg (eT x),.ptr q 0] h K:=by
 refine bG (aO0 ?_)
 have e0:(q=h.aA)=False:=eq_false (by omega)
 refine Z2 hq e0 ?_
 exact⟨fun _=>fP (k _),fun _=>fP (k _)⟩
theorem aKg{q:Nat}{y:Task}(hq:aP h q=some (.cells (eT y)))(k:∀b,K (.bool b) h):C 137 [.ptr q 0] h K:=by
 refine aO1 ?_
 refine Z1 hq ?_
 exact TL fun b=>⟨rfl,k b⟩
theorem aKh{p q r s i:Nat}{n:dL}{y:Task}(hp:aP h p=some (.cells (eN n)))(hq:aP h q=some (.cells [iv i]))(hr:aP h r=some (.cells [.func (.func 136) [] [.ptr s 0]]))(hs:aP h s=some (.cells (eT y)))(hsn:s<h.aA)
  (hi:i≤n.tasks.length) (hl:n.tasks.length<2^40) (k:∀b,K (.bool b) h):C 138 [.ptr p 0,.ptr q 0,.ptr r 0] h K:=by
 refine bG (aO2 ?_)
 refine Z3 hp hq hr ?_
 rw[vC (by omega)]
 refine Z3 hp hq hr ?_
 refine JD (by omega) ?_
 refine aK7 (by rw[List.length_take];omega) rfl (fun x _ K k=> ?_) fun b=> ?_
 ·rw[kC]
  exact aKf (y:=y) hs (by rw[cW];omega) k
 ·cases b
  ·refine Zr ?_;exact fP (k _)
  ·refine Zr ?_;exact fP (k _)
theorem aKi{p q:Nat}{vars:Int}{y:Task}(hp:aP h p=some (.cells [iv vars]))(hq:aP h q=some (.cells (eT y)))(k:∀b,K (.bool b) h):C 140 [.ptr p 0,.ptr q 0] h K:=by
 refine aO4 ?_
 refine Z2 hp hq ?_
 refine⟨fun _=>⟨fun _=>k _,fun _=>k _⟩,fun _=>k _⟩
theorem aKj{p q:Nat}{n:dL}{y:Task}(hp:aP h p=some (.cells (eN n)))(hq:aP h q=some (.cells (eT y)))(hl:y.vars.length<2^40)(k:∀e,K (iv e) h):C 142 [.ptr p 0,.ptr q 0] h K:=by
 refine aO6 ?_
 refine Z2 hp hq ?_
 exact aKz hl fun e=>⟨rfl,k e⟩
theorem aKk{p q:Nat}{i:Int}{n:dL}(hp:aP h p=some (.cells (eN n)))(hq:aP h q=some (.cells [iv i]))(hc:nR n.colours)(hv:∀t∈n.tasks,t.vars.length<2^40)(k:∀b,K (.bool b) h):C 144 [.ptr p 0,.ptr q 0] h K:=by
 refine aO8 ?_
 refine Z2 hp hq ?_
 refine t43 hc hv fun x=> ?_
 refine Zr ?_
 exact⟨fun _=>k _,fun _=>k _⟩
theorem aKl{d p q:Nat}{vars:Int}{y:Task}(hp:aP h p=some (.cells (eT y)))(hq:aP h q=some (.cells [iv vars]))(hd:kV d y.guard)(k:∀b,K (.bool b) h):C 145 [.ptr p 0,.ptr q 0] h K:=by
 refine aO9 ?_
 refine Z2 hp hq ?_
 refine aDr hd (fun _=> ?_) (fun _=> ?_)
 ·refine Z1 hp ?_
  refine⟨fun _=> ?_,fun _=> ?_⟩
  ·exact⟨fun _=>k _,fun _=>k _⟩
  ·exact k _
 ·refine Zr ?_
  exact k _
theorem aKm{d p q r:Nat}{vars:Int}{n:dL}{y:Task}(hp:aP h p=some (.cells (eN n)))(hq:aP h q=some (.cells (eT y)))(hr:aP h r=some (.cells [iv vars]))(hl:y.ins.length<2^40)(hd:∀a∈y.ins,kV d a.expr)(k:∀e,K (iv e) h):C 147 [.ptr p 0,.ptr q 0,.ptr r 0] h K:=by
 refine aPa ?_
 refine Z3 hp hq hr ?_
 exact aFM hl hd fun e=>⟨rfl,k e⟩
theorem aKn{d p q r:Nat}{vars:Int}{n:dL}{y:Task}(hp:aP h p=some (.cells (eN n)))(hq:aP h q=some (.cells (eT y)))(hr:aP h r=some (.cells [iv vars]))(hl:y.outs.length<2^40)(hd:∀a∈y.outs,kV d a.expr)(k:∀e,K (iv e) h):C 149 [.ptr p 0,.ptr q 0,.ptr r 0] h K:=by
 refine aPc ?_
 refine Z3 hp hq hr ?_
 exact aFM hl hd fun e=>⟨rfl,k e⟩
theorem aKo{p q:Nat}{n:dL}{y:Task}(hp:aP h p=some (.cells (eN n)))(hq:aP h q=some (.cells (eT y)))(hl:y.cancel.length<2^40)(k:∀e,K (iv e) h):C 150 [.ptr p 0,.ptr q 0] h K:=by
 refine aPd ?_
 refine Z2 hp hq ?_
 exact aKI hl fun e=>⟨rfl,k e⟩
theorem aKp{q:Nat}{y:Task}(hq:aP h q=some (.cells (eT y)))(k1:BN y→K (.bool true) h)(k2:K (.bool false) h):C 152 [.ptr q 0] h K:=by
 refine aPf ?_
 refine Z1 hq ?_
 exact aKt (fun q=>⟨rfl,k1 q⟩) ⟨rfl,k2⟩
theorem Y5{t:Nat}{fv:AV}(hc:aK fv= [fv])(ha:cellA fv=true)(k:K (.func (.func 232) [] [.ptr (h.aA+1) 0,.ptr h.aA 0]) (nw (nw h (.cells [.ptr t 0])) (.cells [fv]))):C 141 [.ptr t 0,fv] h K:=by
 refine aO5 ?_
 rw[hc]
 refine Zr ?_
 try rw[hc]
 exact⟨ha,k⟩
theorem Y6{p q t f:Nat}{caps:List AV}(hp:aP h p=some (.cells [.func (.func f) [] caps]))(hq:aP h q=some (.cells [.ptr t 0]))(hqt:q≠t)(htn:t<h.aA){e0:Int}(ht:aP h t=some (.cells [iv e0]))
  (ask:∀K:KH,(∀e,K (iv e) (up h 5))→C f caps (up h 5) K) (k1:K (.bool true) (bI (up h 5) t (.cells [iv 0]))) (k2:∀e:Int,e≠0→K (.bool false) (bI (up h 5) t (.cells [iv e]))):C 232 [.ptr p 0,.ptr q 0] h K:=by
 refine aPm ?_
 refine Z2 hp hq ?_
 refine ask _ fun e=> ?_
 refine Z3 hp hq ht ?_
 have hq2:aP (bI (up h 5) t (.cells [iv e])) q=some (.cells [.ptr t 0]):=by rw[aX,if_neg hqt];exact hq
 have ht2:aP (bI (up h 5) t (.cells [iv e])) t=some (.cells [iv e]):=aU _ _ _
 refine Z2 hq2 ht2 ?_
 refine⟨fun q1=> ?_,fun q1=> ?_⟩
 ·subst q1;exact k1
 ·exact k2 e q1
theorem t71{d:Nat}{n:dL}{j:Nat}{t:Task}(hn:dR d n)(ht:n.tasks[j]?=some t)(k:∀e:Int,(e=0→BN t)→K (iv e) h):C 71 [.agg (eN n),iv j] h K:=by
 have hj:=(aD.1 ht).1
 have htm:=aG ht
 have hts:=hn.task t htm
 have htl:=hn.tasks
 refine bG (e71 ?_)
 unfold aAS
 refine Zr ?_
 refine c86 (fun q=> ?_) (fun q=>absurd (by omega) q)
 refine Zr ?_
 refine t65 (by have:=hn.cols;omega) hn.col fun a e=> ?_
 refine Zr ?_
 refine⟨fun q=> ?_,fun q=> ?_⟩
 ·rw[bV eS ht]
  refine Zr ?_
  rw[bU _ _ (by rw[eS];rfl)]
  refine Zr ?_
  rw[bV eS ht]
  refine Zr ?_
  refine⟨_,_,_,_,_,_,rfl,?_⟩
  unfold aAT
  refine Zr ?_
  refine Y5 rfl rfl ?_
  refine Zr ?_
  refine Y5 rfl rfl ?_
  refine Zr ?_
  refine Y5 rfl rfl ?_
  refine Zr ?_
  refine Y5 rfl rfl ?_
  refine Zr ?_
  obtain⟨H,hH⟩:∃H,H=nw (nw (nw (nw (nw (nw (nw (nw (nw (nw (bI (nw (bI (bI (nwAt (nwAt (up (nw (nw h (.cells (eN n))) (.cells [iv j])) 16) (h.aA+14) (.cells [.str [],.aB,iv 0,iv 0,.aB,iv 0,iv 0,.aB,.aB,.aB,iv 0,iv 0,iv 0,iv 0])) (h.aA+15) (.cells [iv 0])) (h.aA+14) (.cells (eT t))) (h.aA+15) (.cells [iv t.vars.length])) (.cells [.nilf])) (h.aA+18) (.cells [.func (.func 136) [] [.ptr (h.aA+14) 0]])) (.cells [iv 0])) (.cells [.ptr (h.aA+19) 0])) (.cells [.func (.func 142) [] [.ptr h.aA 0,.ptr (h.aA+14) 0]])) (.cells [.ptr (h.aA+19) 0])) (.cells [.func (.func 147) [] [.ptr h.aA 0,.ptr (h.aA+14) 0,.ptr (h.aA+15) 0]])) (.cells [.ptr (h.aA+19) 0])) (.cells [.func (.func 149) [] [.ptr h.aA 0,.ptr (h.aA+14) 0,.ptr (h.aA+15) 0]])) (.cells [.ptr (h.aA+19) 0])) (.cells [.func (.func 150) [] [.ptr h.aA 0,.ptr (h.aA+14) 0]])) (.cells ([⟨137,[.ptr (h.aA+14) 0],1⟩,⟨138,[.ptr h.aA 0,.ptr (h.aA+1) 0,.ptr (h.aA+18) 0],5⟩,⟨140,[.ptr (h.aA+15) 0,.ptr (h.aA+14) 0],2⟩,⟨232,[.ptr (h.aA+21) 0,.ptr (h.aA+20) 0],-1⟩,⟨144,[.ptr h.aA 0,.ptr (h.aA+1) 0],2⟩,⟨145,[.ptr (h.aA+14) 0,.ptr (h.aA+15) 0],1⟩,⟨232,[.ptr (h.aA+23) 0,.ptr (h.aA+22) 0],-1⟩,⟨232,[.ptr (h.aA+25) 0,.ptr (h.aA+24) 0],-1⟩,⟨232,[.ptr (h.aA+27) 0,.ptr (h.aA+26) 0],-1⟩,⟨152,[.ptr (h.aA+14) 0],11⟩].flatMap mF)):=⟨_,rfl⟩
  change C 60 _ (nw (nw (nw (nw (nw (nw (nw (nw (nw (nw (bI (nw (bI (bI (nwAt (nwAt (up (nw (nw h (.cells (eN n))) (.cells [iv j])) 16) (h.aA+14) (.cells [.str [],.aB,iv 0,iv 0,.aB,iv 0,iv 0,.aB,.aB,.aB,iv 0,iv 0,iv 0,iv 0])) (h.aA+15) (.cells [iv 0])) (h.aA+14) (.cells (eT t))) (h.aA+15) (.cells [iv t.vars.length])) (.cells [.nilf])) (h.aA+18) (.cells [.func (.func 136) [] [.ptr (h.aA+14) 0]])) (.cells [iv 0])) (.cells [.ptr (h.aA+19) 0])) (.cells [.func (.func 142) [] [.ptr h.aA 0,.ptr (h.aA+14) 0]])) (.cells [.ptr (h.aA+19) 0])) (.cells [.func (.func 147) [] [.ptr h.aA 0,.ptr (h.aA+14) 0,.ptr (h.aA+15) 0]])) (.cells [.ptr (h.aA+19) 0])) (.cells [.func (.func 149) [] [.ptr h.aA 0,.ptr (h.aA+14) 0,.ptr (h.aA+15) 0]])) (.cells [.ptr (h.aA+19) 0])) (.cells [.func (.func 150) [] [.ptr h.aA 0,.ptr (h.aA+14) 0]])) (.cells ([⟨137,[.ptr (h.aA+14) 0],1⟩,⟨138,[.ptr h.aA 0,.ptr (h.aA+1) 0,.ptr (h.aA+18) 0],5⟩,⟨140,[.ptr (h.aA+15) 0,.ptr (h.aA+14) 0],2⟩,⟨232,[.ptr (h.aA+21) 0,.ptr (h.aA+20) 0],-1⟩,⟨144,[.ptr h.aA 0,.ptr (h.aA+1) 0],2⟩,⟨145,[.ptr (h.aA+14) 0,.ptr (h.aA+15) 0],1⟩,⟨232,[.ptr (h.aA+23) 0,.ptr (h.aA+22) 0],-1⟩,⟨232,[.ptr (h.aA+25) 0,.ptr (h.aA+24) 0],-1⟩,⟨232,[.ptr (h.aA+27) 0,.ptr (h.aA+26) 0],-1⟩,⟨152,[.ptr (h.aA+14) 0],11⟩].flatMap mF))) _
  rw[←hH]
  have H0:aP H (h.aA)=some (.cells (eN n)):=by rw[hH];exact Zr trivial
  have H1:aP H (h.aA+1)=some (.cells [iv j]):=by rw[hH];exact Zr trivial
  have H14:aP H (h.aA+14)=some (.cells (eT t)):=by rw[hH];exact Zr trivial
  have H15:aP H (h.aA+15)=some (.cells [iv t.vars.length]):=by rw[hH];exact Zr trivial
  have H18:aP H (h.aA+18)=some (.cells [.func (.func 136) [] [.ptr (h.aA+14) 0]]):=by rw[hH];exact Zr trivial
  have H19:aP H (h.aA+19)=some (.cells [iv 0]):=by rw[hH];exact Zr trivial
  have H20:aP H (h.aA+20)=some (.cells [.ptr (h.aA+19) 0]):=by rw[hH];exact Zr trivial
  have H21:aP H (h.aA+21)=some (.cells [.func (.func 142) [] [.ptr h.aA 0,.ptr (h.aA+14) 0]]):=by rw[hH];exact Zr trivial
  have H22:aP H (h.aA+22)=some (.cells [.ptr (h.aA+19) 0]):=by rw[hH];exact Zr trivial
  have H23:aP H (h.aA+23)=some (.cells [.func (.func 147) [] [.ptr h.aA 0,.ptr (h.aA+14) 0,.ptr (h.aA+15) 0]]):=by rw[hH];exact Zr trivial
  have H24:aP H (h.aA+24)=some (.cells [.ptr (h.aA+19) 0]):=by rw[hH];exact Zr trivial
  have H25:aP H (h.aA+25)=some (.cells [.func (.func 149) [] [.ptr h.aA 0,.ptr (h.aA+14) 0,.ptr (h.aA+15) 0]]):=by rw[hH];exact Zr trivial
  have H26:aP H (h.aA+26)=some (.cells [.ptr (h.aA+19) 0]):=by rw[hH];exact Zr trivial
  have H27:aP H (h.aA+27)=some (.cells [.func (.func 150) [] [.ptr h.aA 0,.ptr (h.aA+14) 0]]):=by rw[hH];exact Zr trivial
  have H28:aP H (h.aA+28)=some (.cells ([⟨137,[.ptr (h.aA+14) 0],1⟩,⟨138,[.ptr h.aA 0,.ptr (h.aA+1) 0,.ptr (h.aA+18) 0],5⟩,⟨140,[.ptr (h.aA+15) 0,.ptr (h.aA+14) 0],2⟩,⟨232,[.ptr (h.aA+21) 0,.ptr (h.aA+20) 0],-1⟩,⟨144,[.ptr h.aA 0,.ptr (h.aA+1) 0],2⟩,⟨145,[.ptr (h.aA+14) 0,.ptr (h.aA+15) 0],1⟩,⟨232,[.ptr (h.aA+23) 0,.ptr (h.aA+22) 0],-1⟩,⟨232,[.ptr (h.aA+25) 0,.ptr (h.aA+24) 0],-1⟩,⟨232,[.ptr (h.aA+27) 0,.ptr (h.aA+26) 0],-1⟩,⟨152,[.ptr (h.aA+14) 0],11⟩].flatMap mF)):=by rw[hH];exact bQ _ _
  have Hn:H.aA=h.aA+29:=by rw[hH];exact Zr trivial
  have Ho:bW h.aA h H:=by rw[hH];repeat' first|exact bW.refl _ _|refine bW.nw ?_ (by simp only[go_sem];omega)|refine bW.set ?_ (by omega)|refine bW.up ?_|refine bW.nwAt ?_ (by omega)
  clear hH
  have wr:∀(g:aL) (e:Int),H.aA≤g.aA→(∀c,c<H.aA→c≠h.aA+19→aP g c=aP H c)→H.aA≤(bI (up g 5) (h.aA+19) (.cells [iv e])).aA∧(∀c,c<H.aA→c≠h.aA+19→aP (bI (up g 5) (h.aA+19) (.cells [iv e])) c=aP H c)∧∃e2,aP (bI (up g 5) (h.aA+19) (.cells [iv e])) (h.aA+19)=some (.cells [iv e2]):=fun g e a b=>⟨by rw[bC,cW];omega,fun c hc hn=>by rw[aX,if_neg hn,cM];exact b c hc hn,e,aU _ _ _⟩
  have kw:∀(g:aL) (e:Int),Kp (h.aA+19) g (bI (up g 5) (h.aA+19) (.cells [iv e])):=fun g e=>⟨by rw[bC,cW];omega,fun c hc hn=>by rw[aX,if_neg hn,cM]⟩
  refine c60 (t:=h.aA+19) (I:=fun g=>H.aA≤g.aA∧(∀c,c<H.aA→c≠h.aA+19→aP g c=aP H c)∧∃e,aP g (h.aA+19)=some (.cells [iv e])) (Q:=fun i=>i=9→BN t) (J:=fun i g=>i=3∨i=6∨i=7∨i=8→∃e:Int,e≠0∧aP g (h.aA+19)=some (.cells [iv e])) (fs:= [⟨137,[.ptr (h.aA+14) 0],1⟩,⟨138,[.ptr h.aA 0,.ptr (h.aA+1) 0,.ptr (h.aA+18) 0],5⟩,⟨140,[.ptr (h.aA+15) 0,.ptr (h.aA+14) 0],2⟩,⟨232,[.ptr (h.aA+21) 0,.ptr (h.aA+20) 0],-1⟩,⟨144,[.ptr h.aA 0,.ptr (h.aA+1) 0],2⟩,⟨145,[.ptr (h.aA+14) 0,.ptr (h.aA+15) 0],1⟩,⟨232,[.ptr (h.aA+23) 0,.ptr (h.aA+22) 0],-1⟩,⟨232,[.ptr (h.aA+25) 0,.ptr (h.aA+24) 0],-1⟩,⟨232,[.ptr (h.aA+27) 0,.ptr (h.aA+26) 0],-1⟩,⟨152,[.ptr (h.aA+14) 0],11⟩]) (h:=H) (by omega) (by omega) ?_ ?_ ⟨aE _,fun _ _ _=>rfl,_,H19⟩ (show 10<2^20 by decide) (fun i' p' e g K ⟨a,b,c⟩ hgn k1 k2=> ?_) (fun g ⟨a,b,c⟩ kp hq=> ?_) (fun i' p' g e ⟨a,b,c⟩ kp hj=> ?_)
  ·rintro g g' ⟨a,b,e,c⟩ hn ho
   exact⟨by omega,fun c hc hne=>(ho c (by omega)).trans (b c hc hne),e,(ho _ (by omega)).trans c⟩
  ·rintro g ⟨a,b,c⟩
   rw[b _ (by omega) (by omega)];exact H28
  ·obtain⟨e0,c⟩:=c
   have o0:=(b (h.aA) (by omega) (by omega)).trans H0
   have o1:=(b (h.aA+1) (by omega) (by omega)).trans H1
   have o14:=(b (h.aA+14) (by omega) (by omega)).trans H14
   have o15:=(b (h.aA+15) (by omega) (by omega)).trans H15
   have o18:=(b (h.aA+18) (by omega) (by omega)).trans H18
   have o20:=(b (h.aA+20) (by omega) (by omega)).trans H20
   have o21:=(b (h.aA+21) (by omega) (by omega)).trans H21
   have o22:=(b (h.aA+22) (by omega) (by omega)).trans H22
   have o23:=(b (h.aA+23) (by omega) (by omega)).trans H23
   have o24:=(b (h.aA+24) (by omega) (by omega)).trans H24
   have o25:=(b (h.aA+25) (by omega) (by omega)).trans H25
   have o26:=(b (h.aA+26) (by omega) (by omega)).trans H26
   have o27:=(b (h.aA+27) (by omega) (by omega)).trans H27
   have pure:∀(i':Nat),i'≠9→¬(i'=3∨i'=6∨i'=7∨i'=8)→(∀g',(H.aA≤g'.aA∧(∀c,c<H.aA→c≠h.aA+19→aP g' c=aP H c)∧∃e,aP g' (h.aA+19)=some (.cells [iv e]))→Kp (h.aA+19) g g'→(i'=9→BN t)→K (.bool true) g')→(∀g',(H.aA≤g'.aA∧(∀c,c<H.aA→c≠h.aA+19→aP g' c=aP H c)∧∃e,aP g' (h.aA+19)=some (.cells [iv e]))→Kp (h.aA+19) g g'→(i'=3∨i'=6∨i'=7∨i'=8→∃e:Int,e≠0∧aP g' (h.aA+19)=some (.cells [iv e]))→K (.bool false) g')→∀b,K (.bool b) g:=fun i' h9 hj k1 k2 bb=>by
    cases bb
    ·exact k2 g ⟨a,b,e0,c⟩ (Kp.refl _ _) (fun z=>absurd z hj)
    ·exact k1 g ⟨a,b,e0,c⟩ (Kp.refl _ _) (fun z=>absurd z h9)
   match i',e with
   |0,e=>cases e;exact aKg o14 (pure 0 (by decide) (by decide) k1 k2)
   |1,e=>cases e;exact aKh (i:=j) o0 o1 o18 o14 (by omega) (by omega) (by omega) (pure 1 (by decide) (by decide) k1 k2)
   |2,e=>cases e;exact aKi o15 o14 (pure 2 (by decide) (by decide) k1 k2)
   |3,e=>cases e;refine Y6 (t:=h.aA+19) o21 o20 (by omega) (by omega) c (fun K k=> ?_) (k1 _ (wr g 0 a b) (kw g 0) (fun z=>by omega)) (fun e he=>k2 _ (wr g e a b) (kw g e) (fun _=>⟨e,he,aU _ _ _⟩));refine aKj (n:=n) (y:=t) ?_ ?_ (by have:=hts.vars;omega) k<;>(rw[cM];assumption)
   |4,e=>cases e;exact aKk o0 o1 hn.col (fun t ht=>by have:=(hn.task t ht).vars;omega) (pure 4 (by decide) (by decide) k1 k2)
   |5,e=>cases e;exact aKl (d:=d) o14 o15 hts.guard (pure 5 (by decide) (by decide) k1 k2)
   |6,e=>cases e;refine Y6 (t:=h.aA+19) o23 o22 (by omega) (by omega) c (fun K k=> ?_) (k1 _ (wr g 0 a b) (kw g 0) (fun z=>by omega)) (fun e he=>k2 _ (wr g e a b) (kw g e) (fun _=>⟨e,he,aU _ _ _⟩));refine aKm (d:=d) (n:=n) (y:=t) (vars:=t.vars.length) ?_ ?_ ?_ (by have:=hts.ins;omega) hts.insE k<;>(rw[cM];assumption)
   |7,e=>cases e;refine Y6 (t:=h.aA+19) o25 o24 (by omega) (by omega) c (fun K k=> ?_) (k1 _ (wr g 0 a b) (kw g 0) (fun z=>by omega)) (fun e he=>k2 _ (wr g e a b) (kw g e) (fun _=>⟨e,he,aU _ _ _⟩));refine aKn (d:=d) (n:=n) (y:=t) (vars:=t.vars.length) ?_ ?_ ?_ (by have:=hts.outs;omega) hts.outsE k<;>(rw[cM];assumption)
   |8,e=>cases e;refine Y6 (t:=h.aA+19) o27 o26 (by omega) (by omega) c (fun K k=> ?_) (k1 _ (wr g 0 a b) (kw g 0) (fun z=>by omega)) (fun e he=>k2 _ (wr g e a b) (kw g e) (fun _=>⟨e,he,aU _ _ _⟩));refine aKo (n:=n) (y:=t) ?_ ?_ (by have:=hts.cancel;omega) k<;>(rw[cM];assumption)
   |9,e=>cases e;exact aKp o14 (fun z=>k1 g ⟨a,b,e0,c⟩ (Kp.refl _ _) (fun _=>z)) (k2 g ⟨a,b,e0,c⟩ (Kp.refl _ _) (fun z=>by omega))
   |j+10,e=>cases e
  ·refine Zr ?_
   exact⟨fun z=>(by cases z),fun _=>bA (fun c hc=>(b c (by omega) (by omega)).trans (Ho c hc)) rfl (k 0 (fun _=>hq 9 (show 9<10 by decide) rfl))⟩
  ·have og:bW h.aA h g:=fun c hc=>(b c (by omega) (by omega)).trans (Ho c hc)
   have bad:∀e:Int,e≠-1→e≠0→RO (aO .eql .no (iv e) (iv (-1))) fun v21=>cB v21 (RO (fO 0 (.one 0) (aP g (h.aA+19))) fun v22=>aQ v22=true∧cl h K v22 g) (aQ (iv e)=true∧cl h K (iv e) g):=fun e h1 h2=>by
    refine Zr ?_
    exact⟨fun z=>absurd z h1,fun _=>bA og rfl (k e (fun z=>absurd z h2))⟩
   have deep:(∃e:Int,e≠0∧aP g (h.aA+19)=some (.cells [iv e]))→RO (aO .eql .no (iv (-1)) (iv (-1))) fun v21=>cB v21 (RO (fO 0 (.one 0) (aP g (h.aA+19))) fun v22=>aQ v22=true∧cl h K v22 g) (aQ (iv (-1))=true∧cl h K (iv (-1)) g):=fun⟨e,he,ge⟩=>by
    refine Z1 ge ?_
    exact⟨fun _=>bA og rfl (k e (fun z=>absurd z he)),fun z=>absurd trivial z⟩
   match i',e with
   |0,e=>cases e;exact bad 1 (by decide) (by decide)
   |1,e=>cases e;exact bad 5 (by decide) (by decide)
   |2,e=>cases e;exact bad 2 (by decide) (by decide)
   |3,e=>cases e;exact deep (hj (by omega))
   |4,e=>cases e;exact bad 2 (by decide) (by decide)
   |5,e=>cases e;exact bad 1 (by decide) (by decide)
   |6,e=>cases e;exact deep (hj (by omega))
   |7,e=>cases e;exact deep (hj (by omega))
   |8,e=>cases e;exact deep (hj (by omega))
   |9,e=>cases e;exact bad 11 (by decide) (by decide)
   |j+10,e=>cases e
 ·exact fP (k _ (fun z=>absurd z q))
end
section
attribute [local irreducible] cl uE
theorem t70{d p i:Nat}{n:dL}{t:Task}(hp:aP h p=some (.cells (eN n)))(hpn:p<h.aA)(hn:dR d n)(ht:n.tasks[i]?=some t)(k:∀e:Int,(e=0→BN t)→K (iv e) h):C 70 [iv i,.agg (eT t),.ptr p 0] h K:=by
 refine bG (e70 ?_)
 have e0:(p=h.aA)=False:=eq_false (by omega)
 refine Z2 hp e0 ?_
 exact t71 hn ht fun e he=>⟨rfl,fP (k e he)⟩
theorem t61{p:Nat}{n:dL}(hp:aP h p=some (.cells (eN n)))(k:∀b,K (.bool b) h):C 61 [.ptr p 0] h K:=by
 refine e61 ?_
 refine Z1 hp ?_
 exact⟨fun _=>⟨fun _=>k _,fun _=>k _⟩,fun _=>k _⟩
theorem t62{p:Nat}{n:dL}(hp:aP h p=some (.cells (eN n)))(k:∀b,K (.bool b) h):C 62 [.ptr p 0] h K:=by
 refine e62 ?_
 refine Z1 hp ?_
 refine c63 (fun _=> ?_) (fun _=> ?_)
 ·refine Z1 hp ?_
  refine c63 (fun _=> ?_) (fun _=> ?_)
  ·refine Zr ?_;exact k _
  ·refine Zr ?_;exact k _
 ·refine Zr ?_;exact k _
theorem t64{p:Nat}{n:dL}(hp:aP h p=some (.cells (eN n)))(k:∀b,K (.bool b) h):C 64 [.ptr p 0] h K:=by
 refine e64 ?_
 refine Z1 hp ?_
 exact⟨fun _=>k _,fun _=>k _⟩
theorem aFJ:∀(d:Nat) {e:Expr} {h:aL} {K:KH},d<100→(∀x:Int,K (iv x) h)→C 170 [.agg (eE e),iv d] h K
 |d,e,h,K,hd,k=>by
  refine bG (aPI ?_)
  refine Zr ?_
  refine⟨fun _=>fP (k _),fun q=>⟨fun _=>fP (k _),fun q2=> ?_⟩⟩
  have hl:e.kids.length≤9:=by omega
  refine cD (σ:=Nat×Int) (fun s=> [iv s.1,.ptr h.aA 0,iv d,iv s.2,iv 0]) (fun s=>nw h (.cells (eE e))) (fun s=>s.1≤e.kids.length) (fun s=>e.kids.length-s.1) ?_ (0,500) (aH _) (A:=YO) (cur:=0)
  rintro⟨i,x⟩ hi
  simp only at hi
  refine aEy ?_
  refine Zr ?_
  refine⟨fun q=> ?_,fun q=> ?_⟩
  ·have hil:i<e.kids.length:=by omega
   have ee:=aC hil
   rw[bV nU ee]
   refine Zr ?_
   rw[CP]
   obtain⟨d,rfl⟩:∃d',d=d'+1:=⟨d-1,by omega⟩
   have ed:wrap64 (((d+1:Nat):Int)-1)=(d:Int):=by
    have e1:((d+1:Nat):Int)-1=(d:Int):=by omega
    have e2:wrap64 ((d:Nat):Int)=(d:Int):=rU (by omega) (by omega)
    rw[e1];exact e2
   rw[ed]
   refine aFJ d (by omega) fun x2=> ?_
   refine Zr ?_
   refine⟨fun _=>fP (k _),fun _=> ?_⟩
   rw[CP,g9]
   refine Zr ?_
   refine⟨fun _=>fP (k _),fun _=> ?_⟩
   exact bT (by omega) (by omega) ⟨rfl,(i+1,_),hil,(by omega),rfl⟩
  ·simp only[go_sem,reduceAdd,reduceMul,reduceSub,aa,reduceEqDiff,reduceLT,CP]
   exact fP (k _)
theorem t83{e:Expr}(k:∀b,K (.bool b) h):C 83 [.agg (eE e)] h K:=by
 refine bG (e83 ?_)
 refine Zr ?_
 refine aFJ 60 (by omega) fun x=> ?_
 refine Zr ?_
 exact⟨fun _=>fP (k _),fun _=>fP (k _)⟩
theorem t41{m:Mark}(k:∀b,K (.bool b) h):C 41 [dC m] h K:=by
 refine e41 ?_
 refine cD (σ:=Nat×Int) (fun s=> [iv s.1,dC m,iv s.2]) (fun s=>h) (fun s=>s.1≤100) (fun s=>100-s.1) ?_ (0,0) (aH _) (A:=aEw) (cur:=0)
 rintro⟨i,x⟩ hi
 simp only at hi
 refine aIB ?_
 refine Zr ?_
 have fin:(↑m.length≤(70:Int)→x≤300→K (.bool true) h)∧True:=⟨fun _ _=>k _,trivial⟩
 refine⟨fun q=>⟨fun q2=> ?_,fun q2=> ?_⟩,fun q=> ?_⟩
 ·have hil:i<m.length:=by omega
  have ee:=aC hil
  rw[bV (f:=fm) (n:=1) (fun _=>rfl) ee]
  refine Zr ?_
  rw[g9]
  refine bT (by omega) (by omega) ⟨⟨rfl,rfl⟩,(i+1,_),by simp only;omega,(by omega),rfl⟩
 ·try simp only[go_sem,reduceAdd,reduceMul,reduceSub,aa,reduceEqDiff,reduceLT]
  exact⟨fun _=>⟨fun _=>k _,fun _=>k _⟩,fun _=>k _⟩
 ·try simp only[go_sem,reduceAdd,reduceMul,reduceSub,aa,reduceEqDiff,reduceLT]
  exact⟨fun _=>⟨fun _=>k _,fun _=>k _⟩,fun _=>k _⟩
theorem t16(k:∀b,K (.bool b) h):C 16 [sl eI []] h K:=by
 refine e16 ?_
 refine Zr ?_
 refine⟨fun z=>(by simp at z),fun _=> ?_⟩
 refine cD (σ:=Unit) (fun s=> [iv 0,sl eI [],iv 0]) (fun s=>h) (fun s=>True) (fun s=>0) ?_ () trivial (A:=aEs) (cur:=0)
 rintro _ _
 refine aIu ?_
 refine Zr ?_
 exact⟨fun z=>(by simp at z),fun _=>⟨fun _=>k _,fun _=>k _⟩⟩
end
section
attribute [local irreducible] cl uE
theorem c25{d:Nat}{n:dL}(hn:dR d n)(k:∀a b e:Int,(e=0→uG n)→K (.tuple [.agg [iv a,iv b],iv e]) h):C 25 [.agg (eN n)] h K:=by
 have hpl:=hn.pl.1
 have htl:=hn.tasks
 have hcl:=hn.cols
 refine bG (e25 ?_)
 refine Zr ?_
 have fin:∀(a b e:Int) (g:aL),bW h.aA h g→(e=0→uG n)→cl h K (.tuple [.agg [iv a,iv b],iv e]) g:=fun a b e g o q=>bA o (eA (aY (zR (aY rfl (aY rfl rfl))) (aY rfl rfl))) (k a b e q)
 obtain⟨H,hH⟩:∃H,H=nw (nw (nw h (.cells (eN n))) (.cells [iv 0,iv 0])) (.cells ([⟨61,[.ptr h.aA 0],2⟩,⟨62,[.ptr h.aA 0],3⟩,⟨64,[.ptr h.aA 0],1⟩].flatMap mF)):=⟨_,rfl⟩
 change C 60 _ (nw (nw (nw h (.cells (eN n))) (.cells [iv 0,iv 0])) (.cells ([⟨61,[.ptr h.aA 0],2⟩,⟨62,[.ptr h.aA 0],3⟩,⟨64,[.ptr h.aA 0],1⟩].flatMap mF))) _
 rw[←hH]
 have H0:aP H h.aA=some (.cells (eN n)):=by rw[hH];exact Zr trivial
 have H1:aP H (h.aA+1)=some (.cells [iv 0,iv 0]):=by rw[hH];exact Zr trivial
 have HF:aP H (h.aA+2)=some (.cells (([⟨61,[.ptr h.aA 0],2⟩,⟨62,[.ptr h.aA 0],3⟩,⟨64,[.ptr h.aA 0],1⟩]:List Ask).flatMap mF)):=by rw[hH];exact bQ _ _
 have Hn:H.aA=h.aA+3:=by rw[hH];exact Zr trivial
 have Ho:bW h.aA h H:=by rw[hH];exact Oq
 clear hH
 refine Q7 (fs:= [⟨61,[.ptr h.aA 0],2⟩,⟨62,[.ptr h.aA 0],3⟩,⟨64,[.ptr h.aA 0],1⟩]) (Q:=fun _=>True) (h:=H) (by omega) HF (show 3<2^20 by decide) (fun i' p' e g K hgn ho k=> ?_) (fun g hgn ho _=> ?_) (fun i' p' g e hgn ho=> ?_)
 ·have o0:=(ho _ (by omega)).trans H0
  match i',e with
  |0,e=>cases e;exact t61 o0 fun b=>k b fun _=>trivial
  |1,e=>cases e;exact t62 o0 fun b=>k b fun _=>trivial
  |2,e=>cases e;exact t64 o0 fun b=>k b fun _=>trivial
  |j+3,e=>cases e
 ·have o0:=(ho _ (by omega)).trans H0
  have o1:=(ho _ (by omega)).trans H1
  have og:=bW.on Ho (by omega) ho
  refine Z2 o0 o1 ?_
  refine⟨fun _=> ?_,fun z=>absurd trivial z⟩
  refine t65 (by omega) hn.col fun a e=> ?_
  refine Z2 o0 o1 ?_
  refine⟨fun _=> ?_,fun q=>fin _ _ _ _ (bW.set og (by omega)) (fun z=>absurd z q)⟩
  refine c66 (P:=fun _ _ _=>True) (by omega) rfl (fun i p e g' K hgn' ho' k=> ?_) fun a e _=> ?_
  ·rw[kC]
   exact t67 (n:=n) (by rw[ho' _ (by omega)];exact o0) (by omega) hn.col hn.pl fun e=>k e trivial
  refine Z2 o0 o1 ?_
  refine⟨fun _=> ?_,fun q=>fin _ _ _ _ (bW.set og (by omega)) (fun z=>absurd z q)⟩
  refine c69 (P:=fun _ t e=>e=0→BN t) (by omega) rfl (fun i t et g' K hgn' ho' k=> ?_) fun a e hk=> ?_
  ·rw[kC]
   exact t70 (n:=n) (by rw[ho' _ (by omega)];exact o0) (by omega) hn et fun e he=>k e he
  refine Z2 o0 o1 ?_
  refine⟨fun q=>fin _ _ _ _ (bW.set og (by omega)) (fun _ t ht=> ?_),fun q=>fin _ _ _ _ (bW.set og (by omega)) (fun z=>absurd z q)⟩
  obtain⟨i,hi,rfl⟩:=List.mem_iff_getElem.1 ht
  exact hk q i _ (aC hi) rfl
 ·have o0:=(ho _ (by omega)).trans H0
  have o1:=(ho _ (by omega)).trans H1
  have og:=bW.on Ho (by omega) ho
  have bad:p'.e≠0:=by
   match i',e with
   |0,e=>cases e;exact(show(2:Int)≠0 by decide)
   |1,e=>cases e;exact(show(3:Int)≠0 by decide)
   |2,e=>cases e;exact(show(1:Int)≠0 by decide)
   |j+3,e=>cases e
  refine Z1 o1 ?_
  exact⟨fun z=>absurd z bad,fun _=>fin _ _ _ _ (bW.set og (by omega)) (fun z=>absurd z bad)⟩
theorem t40{d:Nat}{n:dL}(hn:dR d n)(k:∀b,K (.bool b) h):C 40 [.agg (eN n)] h K:=by
 have hpl:=hn.pl.1
 have htl:=hn.tasks
 have hcl:=hn.cols
 refine bG (e40 ?_)
 refine Zr ?_
 have no:∀g,bW h.aA h g→∀b,cl h K (.bool b) g:=fun g o b=>bA o rfl (k b)
 have o0:bW h.aA h (nw h (.cells (eN n))):=Oq
 refine⟨fun _=>no _ o0 _,fun _=>⟨fun _=>no _ o0 _,fun _=>⟨fun _=>no _ o0 _,fun _=> ?_⟩⟩⟩
 obtain⟨H,hH⟩:∃H,H=nw h (.cells (eN n)):=⟨_,rfl⟩
 rw[←hH]at o0⊢
 have H0:aP H h.aA=some (.cells (eN n)):=by rw[hH];exact Zr trivial
 have Hn:H.aA=h.aA+1:=by rw[hH];exact Zr trivial
 clear hH
 refine cD (σ:=Nat×Int) (fun s=> [iv s.1,.ptr h.aA 0,iv s.2,.bool false]) (fun _=>H) (fun s=>s.1≤n.colours.length) (fun s=>n.colours.length-s.1) ?_ (0,0) (aH _) (A:=u9) (cur:=0)
 rintro⟨i,parts⟩ hi
 simp only at hi
 refine aIw ?_
 refine Z1 H0 ?_
 refine⟨fun q=> ?_,fun q=> ?_⟩
 ·have hil:i<n.colours.length:=by omega
  have ee:=aC hil
  obtain⟨c,hc⟩:∃c,c=n.colours[i]:=⟨_,rfl⟩
  rw[←hc]at ee
  have hcn:=hn.col c (aG ee)
  rw[bV qV ee]
  refine Zr ?_
  rw[g9]
  refine Z1 H0 ?_
  rw[bV qV ee]
  refine Z1 H0 ?_
  generalize wrap64 (parts+(c.names.length:Int))=parts2
  refine⟨fun _=>no _ o0 _,fun _=>⟨fun _=>no _ o0 _,fun _=> ?_⟩⟩
  refine cD (σ:=Nat) (fun k=> [iv k,.ptr h.aA 0,iv i,iv parts2,.bool false]) (fun _=>H) (fun k=>k≤c.names.length) (fun k=>c.names.length-k) ?_ 0 (aH _) (A:=u9) (cur:=2)
  rintro k2 hk2
  refine aIz ?_
  refine Z1 H0 ?_
  rw[bV qV ee]
  refine Z1 H0 ?_
  refine⟨fun q=> ?_,fun q=> ?_⟩
  ·have hkl:k2<c.names.length:=by omega
   have ek:=aC hkl
   rw[bV qV ee]
   refine Zr ?_
   rw[bV (f:=fun s=> [AV.str s]) (n:=1) (fun _=>rfl) ek]
   refine Zr ?_
   refine⟨fun _=>no _ o0 _,fun _=> ?_⟩
   exact bT (by omega) (by omega) ⟨rfl,k2+1,hkl,(by omega),rfl⟩
  ·try simp only[go_sem,reduceAdd,reduceMul,reduceSub,aa,reduceEqDiff,reduceLT]
   exact bT (by omega) (by omega) ⟨rfl,(i+1,parts2),hil,(by omega),rfl⟩
 ·have:i=n.colours.length:=by omega
  subst this
  try simp only[go_sem,reduceAdd,reduceMul,reduceSub,aa,reduceEqDiff,reduceLT]
  refine cD (σ:=Nat×Int) (fun s=> [iv s.1,.ptr h.aA 0,iv s.2,.bool false]) (fun _=>H) (fun s=>s.1≤n.places.length) (fun s=>n.places.length-s.1) ?_ (0,parts) (aH _) (A:=u9) (cur:=4)
  rintro⟨i,parts⟩ hi
  simp only at hi
  refine aIx ?_
  refine Z1 H0 ?_
  refine⟨fun q=> ?_,fun q=> ?_⟩
  ·have hil:i<n.places.length:=by omega
   have ee:=aC hil
   rw[bV jW ee]
   refine Zr ?_
   rw[g9]
   refine Z1 H0 ?_
   rw[bV jW ee]
   refine Z1 H0 ?_
   refine⟨fun _=>no _ o0 _,fun _=> ?_⟩
   exact bT (by omega) (by omega) ⟨rfl,(i+1,_),hil,(by omega),rfl⟩
  ·have:i=n.places.length:=by omega
   subst this
   try simp only[go_sem,reduceAdd,reduceMul,reduceSub,aa,reduceEqDiff,reduceLT]
   refine cD (σ:=Nat×Int×aL) (fun s=> [iv s.1,.ptr h.aA 0,iv s.2.1,iv parts,.bool false]) (fun s=>s.2.2) (fun s=>s.1≤n.tasks.length∧h.aA+1≤s.2.2.aA∧bW h.aA h s.2.2∧aP s.2.2 h.aA=some (.cells (eN n))) (fun s=>n.tasks.length-s.1) ?_ (0,0,H) ⟨aH _,by show _≤H.aA;omega,o0,H0⟩ (A:=u9) (cur:=6)
   rintro⟨i,arcs,g⟩ ⟨hi,hg,ho,g0⟩
   simp only at hi hg ho g0
   refine aIy ?_
   refine Z1 g0 ?_
   refine⟨fun q=> ?_,fun q=> ?_⟩
   ·have hil:i<n.tasks.length:=by omega
    have ee:=aC hil
    obtain⟨t,ht⟩:∃t,t=n.tasks[i]:=⟨_,rfl⟩
    rw[←ht]at ee
    have hts:=hn.task t (aG ee)
    have h1:=hts.vars
    have h2:=hts.ins
    have h3:=hts.outs
    rw[bV eS ee]
    refine Zr ?_
    rw[bU _ _ (by rw[eS];rfl)]
    refine Zr ?_
    obtain⟨G,hG⟩:∃G,G=bI (nw g (.cells [.str [],.aB,iv 0,iv 0,.aB,iv 0,iv 0,.aB,.aB,.aB,iv 0,iv 0,iv 0,iv 0])) g.aA (.cells (eT t)):=⟨_,rfl⟩
    rw[←hG]
    have nG:G.aA=g.aA+1:=by rw[hG,fK]
    have oG:bW h.aA h G:=fun b hb=>by rw[hG,g8 _ _ _ (by omega)];exact ho b hb
    have G0:aP G h.aA=some (.cells (eN n)):=by rw[hG,g8 _ _ _ (by omega)];exact g0
    have sG:aP G g.aA=some (.cells (eT t)):=by rw[hG];exact aU _ _ _
    clear hG
    rw[g9,g9,g9,g9]
    refine Z1 sG ?_
    generalize wrap64 (wrap64 (wrap64 (wrap64 (arcs+(t.vars.length:Int))+(t.ins.length:Int))+(t.outs.length:Int))+(t.cancel.length:Int))=arcs2
    refine⟨fun _=>no _ oG _,fun _=>⟨fun _=>no _ oG _,fun _=> ?_⟩⟩
    refine cD (σ:=Nat) (fun k=> [iv k,.ptr g.aA 0,iv i,.ptr h.aA 0,iv arcs2,iv parts,.bool false]) (fun _=>G) (fun k=>k≤t.vars.length) (fun k=>t.vars.length-k) ?_ 0 (aH _) (A:=u9) (cur:=8)
    rintro k2 hk2
    refine aIA ?_
    refine Z1 sG ?_
    refine⟨fun q=> ?_,fun q=> ?_⟩
    ·have hkl:k2<t.vars.length:=by omega
     have ek:=aC hkl
     rw[bV jX ek]
     refine Zr ?_
     refine⟨fun _=>no _ oG _,fun _=> ?_⟩
     exact bT (by omega) (by omega) ⟨rfl,k2+1,hkl,(by omega),rfl⟩
    ·refine t83 fun ok=> ?_
     refine cD (σ:=Nat×Bool) (fun k=> [iv k.1,.ptr g.aA 0,.bool k.2,iv i,.ptr h.aA 0,iv arcs2,iv parts,.bool false]) (fun _=>G) (fun k=>k.1≤t.ins.length) (fun k=>t.ins.length-k.1) ?_ (0,ok) (aH _) (A:=u9) (cur:=10)
     rintro⟨k3,ok⟩ hk3
     simp only at hk3
     refine aEu ?_
     refine Z1 sG ?_
     refine⟨fun q=> ?_,fun q=> ?_⟩
     ·have hkl:k3<t.ins.length:=by omega
      have ek:=aC hkl
      rw[bV oW ek]
      refine Zr ?_
      refine t83 fun ok2=> ?_
      cases ok
      ·refine Zr ?_
       exact bT (by omega) (by omega) ⟨rfl,(k3+1,false),hkl,(by omega),rfl⟩
      ·refine Zr ?_
       exact bT (by omega) (by omega) ⟨rfl,(k3+1,ok2),hkl,(by omega),rfl⟩
     ·try simp only[go_sem,reduceAdd,reduceMul,reduceSub,aa,reduceEqDiff,reduceLT]
      refine cD (σ:=Nat×Bool) (fun k=> [iv k.1,.ptr g.aA 0,.bool k.2,iv i,.ptr h.aA 0,iv arcs2,iv parts,.bool false]) (fun _=>G) (fun k=>k.1≤t.outs.length) (fun k=>t.outs.length-k.1) ?_ (0,ok) (aH _) (A:=u9) (cur:=12)
      rintro⟨k4,ok⟩ hk4
      simp only at hk4
      refine aEv ?_
      refine Z1 sG ?_
      refine⟨fun q=> ?_,fun q=> ?_⟩
      ·have hkl:k4<t.outs.length:=by omega
       have ek:=aC hkl
       rw[bV oW ek]
       refine Zr ?_
       refine t83 fun ok2=> ?_
       cases ok
       ·refine Zr ?_
        exact bT (by omega) (by omega) ⟨rfl,(k4+1,false),hkl,(by omega),rfl⟩
       ·refine Zr ?_
        exact bT (by omega) (by omega) ⟨rfl,(k4+1,ok2),hkl,(by omega),rfl⟩
      ·cases ok
       ·refine Zr ?_
        exact no _ oG _
       ·refine Zr ?_
        exact bT (by omega) (by omega) ⟨rfl,(i+1,arcs2,G),⟨hil,by show _≤G.aA;omega,oG,G0⟩,(by omega),rfl,rfl⟩
   ·try simp only[go_sem,reduceAdd,reduceMul,reduceSub,aa,reduceEqDiff,reduceLT]
    exact⟨fun _=>no _ ho _,fun _=>no _ ho _⟩
end
section
attribute [local irreducible] cl uE
theorem c17{d:Nat}{n:dL}{m:Mark}(hn:dR d n)(hm:jG m)(k1:uG n→eX n m→K (.bool true) h)(k2:K (.bool false) h):C 17 [.agg (eN n),dC m] h K:=by
 have htl:=hn.tasks
 refine bG (e17 ?_)
 refine Zr ?_
 have no:∀g,bW h.aA h g→cl h K (.bool false) g:=fun g o=>bA o rfl k2
 have o0:bW h.aA h (nw h (.cells (eN n))):=Oq
 refine t40 hn fun b1=> ?_
 refine t41 fun b2=> ?_
 cases b1
 ·refine Zr ?_
  exact no _ o0
 ·cases b2
  ·refine Zr ?_
   exact no _ o0
  ·refine Zr ?_
   refine⟨fun _=>no _ o0,fun _=> ?_⟩
   refine c25 hn fun a b e hk=> ?_
   refine Zr ?_
   refine⟨fun q0=> ?_,fun q=>no _ Oq⟩
   refine c42 hn hm (fun hr=> ?_) (fun _=> ?_)
   ·refine Zr ?_
    refine cD (σ:=Nat×Int×aL) (fun s=> [iv s.1,.ptr h.aA 0,iv s.2.1]) (fun s=>s.2.2) (fun s=>s.1≤n.tasks.length∧h.aA+1≤s.2.2.aA∧bW h.aA h s.2.2∧aP s.2.2 h.aA=some (.cells (eN n))) (fun s=>n.tasks.length-s.1) ?_ (0,0,bI (nw (nw h (.cells (eN n))) (.cells [iv 0,iv 0])) (h.aA+1) (.cells [iv a,iv b])) ⟨aH _,?_,Oq,?_⟩ (A:=aEt) (cur:=0)
    ·rintro⟨i,x,g⟩ ⟨hi,hg,ho,g0⟩
     simp only at hi hg ho g0
     refine aIv ?_
     refine Z1 g0 ?_
     refine⟨fun q=> ?_,fun q=> ?_⟩
     ·have hil:i<n.tasks.length:=by omega
      have ee:=aC hil
      obtain⟨t,ht⟩:∃t,t=n.tasks[i]:=⟨_,rfl⟩
      rw[←ht]at ee
      have hts:=hn.task t (aG ee)
      rw[bV eS ee]
      refine Zr ?_
      rw[bU _ _ (by rw[eS];rfl)]
      refine Zr ?_
      obtain⟨G,hG⟩:∃G,G=bI (nw g (.cells [.str [],.aB,iv 0,iv 0,.aB,iv 0,iv 0,.aB,.aB,.aB,iv 0,iv 0,iv 0,iv 0])) g.aA (.cells (eT t)):=⟨_,rfl⟩
      rw[←hG]
      have nG:G.aA=g.aA+1:=by rw[hG,fK]
      have oG:bW h.aA h G:=fun b hb=>by rw[hG,g8 _ _ _ (by omega)];exact ho b hb
      have G0:aP G h.aA=some (.cells (eN n)):=by rw[hG,g8 _ _ _ (by omega)];exact g0
      have sG:aP G g.aA=some (.cells (eT t)):=by rw[hG];exact aU _ _ _
      clear hG
      refine Z1 G0 ?_
      refine t43 hn.col (fun t ht=>by have:=(hn.task t ht).vars;omega) fun y=> ?_
      refine Z1 sG ?_
      rw[CQ,g9,CQ,g9]
      refine bT (by omega) (by omega) ⟨⟨rfl,rfl⟩,(i+1,_,up G 15),⟨hil,by show _≤(up G 15).aA;rw[cW];omega,oG,G0⟩,(by omega),rfl,rfl⟩
     ·try simp only[go_sem,reduceAdd,reduceMul,reduceSub,aa,reduceEqDiff,reduceLT]
      exact⟨fun _=>bA ho rfl (k1 (hk q0) hr),fun _=>no _ ho⟩
    ·refine Zr ?_;omega
    ·exact Zr trivial
   ·refine Zr ?_
    exact no _ Oq
structure aFI(d:Nat)(n:dL):Prop where
 kinds:uG n
 right:eX n (lV n)
 some:k7 n
theorem BM(n:dL):∀(l:List Place) (k:Nat) b,b∈jV n k l→∃p∈l,∃j,b=k8 n j p
 | [],k,b,h=>by cases h
 |p::l,k,b,h=>by
  rcases List.mem_cons.1 h with h|h
  ·exact⟨p,by simp,k,h⟩
  ·obtain⟨p',hp,j,e⟩:=BM n l (k+1) b h
   exact⟨p',by simp[hp],j,e⟩
theorem Q6{d:Nat}{n:dL}(hn:dR d n):jG (lV n):=by
 refine⟨by unfold lV;rw[uH];exact hn.pl.1,fun b hb=> ?_⟩
 obtain⟨p,hp,j,rfl⟩:=BM n _ _ b hb
 have h1:=hn.pl.2 p hp
 have h2:(yM 0).length≤1:=by unfold yM;split<;>simp
 have h3:=CA (a:=p.first) (b:=yM 0)
 unfold k8
 split
 ·split
  ·omega
  ·omega
 ·omega
theorem c6{d:Nat}{n:dL}{nx nw':Int}(hn:dR d n)(k1:aFI d n→K (.bool true) h)(k2:K (.bool false) h):C 6 [.agg (eN n),.agg (mY ⟨lV n,[],nx,nw'⟩)] h K:=by
 have htl:=hn.tasks
 have hm:=Q6 hn
 refine bG (e6 ?_)
 refine Zr ?_
 have no:∀g,bW h.aA h g→cl h K (.bool false) g:=fun g o=>bA o rfl k2
 refine t16 fun b=> ?_
 cases b
 ·refine Zr ?_
  exact no _ Oq
 refine Zr ?_
 refine⟨fun _=>no _ Oq,fun _=>⟨fun _=>no _ Oq,fun _=> ?_⟩⟩
 refine c15 hn.pl ?_
 refine Zr ?_
 refine c17 hn hm (fun hk hr=> ?_) ?_
 ·refine Zr ?_
  refine⟨fun _=>no _ Oq,fun _=> ?_⟩
  obtain⟨H,hH⟩:∃H,H=up (nw (nw h (.cells (eN n))) (.cells (mY ⟨lV n,[],nx,nw'⟩))) 5:=⟨_,rfl⟩
  rw[←hH]
  have H0:aP H h.aA=some (.cells (eN n)):=by rw[hH];exact Zr trivial
  have H1:aP H (h.aA+1)=some (.cells (mY ⟨lV n,[],nx,nw'⟩)):=by rw[hH];exact Zr trivial
  have Ho:bW h.aA h H:=by rw[hH];exact Oq
  clear hH
  refine cD (σ:=Nat) (fun i=> [iv i,.ptr h.aA 0,.ptr (h.aA+1) 0,.bool false]) (fun _=>H) (fun i=>i≤n.tasks.length∧∀(j:Nat) t,n.tasks[j]?=some t→j<i→¬t.jn=3) (fun i=>n.tasks.length-i) ?_ 0 ⟨aH _,fun j t _ hj=>absurd hj (Nat.not_lt_zero _)⟩ (A:=an6) (cur:=0)
  rintro i ⟨hi,hb⟩
  refine aPH ?_
  refine Z1 H0 ?_
  refine⟨fun q=> ?_,fun q=> ?_⟩
  ·have hil:i<n.tasks.length:=by omega
   have ee:=aC hil
   obtain⟨t,ht⟩:∃t,t=n.tasks[i]:=⟨_,rfl⟩
   rw[←ht]at ee
   rw[bV eS ee]
   refine Zr ?_
   refine⟨fun _=>no _ Ho,fun q3=> ?_⟩
   refine bT (by omega) (by omega) ⟨rfl,i+1,⟨hil,fun j y hy hj=> ?_⟩,(by omega),rfl⟩
   by_cases hji:j=i
   ·subst hji;rw[ee]at hy;cases hy;exact q3
   ·exact hb j y hy (by omega)
  ·have hj:k7 n:=fun t ht=>by
    obtain⟨j,hj,rfl⟩:=List.mem_iff_getElem.1 ht
    exact hb j _ (aC hj) (by omega)
   refine Z1 H1 ?_
   refine c18 hm fun x=> ?_
   refine Zr ?_
   exact⟨fun _=>bA Ho rfl (k1 ⟨hk,hr,hj⟩),fun _=>no _ Ho⟩
 ·refine Zr ?_
  exact no _ Oq
end
section
attribute [local irreducible] cl uE
theorem MR{d:Nat}{n:dL}(h:eX n (lV n)):d5 d n ⟨lV n,[],1,0⟩:=by
 refine⟨h,⟨show(1:Int)≤1 by decide,show(1:Int)≤1099511627776 by decide⟩,⟨show(0:Int)≤0 by decide,show(0:Int)≤1099511627776 by decide⟩,⟨trivial,by simp⟩,fun x hx=>by cases hx⟩
@[go_sem]theorem aKd(a b c:Int)(x:Mode):jY [(6,1,iv b)] (uA (iv a) (uA (iv c) (aV [iv 0,.aB,.aB,.aB,iv 0] 0 (iU x))))=some (yO ⟨a,c,x,b⟩):=by cases x;rfl
theorem c3{d:Nat}{n:dL}{l:List Call}{o:Mode}(goes:∀(h:aL) (K:KH),K (.bool true) h→C 4 [] h K)(hn:dR d n)(hll:l.length<2^40)(ho1:o.vars.length<2^40)(ho2:o.ins.length<2^40)(ho3:o.outs.length<2^40)
  (k:K (.bool true) h):C 3 [.agg (eN n),sl yO l,.agg (iU o)] h K:=by
 refine bG (e3 ?_)
 have yes:∀g,bW h.aA h g→cl h K (.bool true) g:=fun g o=>bA o rfl k
 refine Zr ?_
 refine goes _ _ ?_
 refine Zr ?_
 refine c5 hn.pl ?_
 refine Zr ?_
 rw[bU _ _ (by rw[lH];rfl)]
 refine Zr ?_
 refine c6 hn (fun hf=> ?_) ?_
 ·refine Zr ?_
  obtain⟨H,hH⟩:∃H,H=bI (nw (nw (nw h (.cells (eN n))) (.cells (iU o))) (.cells [.aB,.aB,iv 0,iv 0])) (h.aA+2) (.cells (mY ⟨lV n,[],1,0⟩)):=⟨_,rfl⟩
  rw[←hH]
  have H0:aP H h.aA=some (.cells (eN n)):=by rw[hH];exact Zr trivial
  have H1:aP H (h.aA+1)=some (.cells (iU o)):=by rw[hH];exact Zr trivial
  have H2:aP H (h.aA+2)=some (.cells (mY ⟨lV n,[],1,0⟩)):=by rw[hH];exact Zr trivial
  have Hn:H.aA=h.aA+3:=by rw[hH];exact Zr trivial
  have Ho:bW h.aA h H:=by rw[hH];exact Oq
  clear hH
  refine⟨fun _=>yes _ Ho,fun q1=>⟨fun _=>yes _ Ho,fun q2=>⟨fun _=>yes _ Ho,fun q3=>⟨fun _=>yes _ Ho,fun q4=> ?_⟩⟩⟩⟩
  have hom:dO o:=⟨by omega,by omega,by omega⟩
  refine cD (σ:=Nat) (fun i=> [iv i,sl yO l,.ptr h.aA 0,.ptr (h.aA+2) 0,.ptr (h.aA+1) 0,.bool false]) (fun _=>H) (fun i=>i≤l.length∧∀(j:Nat) x,l[j]?=some x→j<i→dO x.mode) (fun i=>l.length-i) ?_ 0 ⟨aH _,fun j t _ hj=>absurd hj (Nat.not_lt_zero _)⟩ (A:=an3) (cur:=0)
  rintro i ⟨hi,hb⟩
  refine aPL ?_
  refine Zr ?_
  refine⟨fun q=> ?_,fun q=> ?_⟩
  ·have hil:i<l.length:=by omega
   have ee:=aC hil
   obtain⟨t,ht⟩:∃t,t=l[i]:=⟨_,rfl⟩
   rw[←ht]at ee
   rw[bV tH ee]
   refine Zr ?_
   refine⟨fun _=>yes _ Ho,fun v1=> ?_⟩
   rw[bV tH ee]
   refine Zr ?_
   refine⟨fun _=>yes _ Ho,fun v2=> ?_⟩
   rw[bV tH ee]
   refine Zr ?_
   refine⟨fun _=>yes _ Ho,fun v3=> ?_⟩
   refine bT (by omega) (by omega) ⟨rfl,i+1,⟨hil,fun j y hy hj=> ?_⟩,(by omega),rfl⟩
   by_cases hji:j=i
   ·subst hji;rw[ee]at hy;cases hy;exact⟨by omega,by omega,by omega⟩
   ·exact hb j y hy (by omega)
  ·have hlm:∀x∈l,dO x.mode:=fun x hx=>by
    obtain⟨j,hj,rfl⟩:=List.mem_iff_getElem.1 hx
    exact hb j _ (aC hj) (by omega)
   clear hb hi q
   refine Z2 H0 H2 ?_
   refine c7 hn hf.some hf.kinds (by omega) hlm (MR hf.right) (fun i hi=>by cases hi) fun c outs cr cm cl1 cn=> ?_
   have cl1:c.items.length≤0+l.length:=cl1
   have cn:c.aA≤1+l.length:=cn
   refine Z1 H2 ?_
   rw[bU _ _ (by rw[lH];rfl)]
   refine Zr ?_
   obtain⟨L,hL⟩:∃L,L=allM d n c.m 2000 n.tasks.length:=⟨_,rfl⟩
   obtain⟨H',hH'⟩:∃H',H'=bI H (h.aA+2) (.cells (mY c)):=⟨_,rfl⟩
   have G0:aP H' h.aA=some (.cells (eN n)):=by rw[hH',aX,if_neg (by omega)];exact H0
   have G1:aP H' (h.aA+1)=some (.cells (iU o)):=by rw[hH',aX,if_neg (by omega)];exact H1
   have G2:aP H' (h.aA+2)=some (.cells (mY c)):=by rw[hH'];exact aU _ _ _
   have Gn:H'.aA=h.aA+3:=by rw[hH',bC];exact Hn
   have Go:bW h.aA h H':=by rw[hH'];exact bW.set Ho (by omega)
   rw[←hH']
   refine Z1 H0 ?_
   clear hH'
   have hmk:=vE hn cr.1
   refine c8 (d:=d) hn hf.some hmk ?_
   rw[←hL]
   refine Zr ?_
   refine⟨fun _=>yes _ Go,fun q5=> ?_⟩
   have hLl:L.length<200:=by omega
   have hLok:∀x∈L,eQ d n c.m x=0∧dO x:=fun x hx=>IK hn (by rw[hL]at hx;exact hx)
   refine cD (σ:=Nat×Bool×aL) (fun s=> [iv s.1,sl iU L,.ptr h.aA 0,.ptr (h.aA+2) 0,.bool s.2.1,.ptr (h.aA+1) 0,.bool false]) (fun s=>s.2.2)
    (fun s=>s.1≤L.length∧h.aA+3≤s.2.2.aA∧bW h.aA h s.2.2∧aP s.2.2 h.aA=some (.cells (eN n))∧aP s.2.2 (h.aA+1)=some (.cells (iU o))∧aP s.2.2 (h.aA+2)=some (.cells (mY c))∧∀(j:Nat) x,L[j]?=some x→j<s.1→x=o→s.2.1=true) (fun s=>L.length-s.1) ?_
    (0,false,H') ⟨aH _,by show _≤H'.aA;omega,Go,G0,G1,G2,fun j x _ hj=>absurd hj (Nat.not_lt_zero _)⟩ (A:=an3) (cur:=2)
   rintro⟨i,am,g⟩ ⟨hi,hg,ho,g0,g1,g2,ham⟩
   simp only at hi hg ho g0 g1 g2 ham
   refine aPM ?_
   refine Zr ?_
   have mk:∀(m2:Mode) (num:Int),dO m2→uZ d ⟨n,c,⟨1,0,m2,num⟩⟩:=fun m2 num _=>⟨hn,hmk,by show c.items.length<_;omega,cm⟩
   refine⟨fun q=> ?_,fun q=> ?_⟩
   ·have hil:i<L.length:=by omega
    have ee:=aC hil
    obtain⟨x,hx⟩:∃x,x=L[i]:=⟨_,rfl⟩
    rw[←hx]at ee
    have hxL:=aG ee
    obtain⟨hc0,hxm⟩:=hLok x hxL
    obtain⟨e0,e1,t,et⟩:=n9 (pP hc0).1
    rw[bV gA ee]
    refine Z1 g0 ?_
    rw[cS e0,bV eS et]
    refine Zr ?_
    rw[bU _ _ (by rw[eS];rfl)]
    refine Zr ?_
    obtain⟨G,hG⟩:∃G,G=bI (nwAt (up g 11) (g.aA+9) (.cells [.str [],.aB,iv 0,iv 0,.aB,iv 0,iv 0,.aB,.aB,.aB,iv 0,iv 0,iv 0,iv 0])) (g.aA+9) (.cells (eT t)):=⟨_,rfl⟩
    rw[←hG]
    have nG:G.aA=g.aA+11:=by rw[hG];exact Zr trivial
    have oG:∀b,b<g.aA→aP G b=aP g b:=fun b hb=>by rw[hG,aX,if_neg (by omega),gH,if_neg (by omega),cM]
    have sG:aP G (g.aA+9)=some (.cells (eT t)):=by rw[hG];exact aU _ _ _
    clear hG
    have k0:aP G h.aA=some (.cells (eN n)):=by rw[oG _ (by omega)];exact g0
    have k1:aP G (h.aA+1)=some (.cells (iU o)):=by rw[oG _ (by omega)];exact g1
    have k2:aP G (h.aA+2)=some (.cells (mY c)):=by rw[oG _ (by omega)];exact g2
    refine Z3 k0 k2 sG ?_
    refine c9 (d:=d) (x:=⟨n,c,⟨1,0,x,max t.m0 1⟩⟩) (mk x _ hxm) hf.some hxm cr fun r hD=> ?_
    have hr:=hD.one rfl
    have hst:=TQ (x:=⟨n,c,⟨1,0,x,max t.m0 1⟩⟩) cr hf.kinds hc0 et rfl (show c.items.length<64 by omega) (show c.aA<1099511627776 by omega)
    rw[hst]at hr
    have ha:JF r=⟨0,c.aA,[]⟩:=by rw[hr];unfold JF;rw[if_pos rfl]
    obtain⟨c2,hc2⟩:∃c2,c2=GI ⟨n,c,⟨1,0,x,max t.m0 1⟩⟩ r:=⟨_,rfl⟩
    have hlen:c2.items.length=c.items.length+1:=by
     rw[hc2,hr]
     unfold GI
     rw[if_pos rfl]
     exact Y9 cr.2.2.2.1.1 (Int.le_refl _)
    rw[ha,←hc2]
    clear hr hst hD ha hc2
    have f1:(g.aA+27=g.aA+26)=False:=eq_false (by omega)
    have f2:(g.aA+26=g.aA+27)=False:=eq_false (by omega)
    have f3:(h.aA+2=g.aA+26)=False:=eq_false (by omega)
    have f4:(h.aA+2=g.aA+27)=False:=eq_false (by omega)
    have f5:(h.aA+1=g.aA+26)=False:=eq_false (by omega)
    have f6:(h.aA+1=g.aA+27)=False:=eq_false (by omega)
    refine Zr ?_
    rw[bU _ _ (by rw[lH];rfl)]
    simp only[go_sem,reduceAdd,reduceMul,reduceSub,aa,reduceEqDiff,reduceLT,f1,f2,f3,f4,f5,f6,k0,k1,k2]
    obtain⟨Q,hQ⟩:∃Q,Q=bI (bI (nwAt (nwAt (up G 19) (g.aA+26) (.cells [.aB,.aB,iv 0,iv 0])) (g.aA+27) (.cells [iv 0,iv 0,.aB])) (g.aA+26) (.cells (mY c2))) (g.aA+27) (.cells [iv 0,iv c.aA,sl fi []]):=⟨_,rfl⟩
    rw[←hQ]
    have nQ:g.aA≤Q.aA:=by rw[hQ,bC,bC];refine Zr ?_;omega
    have oQ:∀b,b<g.aA→aP Q b=aP g b:=fun b hb=>by rw[hQ,aX,if_neg (by omega),aX,if_neg (by omega),gH,if_neg (by omega),gH,if_neg (by omega),cM];exact oG b hb
    clear hQ
    refine⟨fun _=>⟨fun _=> ?_,fun z=>absurd trivial z⟩,fun z=>absurd trivial z⟩
    refine bT (by omega) (by omega) ?_
    refine Zr ?_
    refine⟨fun _=> ?_,fun z=>absurd (by omega) z⟩
    have q0:aP (up Q 10) h.aA=some (.cells (eN n)):=(oQ _ (by omega)).trans g0
    have q1':aP (up Q 10) (h.aA+1)=some (.cells (iU o)):=(oQ _ (by omega)).trans g1
    have q2':aP (up Q 10) (h.aA+2)=some (.cells (mY c)):=(oQ _ (by omega)).trans g2
    have q3':bW h.aA h (up Q 10):=fun b hb=>(oQ b (by omega)).trans (ho b hb)
    have next:∀am2:Bool,(am=true→am2=true)→(x=o→am2=true)→∀(j:Nat) y,L[j]?=some y→j<i+1→y=o→am2=true:=fun am2 h1 h2 j y ey hj e=>by
     by_cases hji:j=i
     ·subst hji;rw[ee]at ey;cases ey;exact h2 e
     ·exact h1 (ham j y ey (by omega) e)
    cases am
    ·refine Zr ?_
     rw[bV gA ee]
     refine Z1 q1' ?_
     refine c10 hxm hom (fun e=> ?_) (fun e=> ?_)
     ·refine Zr ?_
      refine bT (by omega) (by omega) ⟨rfl,(i+1,true,up Q 10),⟨hil,by show _≤(up Q 10).aA;rw[cW];omega,q3',q0,q1',q2',next true (fun _=>rfl) (fun _=>rfl)⟩,(by omega),rfl,rfl⟩
     ·refine Zr ?_
      refine bT (by omega) (by omega) ⟨rfl,(i+1,false,up Q 10),⟨hil,by show _≤(up Q 10).aA;rw[cW];omega,q3',q0,q1',q2',next false id (fun z=>absurd z e)⟩,(by omega),rfl,rfl⟩
    ·refine Zr ?_
     refine bT (by omega) (by omega) ⟨rfl,(i+1,true,up Q 10),⟨hil,by show _≤(up Q 10).aA;rw[cW];omega,q3',q0,q1',q2',next true id (fun _=>rfl)⟩,(by omega),rfl,rfl⟩
   ·have:i=L.length:=by omega
    subst this
    refine Z3 g0 g1 g2 ?_
    refine c9 (d:=d) (x:=⟨n,c,⟨1,0,o,1⟩⟩) (mk o _ hom) hf.some hom cr fun r hD=> ?_
    have hr:=hD.one rfl
    have fin:(JF r).err=0→am=true:=fun he=>by
     have h0:r.2.1=0:=Classical.byContradiction fun z=>by
      unfold JF at he
      rw[if_neg z]at he
      exact z he
     rw[hr]at h0
     have hck:eQ d n c.m o=0:=Classical.byContradiction fun z=>by
      unfold i3 at h0
      rw[if_pos z]at h0
      exact z h0
     have hin:=Y8 (most:=2000) hck (by rw[←hL];omega)
     rw[←hL]at hin
     obtain⟨j,hj,ej⟩:=List.mem_iff_getElem.1 hin
     exact ham j o (by rw[aC hj,ej]) hj rfl
    generalize JF r=a2 at fin⊢
    generalize GI ⟨n,c,⟨1,0,o,1⟩⟩ r=c2
    have f1:(g.aA+1=g.aA)=False:=eq_false (by omega)
    refine Zr ?_
    rw[bU _ _ (by rw[lH];rfl)]
    refine Zr ?_
    rw[bU _ _ (by rw[mH];rfl)]
    refine Zr ?_
    have oQ:bW h.aA h (bI (bI (nw (nw g (.cells [.aB,.aB,iv 0,iv 0])) (.cells [iv 0,iv 0,.aB])) g.aA (.cells (mY c2))) (g.aA+1) (.cells (CF a2))):=bW.set (bW.set (bW.nw (bW.nw ho (by omega)) (by rw[aT];omega)) (by omega)) (by omega)
    refine⟨fun q=> ?_,fun q=> ?_⟩
    ·rw[fin q]
     exact yes _ oQ
    ·exact yes _ oQ
 ·refine Zr ?_
  exact yes _ Oq
end
section
open YtnlkancjfhgdcaaGreatDoor.Rows hiding none
def rT(w:World):Ren:=⟨fun _=>none,fun k=>k<w.heap.size⟩
variable{H:Type}{enc:TypeId×Value→H}{P:Program}{w:World}{sp:Nat→Bool}{D:Nat}
def Rd(enc:TypeId×Value→H)(P:Program)(w:World)(sp:Nat→Bool)(D:Nat){α:Type}(t:TypeId)(f:α→List AV)(φ:α→Prop):Prop:=
 ∀n cs x,n≤D→DataW.trod enc P w 0 sp true n t cs=some x→uptoBulk x.1≤1048576→∃a,φ a∧dH (rT w) w (f a) cs
theorem Rd.low{α:Type}{t:TypeId}{f:α→List AV}{φ:α→Prop}(h:Rd enc P w sp (D+1) t f φ):Rd enc P w sp D t f φ:=
 fun n cs x hn h1 h2=>h n cs x (Nat.le_succ_of_le hn) h1 h2
theorem TJ(d:DataW H):1≤uptoBulk d:=by
 cases d with
 |lit l=>cases l<;>simp[uptoBulk]
 |_=>simp[uptoBulk]
theorem vB:∀{l:List (DataW H)} {d:DataW H},d∈l→uptoBulk d≤uptoBulkAll l
 |x::l,d,h=>by
  rw[uptoBulkAll]
  rcases List.mem_cons.1 h with rfl|h
  ·omega
  ·have:=vB h;omega
theorem I9:∀(l:List (DataW H)),l.length≤uptoBulkAll l
 | []=>aH _
 |x::l=>by
  rw[uptoBulkAll]
  have:=TJ x
  have:=I9 l
  simp only[List.length_cons]
  omega
theorem eP{t:TypeId}(ht:P.underlying t=some (.int .i64)):Rd enc P w sp D t fi (fun _=>True):=by
 intro n cs x _ h _
 obtain⟨k,rfl,_⟩:=DataW.trod_int ht h
 exact⟨k,trivial,_,_,rfl,rfl,rfl⟩
theorem BL{t:TypeId}(ht:P.underlying t=some .string):Rd enc P w sp D t (fun s=> [AV.str s]) (fun _=>True):=by
 intro n cs x _ h _
 obtain⟨s,rfl,_⟩:=DataW.trod_string ht h
 exact⟨dY s,trivial,_,_,rfl,⟨s,rfl,rfl⟩,rfl⟩
theorem JA{β γ:Type}{g:β→Option γ}:∀{l:List β} {r:List γ},l.mapM g=some r→r.length=l.length∧∀(i:Nat) (x:β),l[i]?=some x→g x=r[i]?
 | [],r,h=>by
  simp at h;subst h
  exact⟨rfl,fun i x h=>by simp at h⟩
 |x::l,r,h=>by
  rw[List.mapM_cons]at h
  cases hx:g x with
  |none=>simp[hx]at h
  |some y=>
   cases hl:l.mapM g with
   |none=>simp[hx,hl]at h
   |some r'=>
    simp[hx,hl]at h
    subst h
    obtain⟨h1,h2⟩:=JA hl
    refine⟨by simp[h1],fun i z hz=> ?_⟩
    cases i with
    |zero=>simp at hz;subst hz;simpa using hx
    |succ i=>simpa using h2 i z (by simpa using hz)
theorem JB{a:Addr}{n:Nat}{cs:List Value}(h:w.cells? 0 a n=some cs):cs.length=n∧∀j,j<n→w.cell? (a.add j)=cs[j]?:=by
 unfold World.cells? at h
 rw[if_pos (aH _)]at h
 obtain⟨h1,h2⟩:=JA h
 refine⟨by simpa using h1,fun j hj=>h2 j j (by simp[hj])⟩
theorem JC{a:Addr}{v:Value}(h:w.cell? a=some v):a.block<w.heap.size∧a.spot=none:=by
 unfold World.cell? at h
 cases hb:w.heap[a.block]? with
 |none=>rw[hb]at h;cases h
 |some o=>
  have hlt:a.block<w.heap.size:=(Array.getElem?_eq_some_iff.1 hb).1
  rw[hb]at h
  cases o<;>simp only[reduceCtorEq]at h
  cases hs:a.spot with
  |none=>exact⟨hlt,rfl⟩
  |some p=>simp[hs]at h
theorem O0{α:Type}{f:α→List AV}{m:Nat}{k:Nat}(hlen:∀a,(f a).length=m)(hall:∀a,aZ (f a)=true):
  ∀(l:List α) (off:Nat),(∀(i:Nat) a,l[i]?=some a→∃cs,w.cells? 0 ⟨k,off+i*m,none⟩ m=some cs∧dH (rT w) w (f a) cs)→RC (rT w) w (l.flatMap f) k off
 | [],_,_=>trivial
 |a::l,off,h=>by
  rw[List.flatMap_cons,RC.append]
  constructor
  ·obtain⟨cs,h1,h2⟩:=h 0 a rfl
   obtain⟨h3,h4⟩:=JB h1
   refine RC.of_vals h2 (fun j v hj=> ?_) (hall a)
   have hjm:j<m:=by rw[←h3];exact(aD.1 hj).1
   have:=h4 j hjm
   rw[hj,Addr.add_mid]at this
   simpa using this
  ·rw[hlen]
   refine O0 hlen hall l (off+m) fun i b hb=> ?_
   obtain⟨cs,h1,h2⟩:=h (i+1) b hb
   exact⟨cs,by rw[←h1];congr 2;rw[Nat.add_mul];omega,h2⟩
theorem i5{α:Type}{t e:TypeId}{m:Nat}{f:α→List AV}{φ:α→Prop}(ht:P.underlying t=some (.slice e))(hm:P.cellsOf e=m)(hm0:0<m)(hlen:∀a,(f a).length=m)(hall:∀a,aZ (f a)=true)
  (h:Rd enc P w sp D e f φ):Rd enc P w sp D t (fun l=> [sl f l]) (fun l=>l.length<1048576∧∀a∈l,φ a):=by
 intro n cs x hn hx hb
 rcases DataW.trod_slice ht hx with⟨rfl,rfl⟩|⟨a,len,cap,elems,rest,n',rfl,rfl,rfl,_,hlc,_,hel,hat,_⟩
 ·exact⟨[],⟨show(0:Nat)<1048576 by decide,by simp⟩,_,_,rfl,.inl ⟨rfl,rfl,.inl rfl⟩,rfl⟩
 ·rw[hm]at hat
  have hb:uptoBulk (.slice (elems.map (·.1)) (rest.map (·.1)))≤1048576:=hb
  rw[uptoBulk]at hb
  have hle:=I9 (elems.map (·.1))
  rw[List.length_map,hel]at hle
  have one:∀i,i<len→∃b cs,w.cells? 0 (a.add (i*m)) m=some cs∧φ b∧dH (rT w) w (f b) cs:=by
   intro i hi
   have h1:=hat i hi
   rw[aC (by omega)]at h1
   obtain⟨cs,h2,h3⟩:=Option.bind_eq_some_iff.1 h1
   obtain⟨b,h4,h5⟩:=h n' cs _ (by omega) h3 (Nat.le_trans (vB (l:=elems.map (·.1)) (List.mem_map_of_mem (List.getElem_mem _))) (by omega))
   exact⟨b,cs,h2,h4,h5⟩
  by_cases h0:len=0
  ·subst h0
   exact⟨[],⟨show(0:Nat)<1048576 by decide,by simp⟩,_,_,rfl,.inl ⟨rfl,rfl,.inr ⟨a,cap,rfl,fun h=>by cases h⟩⟩,rfl⟩
  ·obtain⟨l,hl,hf⟩:∃l:List α,l.length=len∧∀i b,l[i]?=some b→∃cs,w.cells? 0 (a.add (i*m)) m=some cs∧φ b∧dH (rT w) w (f b) cs:=by
    refine⟨List.ofFn (n:=len) fun i=>(one i.1 i.2).choose,by simp,fun i b hb=> ?_⟩
    have hi:i<len:=by
     have:=(aD.1 hb).1
     simpa using this
    rw[List.getElem?_ofFn,dif_pos hi]at hb
    cases hb
    exact(one i hi).choose_spec
   obtain⟨cs0,c1,_⟩:=hf 0 l[0] (aC (by omega))
   obtain⟨c2,c3⟩:=JB c1
   have c4:=c3 0 hm0
   rw[aC (by omega)]at c4
   obtain⟨hlow,hmid⟩:=JC c4
   obtain⟨k,off,spot⟩:=a
   have hmid:spot=none:=by
    simpa[Addr.add]using hmid
   subst hmid
   refine⟨l,⟨by show l.length<1048576;omega,fun b hb=> ?_⟩,_,_,rfl,.inr ⟨k,off,cap,by rw[hl],aE _,by omega,fun h=>(by cases h),by show k<_;simpa[Addr.add]using hlow,.inr ?_⟩,rfl⟩
   ·obtain⟨i,hi,rfl⟩:=List.mem_iff_getElem.1 hb
    obtain⟨_,_,q,_⟩:=hf i _ (aC hi)
    exact q
   ·refine O0 hlen hall l off fun i b hb=> ?_
    obtain⟨cs,q1,_,q2⟩:=hf i b hb
    exact⟨cs,by rw[←q1,Addr.add_mid],q2⟩
end
section
attribute [local irreducible] cl
@[go_sem]theorem aP3:dD.length=5:=by kernel_rfl
@[go_sem]theorem aP4:aZ dD=true:=by kernel_rfl
@[go_sem]theorem aU7:bZ 5 dD=some dD:=by kernel_rfl
@[go_sem]theorem aU8:aV [.aB,.aB,.aB,iv 0,iv 0] 0 dD=some dD:=by kernel_rfl
@[go_sem]theorem aSn:aV dD 0 dD=some dD:=by kernel_rfl
theorem QZ:bP [.agg dD]=true:=by kernel_rfl
theorem aI5(k:K (.tuple [.agg dD,iv 177,iv 0]) h):C 11 [Q0] h K:=by
 refine bG (e11 ?_)
 refine y9 (by kernel_rfl) p24 ?_
 refine Zr ?_
 refine⟨fun _=> ?_,fun z=>absurd trivial z⟩
 refine y9 QZ p25 ?_
 refine Zr ?_
 refine⟨fun _=> ?_,fun z=>absurd trivial z⟩
 exact bA Oq (by kernel_rfl) k
@[go_sem]theorem aJV:gE.aA=0:=by kernel_rfl
end
section
open YtnlkancjfhgdcaaGreatDoor.Rows hiding none
variable{H:Type}{enc:TypeId×Value→H}{w:World}{sp:Nat→Bool}{D:Nat}
section
variable{P:Program}
theorem cZ{α:Type}{fs:Array Field}{xs:List (DataW H×List MemPlace)}{n m:Nat}{cs:List Value}{g:α→List AV}{φ:α→Prop}(hxl:xs.length=fs.size)
  (hf:∀(i:Nat) (f:Field),fs[i]?=some f→DataW.trod enc P w 0 sp true n f.type ((cs.drop f.offset).take (P.cellsOf f.type))=xs[i]?) (hb:uptoBulk (.agg (xs.map (·.1)))≤1048576) (i:Nat) {f:Field} (hi:fs[i]?=some f)
  (hm:P.cellsOf f.type=m) (rd:Rd enc P w sp D f.type g φ) (hn:n≤D):∃a,φ a∧dH (rT w) w (g a) ((cs.drop f.offset).take m):=by
 have h1:=hf i f hi
 have hlt:i<xs.length:=by rw[hxl];exact(Array.getElem?_eq_some_iff.1 hi).1
 rw[aC hlt,hm]at h1
 rw[uptoBulk]at hb
 exact rd n _ _ hn h1 (Nat.le_trans (vB (l:=xs.map (·.1)) (List.mem_map_of_mem (List.getElem_mem _))) (by omega))
theorem I8{α:Type}{xs:List (DataW H×List MemPlace)}{n k e:Nat}{cs:List Value}{g:α→List AV}{φ:α→Prop}(hxl:xs.length=k)(he:P.cellsOf e=1)
  (hf:∀i:Nat,i<k→DataW.trod enc P w 0 sp true n e ((cs.drop (i*P.cellsOf e)).take (P.cellsOf e))=xs[i]?) (hb:uptoBulk (.agg (xs.map (·.1)))≤1048576) (i:Nat) (hi:i<k)
  (rd:Rd enc P w sp D e g φ) (hn:n≤D):∃a,φ a∧dH (rT w) w (g a) ((cs.drop i).take 1):=by
 have h1:=hf i hi
 have hlt:i<xs.length:=by omega
 rw[aC hlt,he,Nat.mul_one]at h1
 rw[uptoBulk]at hb
 exact rd n _ _ hn h1 (Nat.le_trans (vB (l:=xs.map (·.1)) (List.mem_map_of_mem (List.getElem_mem _))) (by omega))
theorem gD{cs:List Value}{n:Nat}(hl:cs.length=n):dH (rT w) w [] (cs.drop n):=by
 rw[List.drop_eq_nil_of_le (by omega)];exact rfl
theorem dM{cs:List Value}{off n:Nat}{a b:List AV}(h:dH (rT w) w a ((cs.drop off).take n))(h':dH (rT w) w b (cs.drop (off+n))):dH (rT w) w (a++b) (cs.drop off):=by
 have:=dH.append h h'
 rw[show cs.drop (off+n)=(cs.drop off).drop n from(List.drop_drop ..).symm,List.take_append_drop]at this
 exact this
end
theorem Y4:Rd enc Tryz.prog w sp D 28 (fun l=> [sl fi l]) (fun l=>l.length<1048576∧∀a∈l,True):=
 i5 Tryz.underlying28 (m:=1) (by kernel_rfl) (by decide) (fun _=>rfl) (fun _=>rfl) (eP Tryz.underlying3)
theorem aFw:Rd enc Tryz.prog w sp D 181 (fun l=> [strs l]) (fun l=>l.length<1048576∧∀a∈l,True):=
 i5 Tryz.underlying181 (m:=1) (by kernel_rfl) (by decide) (fun _=>rfl) (fun _=>rfl) (BL Tryz.underlying9)
theorem aFx:Rd enc Tryz.prog w sp (D+1) 114 eR (fun _=>True):=by
 intro n cs x hn hx hb
 obtain⟨xs,n',rfl,rfl,hl,hxl,hf⟩:=DataW.trod_array Tryz.underlying114 hx
 have hl:cs.length=2:=hl.trans (by kernel_rfl)
 obtain⟨a0,p0,r0⟩:=I8 hxl (by kernel_rfl) hf hb 0 (by decide) (eP Tryz.underlying3) (show n'≤D by omega)
 obtain⟨a1,p1,r1⟩:=I8 hxl (by kernel_rfl) hf hb 1 (by decide) (eP Tryz.underlying3) (show n'≤D by omega)
 exact⟨(a0,a1),trivial,dM (off:=0) r0 (dM (off:=1) r1 (gD hl))⟩
theorem aJ3:Rd enc Tryz.prog w sp (D+1) 51 (fun p:Int×Int×Int=> [iv p.1,iv p.2.1,iv p.2.2]) (fun _=>True):=by
 intro n cs x hn hx hb
 obtain⟨xs,n',rfl,rfl,hl,hxl,hf⟩:=DataW.trod_array Tryz.underlying51 hx
 have hl:cs.length=3:=hl.trans (by kernel_rfl)
 obtain⟨a0,p0,r0⟩:=I8 hxl (by kernel_rfl) hf hb 0 (by decide) (eP Tryz.underlying3) (show n'≤D by omega)
 obtain⟨a1,p1,r1⟩:=I8 hxl (by kernel_rfl) hf hb 1 (by decide) (eP Tryz.underlying3) (show n'≤D by omega)
 obtain⟨a2,p2,r2⟩:=I8 hxl (by kernel_rfl) hf hb 2 (by decide) (eP Tryz.underlying3) (show n'≤D by omega)
 exact⟨(a0,a1,a2),trivial,dM (off:=0) r0 (dM (off:=1) r1 (dM (off:=2) r2 (gD hl)))⟩
theorem aFy:Rd enc Tryz.prog w sp D 109 (fun l=> [gF l]) (fun l=>l.length<1048576∧∀a∈l,True):=
 i5 Tryz.underlying109 (m:=2) (by kernel_rfl) (by decide) (fun _=>rfl) (fun _=>rfl) aFx.low
abbrev fE(e:Expr):List AV:= [iv e.kind,iv e.num,sl eE e.kids]
theorem aJ4(h:Rd enc Tryz.prog w sp D 49 eE (kV D)):Rd enc Tryz.prog w sp D 47 (fun l=> [sl eE l]) (fun l=>l.length<1048576∧∀a∈l,kV D a):=
 i5 Tryz.underlying47 (m:=3) (by kernel_rfl) (by decide) nU iZ h
theorem aFz(h:Rd enc Tryz.prog w sp D 49 eE (kV D)):Rd enc Tryz.prog w sp (D+1) 49 eE (kV (D+1)):=by
 intro n cs x hn hx hb
 obtain⟨xs,n',rfl,rfl,hl,hxl,hf⟩:=DataW.trod_struct Tryz.underlying49 hx
 have hl:cs.length=3:=hl.trans (by kernel_rfl)
 obtain⟨a0,p0,r0⟩:=cZ (m:=1) hxl hf hb 0 rfl (by kernel_rfl) (eP Tryz.underlying3) (show n'≤D by omega)
 obtain⟨a1,p1,r1⟩:=cZ (m:=1) hxl hf hb 1 rfl (by kernel_rfl) (eP Tryz.underlying3) (show n'≤D by omega)
 obtain⟨a2,p2,r2⟩:=cZ (m:=1) hxl hf hb 2 rfl (by kernel_rfl) (aJ4 h) (show n'≤D by omega)
 refine⟨.mk a0 a1 a2,⟨Nat.lt_trans p2.1 (by decide),p2.2⟩,?_⟩
 rw[sV]
 exact(dM (off:=0) r0 (dM (off:=1) r1 (dM (off:=2) r2 (gD hl))))
theorem aFA:∀D:Nat,Rd enc Tryz.prog w sp D 49 eE (kV D)
 |0=>fun n cs x hn hx _=>by
  have:n=0:=by omega
  subst this
  rw[DataW.trod]at hx
  cases hx
 |D+1=>aFz (aFA D)
theorem aAY:Rd enc Tryz.prog w sp D 49 fE (kV D):=fun n cs x hn hx hb=>by
 obtain⟨e,h1,h2⟩:=aFA D n cs x hn hx hb
 rw[sV]at h2
 exact⟨e,h1,h2⟩
theorem aFB:Rd enc Tryz.prog w sp (D+1) 183 eC (fun c=>c.names.length<1048576):=by
 intro n cs x hn hx hb
 obtain⟨xs,n',rfl,rfl,hl,hxl,hf⟩:=DataW.trod_struct Tryz.underlying183 hx
 have hl:cs.length=7:=hl.trans (by kernel_rfl)
 obtain⟨a0,p0,r0⟩:=cZ (m:=1) hxl hf hb 0 rfl (by kernel_rfl) (BL Tryz.underlying9) (show n'≤D by omega)
 obtain⟨a1,p1,r1⟩:=cZ (m:=1) hxl hf hb 1 rfl (by kernel_rfl) (eP Tryz.underlying3) (show n'≤D by omega)
 obtain⟨a2,p2,r2⟩:=cZ (m:=1) hxl hf hb 2 rfl (by kernel_rfl) (eP Tryz.underlying3) (show n'≤D by omega)
 obtain⟨a3,p3,r3⟩:=cZ (m:=1) hxl hf hb 3 rfl (by kernel_rfl) (eP Tryz.underlying3) (show n'≤D by omega)
 obtain⟨a4,p4,r4⟩:=cZ (m:=1) hxl hf hb 4 rfl (by kernel_rfl) aFw (show n'≤D by omega)
 obtain⟨a5,p5,r5⟩:=cZ (m:=1) hxl hf hb 5 rfl (by kernel_rfl) (eP Tryz.underlying3) (show n'≤D by omega)
 obtain⟨a6,p6,r6⟩:=cZ (m:=1) hxl hf hb 6 rfl (by kernel_rfl) (eP Tryz.underlying3) (show n'≤D by omega)
 refine⟨⟨a0,a1,a2,a3,a4,a5,a6⟩,p4.1,?_⟩
 exact(dM (off:=0) r0 (dM (off:=1) r1 (dM (off:=2) r2 (dM (off:=3) r3 (dM (off:=4) r4 (dM (off:=5) r5 (dM (off:=6) r6 (gD hl))))))))
theorem aJ5:Rd enc Tryz.prog w sp D 22 (fun l=> [sl eC l]) (fun l=>l.length<1048576∧∀a∈l,a.names.length<1048576):=
 i5 Tryz.underlying22 (m:=7) (by kernel_rfl) (by decide) qV yB aFB.low
theorem aFC:Rd enc Tryz.prog w sp (D+1) 112 oV (fun c=>c.first.length<1048576):=by
 intro n cs x hn hx hb
 obtain⟨xs,n',rfl,rfl,hl,hxl,hf⟩:=DataW.trod_struct Tryz.underlying112 hx
 have hl:cs.length=3:=hl.trans (by kernel_rfl)
 obtain⟨a0,p0,r0⟩:=cZ (m:=1) hxl hf hb 0 rfl (by kernel_rfl) (BL Tryz.underlying9) (show n'≤D by omega)
 obtain⟨a1,p1,r1⟩:=cZ (m:=1) hxl hf hb 1 rfl (by kernel_rfl) (eP Tryz.underlying3) (show n'≤D by omega)
 obtain⟨a2,p2,r2⟩:=cZ (m:=1) hxl hf hb 2 rfl (by kernel_rfl) aFy (show n'≤D by omega)
 refine⟨⟨a0,a1,a2⟩,p2.1,?_⟩
 exact(dM (off:=0) r0 (dM (off:=1) r1 (dM (off:=2) r2 (gD hl))))
theorem aJ6:Rd enc Tryz.prog w sp D 23 (fun l=> [sl oV l]) (fun l=>l.length<1048576∧∀a∈l,a.first.length<1048576):=
 i5 Tryz.underlying23 (m:=3) (by kernel_rfl) (by decide) jW ZF aFC.low
theorem aFD:Rd enc Tryz.prog w sp (D+1) 185 gN (fun _=>True):=by
 intro n cs x hn hx hb
 obtain⟨xs,n',rfl,rfl,hl,hxl,hf⟩:=DataW.trod_struct Tryz.underlying185 hx
 have hl:cs.length=2:=hl.trans (by kernel_rfl)
 obtain⟨a0,p0,r0⟩:=cZ (m:=1) hxl hf hb 0 rfl (by kernel_rfl) (BL Tryz.underlying9) (show n'≤D by omega)
 obtain⟨a1,p1,r1⟩:=cZ (m:=1) hxl hf hb 1 rfl (by kernel_rfl) (eP Tryz.underlying3) (show n'≤D by omega)
 refine⟨⟨a0,a1⟩,trivial,?_⟩
 exact(dM (off:=0) r0 (dM (off:=1) r1 (gD hl)))
theorem aJ7:Rd enc Tryz.prog w sp D 46 (fun l=> [sl gN l]) (fun l=>l.length<1048576∧∀a∈l,True):=
 i5 Tryz.underlying46 (m:=2) (by kernel_rfl) (by decide) jX T3 aFD.low
theorem aFE:Rd enc Tryz.prog w sp (D+1) 188 iM (fun a=>kV D a.expr):=by
 intro n cs x hn hx hb
 obtain⟨xs,n',rfl,rfl,hl,hxl,hf⟩:=DataW.trod_struct Tryz.underlying188 hx
 have hl:cs.length=4:=hl.trans (by kernel_rfl)
 obtain⟨a0,p0,r0⟩:=cZ (m:=1) hxl hf hb 0 rfl (by kernel_rfl) (eP Tryz.underlying3) (show n'≤D by omega)
 obtain⟨a1,p1,r1⟩:=cZ (m:=3) hxl hf hb 1 rfl (by kernel_rfl) aAY (show n'≤D by omega)
 refine⟨⟨a0,a1⟩,p1,?_⟩
 exact(dM (off:=0) r0 (dM (off:=1) r1 (gD hl)))
theorem kV.up:∀{n:Nat} {e:Expr},kV n e→kV (n+1) e
 |0,_,h=>h.elim
 |n+1,_,h=>⟨h.1,fun k hk=>(h.2 k hk).up⟩
theorem aB1:Rd enc Tryz.prog w sp D 188 iM (fun a=>kV D a.expr):=fun n cs x hn hx hb=>by
 obtain⟨a,h1,h2⟩:=aFE (D:=D) n cs x (by omega) hx hb
 exact⟨a,h1,h2⟩
theorem aFF:Rd enc Tryz.prog w sp D 50 (fun l=> [sl iM l]) (fun l=>l.length<1048576∧∀a∈l,kV D a.expr):=
 i5 Tryz.underlying50 (m:=4) (by kernel_rfl) (by decide) oW T4 aB1
theorem aJ8:Rd enc Tryz.prog w sp (D+1) 53 eT (oO D):=by
 intro n cs x hn hx hb
 obtain⟨xs,n',rfl,rfl,hl,hxl,hf⟩:=DataW.trod_struct Tryz.underlying53 hx
 have hl:cs.length=14:=hl.trans (by kernel_rfl)
 obtain⟨a0,p0,r0⟩:=cZ (m:=1) hxl hf hb 0 rfl (by kernel_rfl) (BL Tryz.underlying9) (show n'≤D by omega)
 obtain⟨a1,p1,r1⟩:=cZ (m:=1) hxl hf hb 1 rfl (by kernel_rfl) aJ7 (show n'≤D by omega)
 obtain⟨a2,p2,r2⟩:=cZ (m:=3) hxl hf hb 2 rfl (by kernel_rfl) aAY (show n'≤D by omega)
 obtain⟨a3,p3,r3⟩:=cZ (m:=1) hxl hf hb 3 rfl (by kernel_rfl) (eP Tryz.underlying3) (show n'≤D by omega)
 obtain⟨a4,p4,r4⟩:=cZ (m:=1) hxl hf hb 4 rfl (by kernel_rfl) (eP Tryz.underlying3) (show n'≤D by omega)
 obtain⟨a5,p5,r5⟩:=cZ (m:=1) hxl hf hb 5 rfl (by kernel_rfl) aFF (show n'≤D by omega)
 obtain⟨a6,p6,r6⟩:=cZ (m:=1) hxl hf hb 6 rfl (by kernel_rfl) aFF (show n'≤D by omega)
 obtain⟨a7,p7,r7⟩:=cZ (m:=1) hxl hf hb 7 rfl (by kernel_rfl) Y4 (show n'≤D by omega)
 obtain⟨a8,p8,r8⟩:=cZ (m:=1) hxl hf hb 8 rfl (by kernel_rfl) (eP Tryz.underlying3) (show n'≤D by omega)
 obtain⟨a9,p9,r9⟩:=cZ (m:=3) hxl hf hb 9 rfl (by kernel_rfl) aJ3.low (show n'≤D by omega)
 refine⟨⟨a0,a1,a2,a3,a4,a5,a6,a7,a8,a9.1,a9.2.1,a9.2.2⟩,⟨p1.1,Nat.lt_trans p5.1 (by decide),Nat.lt_trans p6.1 (by decide),Nat.lt_trans p7.1 (by decide),p2,p5.2,p6.2⟩,?_⟩
 exact(dM (off:=0) r0 (dM (off:=1) r1 (dM (off:=2) r2 (dM (off:=5) r3 (dM (off:=6) r4 (dM (off:=7) r5 (dM (off:=8) r6 (dM (off:=9) r7 (dM (off:=10) r8 (dM (off:=11) r9 (gD hl)))))))))))
theorem aFG:Rd enc Tryz.prog w sp D 53 eT (oO D):=fun n cs x hn hx hb=>aJ8 (D:=D) n cs x (by omega) hx hb
theorem aJ9:Rd enc Tryz.prog w sp D 24 (fun l=> [sl eT l]) (fun l=>l.length<1048576∧∀a∈l,oO D a):=
 i5 Tryz.underlying24 (m:=14) (by kernel_rfl) (by decide) eS aCb aFG
theorem aKa:Rd enc Tryz.prog w sp (D+1) 26 eN (dR D):=by
 intro n cs x hn hx hb
 obtain⟨xs,n',rfl,rfl,hl,hxl,hf⟩:=DataW.trod_struct Tryz.underlying26 hx
 have hl:cs.length=5:=hl.trans (by kernel_rfl)
 obtain⟨a0,p0,r0⟩:=cZ (m:=1) hxl hf hb 0 rfl (by kernel_rfl) aJ5 (show n'≤D by omega)
 obtain⟨a1,p1,r1⟩:=cZ (m:=1) hxl hf hb 1 rfl (by kernel_rfl) aJ6 (show n'≤D by omega)
 obtain⟨a2,p2,r2⟩:=cZ (m:=1) hxl hf hb 2 rfl (by kernel_rfl) aJ9 (show n'≤D by omega)
 obtain⟨a3,p3,r3⟩:=cZ (m:=1) hxl hf hb 3 rfl (by kernel_rfl) (eP Tryz.underlying3) (show n'≤D by omega)
 obtain⟨a4,p4,r4⟩:=cZ (m:=1) hxl hf hb 4 rfl (by kernel_rfl) (eP Tryz.underlying3) (show n'≤D by omega)
 refine⟨⟨a0,a1,a2,a3,a4⟩,⟨fun c hc=>Nat.lt_trans (p0.2 c hc) (by decide),Nat.lt_trans p0.1 (by decide),⟨Nat.lt_trans p1.1 (by decide),p1.2⟩,Nat.lt_trans p2.1 (by decide),p2.2⟩,?_⟩
 exact(dM (off:=0) r0 (dM (off:=1) r1 (dM (off:=2) r2 (dM (off:=3) r3 (dM (off:=4) r4 (gD hl))))))
theorem aFH:Rd enc Tryz.prog w sp (D+1) 30 iU (fun m=>m.vars.length<1048576∧m.ins.length<1048576∧m.outs.length<1048576):=by
 intro n cs x hn hx hb
 obtain⟨xs,n',rfl,rfl,hl,hxl,hf⟩:=DataW.trod_struct Tryz.underlying30 hx
 have hl:cs.length=4:=hl.trans (by kernel_rfl)
 obtain⟨a0,p0,r0⟩:=cZ (m:=1) hxl hf hb 0 rfl (by kernel_rfl) (eP Tryz.underlying3) (show n'≤D by omega)
 obtain⟨a1,p1,r1⟩:=cZ (m:=1) hxl hf hb 1 rfl (by kernel_rfl) Y4 (show n'≤D by omega)
 obtain⟨a2,p2,r2⟩:=cZ (m:=1) hxl hf hb 2 rfl (by kernel_rfl) Y4 (show n'≤D by omega)
 obtain⟨a3,p3,r3⟩:=cZ (m:=1) hxl hf hb 3 rfl (by kernel_rfl) Y4 (show n'≤D by omega)
 refine⟨⟨a0,a1,a2,a3⟩,⟨p1.1,p2.1,p3.1⟩,?_⟩
 exact(dM (off:=0) r0 (dM (off:=1) r1 (dM (off:=2) r2 (dM (off:=3) r3 (gD hl)))))
theorem aKb:Rd enc Tryz.prog w sp (D+1) 40 yO (fun _=>True):=by
 intro n cs x hn hx hb
 obtain⟨xs,n',rfl,rfl,hl,hxl,hf⟩:=DataW.trod_struct Tryz.underlying40 hx
 have hl:cs.length=7:=hl.trans (by kernel_rfl)
 obtain⟨a0,p0,r0⟩:=cZ (m:=1) hxl hf hb 0 rfl (by kernel_rfl) (eP Tryz.underlying3) (show n'≤D by omega)
 obtain⟨a1,p1,r1⟩:=cZ (m:=1) hxl hf hb 1 rfl (by kernel_rfl) (eP Tryz.underlying3) (show n'≤D by omega)
 obtain⟨a2,p2,r2⟩:=cZ (m:=4) hxl hf hb 2 rfl (by kernel_rfl) aFH.low (show n'≤D by omega)
 obtain⟨a3,p3,r3⟩:=cZ (m:=1) hxl hf hb 3 rfl (by kernel_rfl) (eP Tryz.underlying3) (show n'≤D by omega)
 refine⟨⟨a0,a1,a2,a3⟩,trivial,?_⟩
 exact(dM (off:=0) r0 (dM (off:=1) r1 (dM (off:=2) r2 (dM (off:=6) r3 (gD hl)))))
theorem aKc:Rd enc Tryz.prog w sp D 27 (fun l=> [sl yO l]) (fun l=>l.length<1048576∧∀a∈l,True):=
 i5 Tryz.underlying27 (m:=7) (by kernel_rfl) (by decide) tH ZG aKb.low
end
section
attribute [local irreducible] cl
def gX(t:List AV):List AV:=dD++ [iv 32,.map 20]++t
def gX3:List AV:=gX [.slice 6756 0 3 3 2,.slice 6773 0 2 2 7,.bool true]
theorem aI4:jY [(5,1,iv 32),(6,1,.map 20)] (aV [.aB,.aB,.aB,iv 0,iv 0,iv 0,.nilm,.aB,.aB,.bool false] 0 dD)=some (gX [.aB,.aB,.bool false]):=by kernel_rfl
theorem aEJ:aZ (gX [.aB,.aB,.bool false])=true:=by kernel_rfl
theorem aP1:aV (gX [.aB,.aB,.bool false]) 9 [.bool true]=some (gX [.aB,.aB,.bool true]):=by kernel_rfl
def gS4:aL:=bI (bI (i4 6774 sb3) 19 (.cells [.slice 6756 0 3 3 2,.slice 6773 0 2 2 7,.bool true])) 10 (.cells [.slice 6756 0 3 3 2,.slice 6773 0 2 2 7,.bool true])
theorem p78:evh 3000 78 [.agg dD,.agg [.slice 6756 0 3 3 2,.slice 6773 0 2 2 7,.bool true]] gS4 [1] []=some (.agg [iv 1,iv 0,iv 0,.aB],[(1,.cells [iv 0,iv 0,iv 0,.aB])]):=by kernel_rfl
end
section
attribute [local irreducible] cl
def m0V:AV:= .rslice [.rslice [iv 0,iv 1] 1 1 false,.aB,.aB] 3 3 false
def F0(g:aL):Prop:=(∃m,aP g 21=some (.cells m)∧bR m 7=some (.slice 130 0 1 1 2))∧(∃m,aP g 130=some (.cells m)∧bR m 0=some m0V)∧∀K:KH,K (iv 1) (i4 131 sb0)→C 18 [m0V] g K
def F1(g:aL):Prop:=(∃m,aP g 21=some (.cells m)∧bR m 7=some (.slice 3573 0 2 2 2))∧(∃m,aP g 3573=some (.cells m)∧bR m 1=some (.slice 3383 0 3 3 0))∧∀K:KH,K (iv 1) (i4 3591 sb1)→C 18 [.slice 3383 0 3 3 0] g K
def F2(g:aL):Prop:=(∃m,aP g 21=some (.cells m)∧bR m 7=some (.slice 6756 0 3 3 2))∧(∃m,aP g 6756=some (.cells m)∧bR m 2=some (.slice 6566 0 3 3 0))∧∀K:KH,K (iv 1) (i4 6774 sb2)→C 18 [.slice 6566 0 3 3 0] g K
theorem pM(l:List (Nat×AO)):l++q9 []=l:=by simp[q9]
theorem r0(k:∀g,F0 g→K (iv 0) g):C 282 [.ptr 21 0,m0V] gHC K:=by
 refine tC q0 (by kernel_rfl) (by kernel_rfl) fun g f c=>k g ⟨f 21 7 _ (by simp),f 130 0 _ (by simp[m0V]),fun K2 k2=>c K2 (by rw[pM];exact k2)⟩
theorem r1(k:∀g,F1 g→K (.tuple []) g):C 283 [.ptr 21 0,iv 0] (i4 131 sb0) K:=by
 refine tC q1 (by kernel_rfl) (by kernel_rfl) fun g f c=>k g ⟨f 21 7 _ (by simp),f 3573 1 _ (by simp),fun K2 k2=>c K2 (by rw[pM];exact k2)⟩
theorem r2(k:∀g,F2 g→K (.tuple []) g):C 283 [.ptr 21 0,iv 1] (i4 3591 sb1) K:=by
 refine tC q2 (by kernel_rfl) (by kernel_rfl) fun g f c=>k g ⟨f 21 7 _ (by simp),f 6756 2 _ (by simp),fun K2 k2=>c K2 (by rw[pM];exact k2)⟩
theorem r3(k:K (.tuple []) (i4 6774 sb3)):C 283 [.ptr 21 0,iv 2] (i4 6774 sb2) K:=by
 refine Q1 q3 (by kernel_rfl) (by kernel_rfl) ?_
 rw[pM]
 exact k
theorem aEG:aP (i4 6774 sb3) 21=some (.cells gX3):=by kernel_rfl
theorem aEH:aP (i4 6774 sb3) 19=some (.cells [.aB,.aB,.bool false]):=by kernel_rfl
theorem I3:aP (i4 6774 sb3) 10=some (.cells [.aB,.aB,.bool false]):=by kernel_rfl
def spC:List AV:= [.slice 6756 0 3 3 2,.slice 6773 0 2 2 7,.bool true]
theorem aI2:bZ 3 (drop 7 gX3)=some spC:=by kernel_rfl
theorem aI3:bR gX3 7=some (.slice 6756 0 3 3 2):=by kernel_rfl
theorem YR:aP (i4 6774 sb3) 0=some (.cells dD):=by kernel_rfl
theorem heq:bI (nw (nw (nw (nw (up (nw (nw (up (nw (nw gE (.cells dD)) (.cells [iv 0,iv 0,iv 0,.aB])) 7) (.cells dD)) (.cells [.aB,.aB,.bool false])) 7) (.cells dD)) (.cells [.aB,.aB,.bool false])) (.map [] 0)) (.cells (gX [.aB,.aB,.bool false]))) 21 (.cells (gX [.aB,.aB,.bool true]))=gHC:=by kernel_rfl
theorem QX:spC.length=3:=by kernel_rfl
theorem QY:aZ spC=true:=by kernel_rfl
theorem aBU:bZ 3 spC=some spC:=by kernel_rfl
theorem aBV:aV [.aB,.aB,.bool false] 0 spC=some spC:=by kernel_rfl
theorem aPZ(K:KH)(k:∀h,K (.agg [iv 1,iv 0,iv 0,.aB]) h):C 34 [.agg dD,iv 32,iv 32] gE K:=by
 refine e34 ?_
 refine Zr ?_
 refine e79 ?_
 refine Zr ?_
 refine y9 QZ p15 ?_
 refine Zr ?_
 refine aQi ?_
 refine Zr ?_
 refine⟨fun z=>absurd z (by decide),fun _=> ?_⟩
 rw[aI4]
 simp only[go_sem,reduceAdd,reduceMul,reduceSub,aa,reduceEqDiff,reduceLT,aEJ]
 rw[aP1]
 refine Zr ?_
 refine y9 (by kernel_rfl) p44 ?_
 rw[heq]
 refine r0 fun g f=> ?_
 refine cD (σ:=Nat×aL) (fun s=> [iv s.1,.ptr 21 0,iv 32,.ptr 19 0]) (fun s=>s.2) (fun s=>(s.1=0∧F0 s.2)∨(s.1=1∧F1 s.2)∨(s.1=2∧F2 s.2)∨(s.1=3∧s.2=i4 6774 sb3)) (fun s=>3-s.1) ?_ (0,g) (.inl ⟨rfl,f⟩) (A:=YW) (cur:=0)
 rintro⟨i,g⟩ hs
 simp only at hs
 refine aEO ?_
 rcases hs with⟨rfl,⟨m,f1,f2⟩,⟨m',f3,f4⟩,f5⟩|⟨rfl,⟨m,f1,f2⟩,⟨m',f3,f4⟩,f5⟩|⟨rfl,⟨m,f1,f2⟩,⟨m',f3,f4⟩,f5⟩|⟨rfl,rfl⟩
 ·refine Z2 f1 f2 ?_
  refine⟨fun _=> ?_,fun z=>absurd (by decide) z⟩
  rw[show cR none 1 (.slice 130 0 1 1 2) (some 0)=some (.ptr 130 0)from by kernel_rfl]
  refine Z2 f3 f4 ?_
  refine f5 _ ?_
  refine Zr ?_
  refine⟨fun z=>absurd z (by decide),fun _=> ?_⟩
  refine r1 fun g' f'=> ?_
  exact bT (by decide) (by decide) ⟨rfl,(1,g'),.inr (.inl ⟨rfl,f'⟩),(show 3-1<3 by decide),rfl,rfl⟩
 ·refine Z2 f1 f2 ?_
  refine⟨fun _=> ?_,fun z=>absurd (by decide) z⟩
  rw[show cR none 1 (.slice 3573 0 2 2 2) (some 1)=some (.ptr 3573 1)from by kernel_rfl]
  refine Z2 f3 f4 ?_
  refine f5 _ ?_
  refine Zr ?_
  refine⟨fun z=>absurd z (by decide),fun _=> ?_⟩
  refine r2 fun g' f'=> ?_
  exact bT (by decide) (by decide) ⟨rfl,(2,g'),.inr (.inr (.inl ⟨rfl,f'⟩)),(show 3-2<3-1 by decide),rfl,rfl⟩
 ·refine Z2 f1 f2 ?_
  refine⟨fun _=> ?_,fun z=>absurd (by decide) z⟩
  rw[show cR none 1 (.slice 6756 0 3 3 2) (some 2)=some (.ptr 6756 2)from by kernel_rfl]
  refine Z2 f3 f4 ?_
  refine f5 _ ?_
  refine Zr ?_
  refine⟨fun z=>absurd z (by decide),fun _=> ?_⟩
  refine r3 ?_
  exact bT (by decide) (by decide) ⟨rfl,(3,i4 6774 sb3),.inr (.inr (.inr ⟨rfl,rfl⟩)),by decide,rfl,rfl⟩
 ·simp only[go_sem,reduceAdd,reduceMul,reduceSub,aa,reduceEqDiff,reduceLT,aEG,aI3]
  refine⟨fun z=>absurd z (by decide),fun _=> ?_⟩
  rw[aI2]
  refine Zr ?_
  rw[nA QX QY]
  simp only[go_sem,reduceAdd,reduceMul,reduceSub,aa,reduceEqDiff,reduceLT,aEH,I3]
  rw[aBV]
  simp only[go_sem,reduceAdd,reduceMul,reduceSub,aa,reduceEqDiff,reduceLT,aBU,I3,YR]
  rw[nA QX QY]
  simp only[go_sem,reduceAdd,reduceMul,reduceSub,aa,reduceEqDiff,reduceLT,I3,YR]
  rw[aBV]
  simp only[go_sem,reduceAdd,reduceMul,reduceSub,aa,reduceEqDiff,reduceLT,aBU,I3,YR]
  refine Q1 (h:=gS4) p78 (by kernel_rfl) (by kernel_rfl) ?_
  rw[pM]
  have g1:aP (i4 gS4.aA [(1,.cells [iv 0,iv 0,iv 0,.aB])]) 1=some (.cells [iv 0,iv 0,iv 0,.aB]):=by kernel_rfl
  refine Z1 g1 ?_
  exact k _
end
section
attribute [local irreducible] cl
@[go_sem]theorem aFq:YS.aA=2:=by kernel_rfl
@[go_sem]theorem aII:gH6.aA=4:=by kernel_rfl
def z32:List AV:= [yb 0,yb 0,yb 0,yb 0,yb 0,yb 0,yb 0,yb 0,yb 0,yb 0,yb 0,yb 0,yb 0,yb 0,yb 0,yb 0,yb 0,yb 0,yb 0,yb 0,yb 0,yb 0,yb 0,yb 0,yb 0,yb 0,yb 0,yb 0,yb 0,yb 0,yb 0,yb 0]
theorem aEA:rP 300 z32=zz 9600 0:=CX (by kernel_rfl)
theorem aIJ(h:aL):wH h z32 (some 300) (some 300)= .ok (.slice h.aA 0 300 300 0) (nw h (.cells (rP 300 z32))):=by kernel_rfl
theorem aPP(k:K (.ptr (h.aA+1) 0) (nw (nw h (.cells (zz 9600 0))) (.cells [.slice h.aA 0 300 300 0,.aB,.bool false,iv 0,iv 0,iv 0]))):C 26 [iv 300] h K:=by
 refine e26 ?_
 rw[show iP max2 [iv 0,iv 300]=some (iv 300)from by kernel_rfl]
 refine Zr ?_
 rw[show bB (AV.int .i64 (min 300 1024))=some 300 from by kernel_rfl]
 change RP (wH h z32 (some 300) (some 300)) _
 rw[aIJ,aEA]
 refine Zr ?_
 exact k
theorem aIK:aP gH6 3=some (.cells dD):=by kernel_rfl
theorem aAU:jY [(5,1,.ptr 10 0)] (aV [.aB,.aB,.aB,iv 0,iv 0,.nilp,.nilp,iv 0,iv 0,iv 0,iv 0,.aB,.aB,iv 0,iv 0,.bool false,iv 0] 0 dD)=some (dD++ [.ptr 10 0,.nilp]++aAW):=by kernel_rfl
theorem aEB:aZ (dD++ [.ptr 10 0,.nilp]++aAW)=true:=by kernel_rfl
def hG0:aL:=i4 376 (gb0++q9 gd0)
def pO:aL:=i4 5064 (gb1++q9 gd1)
def t7:aL:=i4 6512 (gb2++q9 gd2)
def MO:aL:=i4 10829 (gb3++q9 gd3)
def hG4:aL:=i4 12169 (gb4++q9 gd4)
@[go_sem]theorem aIM:hG0.aA=376:=by kernel_rfl
@[go_sem]theorem aIN:pO.aA=5064:=by kernel_rfl
@[go_sem]theorem aIO:t7.aA=6512:=by kernel_rfl
@[go_sem]theorem aIP:MO.aA=10829:=by kernel_rfl
@[go_sem]theorem aIQ:hG4.aA=12169:=by kernel_rfl
def hGs:Nat→aL
 |0=>hG0
 |1=>pO
 |2=>t7
 |3=>MO
 |_=>hG4
theorem aEC(h:aL):bO .sl [sY] h= .ok (iv 4) h:=by kernel_rfl
def gP(i:Nat):List AV:= [yb 0,yb 0,yb 3,yb 0,yb 0,yb 0,yb 3,yb 0].drop (i*2)
theorem aPQ:cR none 2 sY (some 0)=some (.rptr (gP 0)):=by kernel_rfl
theorem aPR:cR none 2 sY (some 1)=some (.rptr (gP 1)):=by kernel_rfl
theorem aPS:cR none 2 sY (some 2)=some (.rptr (gP 2)):=by kernel_rfl
theorem aPT:cR none 2 sY (some 3)=some (.rptr (gP 3)):=by kernel_rfl
theorem aIR(h:aL):aJ h (.many 0 2) (.rptr (gP 0))=some (.agg [.int .u8 0,.int .u8 0]):=by kernel_rfl
theorem aIS(h:aL):aJ h (.many 0 2) (.rptr (gP 1))=some (.agg [.int .u8 3,.int .u8 0]):=by kernel_rfl
theorem aIT(h:aL):aJ h (.many 0 2) (.rptr (gP 2))=some (.agg [.int .u8 0,.int .u8 0]):=by kernel_rfl
theorem aIU(h:aL):aJ h (.many 0 2) (.rptr (gP 3))=some (.agg [.int .u8 3,.int .u8 0]):=by kernel_rfl
@[go_sem]theorem aJT:aQ sY=true:=by kernel_rfl
theorem aIV(k:K (.func (.func 76) [.ptr 7 0] []) h):C 29 [.ptr 7 0,.int .u8 0] h K:=by
 refine e29 ?_
 rw[show aO .rem .no (.int .u8 0) (.int .u8 10)=some (.int .u8 0)from by kernel_rfl]
 refine Zr ?_
 exact⟨fun z=>absurd z (by decide),fun _=>⟨fun z=>absurd z (by decide),fun _=>k⟩⟩
theorem aIW(k:K (.func (.func 76) [.ptr 7 0] []) h):C 29 [.ptr 7 0,.int .u8 3] h K:=by
 refine e29 ?_
 rw[show aO .rem .no (.int .u8 3) (.int .u8 10)=some (.int .u8 3)from by kernel_rfl]
 refine Zr ?_
 exact⟨fun z=>absurd z (by decide),fun _=>⟨fun z=>absurd z (by decide),fun _=>k⟩⟩
def g7:List AV:=dD++ [.ptr 10 0,.ptr 186 0]++ [iv 0,iv 0,iv 4,iv 0,.aB,.aB,iv 0,iv 0,.bool false,iv 0]
theorem aIX:aP hG4 7=some (.cells g7):=by kernel_rfl
theorem aPU:bR g7 6=some (.ptr 186 0):=by kernel_rfl
def hH5:aL:=i4 12169 gb5
theorem aBS:aP hH5 7=some (.cells g7):=by kernel_rfl
theorem aIY:aP hH5 0=some (.cells dD):=by kernel_rfl
theorem EI:aP hH5 3=some (.cells dD):=by kernel_rfl
theorem wV:aP hH5 2=some (.cells [iv 0,iv 0,iv 0,iv 0,.aB,.aB,iv 0,iv 0,.bool false,iv 0]):=by kernel_rfl
theorem aPV(k:K (.agg [iv 1,iv 0,iv 0,.aB]) h):C 34 [.agg dD,iv 32,iv 32] h K:=by
 have q:=D3 (aPZ (fun v h'=>v= .agg [iv 1,iv 0,iv 0,.aB]) (fun _=>rfl))
 refine qT (gW.frame (by kernel_rfl) q ?_) ⟨_,h,k⟩
 rintro v h' rfl
 exact⟨_,.same rfl,k⟩
def g7b(o:AV)(t:Int):List AV:=dD++ [.ptr 10 0,.ptr 186 0]++ [iv 0,iv 0,iv 4,iv 0,gM,.aB,iv 3,iv 0,o,iv t]
theorem aEE:GF.length=4:=by kernel_rfl
theorem aEF:aZ GF=true:=by kernel_rfl
theorem aPW:aV g7 11 GF=some (g7b (.bool false) 0):=by kernel_rfl
theorem aPX:bZ 4 (drop 11 (g7b (.bool false) 0))=some GF:=by kernel_rfl
theorem aIZ:aV (g7b (.bool false) 0) 15 [.bool true]=some (g7b (.bool true) 0):=by kernel_rfl
theorem aI0:aV (g7b (.bool true) 0) 16 [iv 1]=some (g7b (.bool true) 1):=by kernel_rfl
theorem aI1:bZ 10 (drop 7 (g7b (.bool true) 1))=some [iv 0,iv 0,iv 4,iv 0,gM,.aB,iv 3,iv 0,.bool true,iv 1]:=by kernel_rfl
theorem QW:aZ [iv 0,iv 0,iv 4,iv 0,gM,.aB,iv 3,iv 0,.bool true,iv 1]=true:=by kernel_rfl
theorem aPY(K:KH)(k:∀h,1≤h.aA→aP h 0=some (.cells dD)→K (.agg [iv 0,iv 0,iv 4,iv 0,gM,.aB,iv 3,iv 0,.bool true,iv 1]) h):C 13 [Q0,.slice 1 0 8 8 0] YS K:=by
 refine e13 ?_
 refine aI5 ?_
 refine Zr ?_
 rw[show bI (nw (nw YS (.cells [iv 0,iv 0,iv 0,iv 0,.aB,.aB,iv 0,iv 0,.bool false,iv 0])) (.cells [.aB,.aB,.aB,iv 0,iv 0])) 3 (.cells dD)=gH6 from rfl]
 refine⟨fun _=> ?_,fun z=>absurd trivial z⟩
 refine aPP ?_
 refine Zr ?_
 simp only[go_sem,reduceAdd,reduceMul,reduceSub,aa,reduceEqDiff,reduceLT,aIK]
 rw[aAU]
 simp only[go_sem,reduceAdd,reduceMul,reduceSub,aa,reduceEqDiff,reduceLT,aEB]
 refine tC (h:=aI6) p27 (by kernel_rfl) (by kernel_rfl) fun h1 _ c=> ?_
 refine Zr ?_
 refine c _ ?_
 rw[aEC]
 refine Zr ?_
 refine cD (σ:=Nat) (fun i=> [iv i,iv 4,sY,.ptr 7 0,.ptr 2 0,.ptr 3 0]) hGs (fun i=>i≤4) (fun i=>4-i) ?_ 0 (by decide) (A:=aEN) (cur:=0)
 intro i hi
 refine aJe ?_
 match i,hi with
 |0,_=>
  show RO (aO .lss .no (iv 0) (iv 4)) _
  refine Zr ?_
  refine⟨fun _=> ?_,fun z=>absurd z (by decide)⟩
  rw[show hGs 0=hG0 from rfl,aPQ]
  simp only[go_sem,reduceAdd,reduceMul,reduceSub,aa,reduceEqDiff,reduceLT,aIR]
  refine aIV ?_
  refine Zr ?_
  refine tC aJa (by kernel_rfl) (by kernel_rfl) fun h1 f c=> ?_
  obtain⟨m1,a1,a2⟩:=f 7 6 (.ptr 186 0) (by simp)
  obtain⟨m2,b1,b2⟩:=f 186 0 (.ptr 181 0) (by simp)
  obtain⟨m3,c1,c2⟩:=f 181 0 (.ptr 27 0) (by simp)
  simp only[go_sem,reduceAdd,reduceMul,reduceSub,aa,reduceEqDiff,reduceLT,a1,a2,b1,b2,c1,c2]
  refine c _ ?_
  refine Zr ?_
  exact bT (by decide) (by decide) ⟨rfl,1,by decide,by decide,rfl,rfl⟩
 |1,_=>
  show RO (aO .lss .no (iv 1) (iv 4)) _
  refine Zr ?_
  refine⟨fun _=> ?_,fun z=>absurd z (by decide)⟩
  rw[show hGs 1=pO from rfl,aPR]
  simp only[go_sem,reduceAdd,reduceMul,reduceSub,aa,reduceEqDiff,reduceLT,aIS]
  refine aIW ?_
  refine Zr ?_
  refine tC aJb (by kernel_rfl) (by kernel_rfl) fun h1 f c=> ?_
  obtain⟨m1,a1,a2⟩:=f 7 6 (.ptr 186 0) (by simp)
  obtain⟨m2,b1,b2⟩:=f 186 0 (.ptr 181 0) (by simp)
  obtain⟨m3,c1,c2⟩:=f 181 0 (.ptr 27 0) (by simp)
  simp only[go_sem,reduceAdd,reduceMul,reduceSub,aa,reduceEqDiff,reduceLT,a1,a2,b1,b2,c1,c2]
  refine c _ ?_
  refine Zr ?_
  exact bT (by decide) (by decide) ⟨rfl,2,by decide,by decide,rfl,rfl⟩
 |2,_=>
  show RO (aO .lss .no (iv 2) (iv 4)) _
  refine Zr ?_
  refine⟨fun _=> ?_,fun z=>absurd z (by decide)⟩
  rw[show hGs 2=t7 from rfl,aPS]
  simp only[go_sem,reduceAdd,reduceMul,reduceSub,aa,reduceEqDiff,reduceLT,aIT]
  refine aIV ?_
  refine Zr ?_
  refine tC aJc (by kernel_rfl) (by kernel_rfl) fun h1 f c=> ?_
  obtain⟨m1,a1,a2⟩:=f 7 6 (.ptr 186 0) (by simp)
  obtain⟨m2,b1,b2⟩:=f 186 0 (.ptr 181 0) (by simp)
  obtain⟨m3,c1,c2⟩:=f 181 0 (.ptr 27 0) (by simp)
  simp only[go_sem,reduceAdd,reduceMul,reduceSub,aa,reduceEqDiff,reduceLT,a1,a2,b1,b2,c1,c2]
  refine c _ ?_
  refine Zr ?_
  exact bT (by decide) (by decide) ⟨rfl,3,by decide,by decide,rfl,rfl⟩
 |3,_=>
  show RO (aO .lss .no (iv 3) (iv 4)) _
  refine Zr ?_
  refine⟨fun _=> ?_,fun z=>absurd z (by decide)⟩
  rw[show hGs 3=MO from rfl,aPT]
  simp only[go_sem,reduceAdd,reduceMul,reduceSub,aa,reduceEqDiff,reduceLT,aIU]
  refine aIW ?_
  refine Zr ?_
  refine tC aJd (by kernel_rfl) (by kernel_rfl) fun h1 f c=> ?_
  obtain⟨m1,a1,a2⟩:=f 7 6 (.ptr 186 0) (by simp)
  obtain⟨m2,b1,b2⟩:=f 186 0 (.ptr 181 0) (by simp)
  obtain⟨m3,c1,c2⟩:=f 181 0 (.ptr 27 0) (by simp)
  simp only[go_sem,reduceAdd,reduceMul,reduceSub,aa,reduceEqDiff,reduceLT,a1,a2,b1,b2,c1,c2]
  refine c _ ?_
  refine Zr ?_
  exact bT (by decide) (by decide) ⟨rfl,4,by decide,by decide,rfl,rfl⟩
 |4,_=>
  show RO (aO .lss .no (iv 4) (iv 4)) _
  refine Zr ?_
  refine⟨fun z=>absurd z (by decide),fun _=> ?_⟩
  rw[show hGs 4=hG4 from rfl]
  simp only[go_sem,reduceAdd,reduceMul,reduceSub,aa,reduceEqDiff,reduceLT,aIX,aPU]
  refine Q1 (h:=hG4) p32 (by kernel_rfl) (by kernel_rfl) ?_
  rw[pM]
  rw[show i4 hG4.aA gb5=hH5 from rfl]
  simp only[go_sem,reduceAdd,reduceMul,reduceSub,aa,reduceEqDiff,reduceLT,aBS,EI,wV]
  rw[nA aEE aEF]
  simp only[go_sem,reduceAdd,reduceMul,reduceSub,aa,reduceEqDiff,reduceLT,aBS,EI,wV]
  rw[aPW]
  simp only[go_sem,reduceAdd,reduceMul,reduceSub,aa,reduceEqDiff,reduceLT,EI,wV]
  rw[aPX]
  refine Zr ?_
  refine y9 (by kernel_rfl) p33 ?_
  simp only[go_sem,reduceAdd,reduceMul,reduceSub,aa,reduceEqDiff,reduceLT,EI,wV]
  rw[aIZ]
  simp only[go_sem,reduceAdd,reduceMul,reduceSub,aa,reduceEqDiff,reduceLT,EI,wV]
  refine aPV ?_
  rw[show sJ (.one 0) (.agg [iv 1,iv 0,iv 0,.aB])=some (iv 1)from by kernel_rfl]
  simp only[go_sem,reduceAdd,reduceMul,reduceSub,aa,reduceEqDiff,reduceLT,EI,wV]
  rw[aI0]
  simp only[go_sem,reduceAdd,reduceMul,reduceSub,aa,reduceEqDiff,reduceLT,EI,wV]
  rw[aI1]
  simp only[go_sem,reduceAdd,reduceMul,reduceSub,aa,reduceEqDiff,reduceLT,wV]
  rw[nA (by rfl) QW]
  simp only[go_sem,reduceAdd,reduceMul,reduceSub,aa,reduceEqDiff,reduceLT,wV]
  have hn5:hH5.aA=12169:=by kernel_rfl
  refine k _ ?_ ?_
  ·rw[bC,bC,bC,cW,bC,hn5];decide
  ·simp only[go_sem,reduceAdd,reduceMul,reduceSub,aa,reduceEqDiff,reduceLT,aIY]
 |i+5,hi=>exact absurd hi (by omega)
end
section
attribute [local irreducible] cl
theorem c4g(K:KH)(k:∀h,K (.bool true) h):C 4 [] gE K:=by
 refine e4 ?_
 refine y9 rfl p12 ?_
 refine aI5 ?_
 refine Zr ?_
 refine y9 rfl p12 ?_
 refine Zr ?_
 rw[show nw (bI (nw gE (.cells [.aB,.aB,.aB,iv 0,iv 0])) 0 (.cells dD)) (.cells [.int .u8 0,.int .u8 0,.int .u8 3,.int .u8 0,.int .u8 0,.int .u8 0,.int .u8 3,.int .u8 0])=YS from by kernel_rfl]
 refine aPY _ fun h hn hh=> ?_
 have e0:(0=h.aA)=False:=eq_false (by omega)
 rw[show aK (.agg [iv 0,iv 0,iv 4,iv 0,gM,.aB,iv 3,iv 0,.bool true,iv 1])= [iv 0,iv 0,iv 4,iv 0,gM,.aB,iv 3,iv 0,.bool true,iv 1]from rfl,nA (by rfl) QW]
 refine Z2 hh e0 ?_
 refine⟨fun _=>⟨fun _=>⟨fun _=>⟨fun _=> ?_,fun z=>absurd trivial z⟩,fun z=>absurd trivial z⟩,fun z=>absurd trivial z⟩,fun z=>absurd trivial z⟩
 refine y9 (by kernel_rfl) p14 ?_
 exact⟨rfl,k _⟩
theorem c4(k:K (.bool true) h):C 4 [] h K:=by
 have q:=D3 (c4g (fun v h'=>v= .bool true) (fun _=>rfl))
 refine qT (gW.frame rfl q ?_) ⟨_,h,k⟩
 rintro v h' rfl
 exact⟨_,.same rfl,k⟩
end
section
open YtnlkancjfhgdcaaGreatDoor.Rows hiding none
open YtnlkancjfhgdcaaGreatDoor Go.ChangeShapes Go.WideShapes Go.ChangeAt Go.RowKit
def h0:aL:=⟨.leaf,0⟩
theorem aJ2(W:World):dI E (rT W) h0 W where
 obj b o e:=by simp[h0,bE.get]at e
 inj b b' o o' m m' e:=by simp[h0,bE.get]at e
 fresh b _:=by simp[h0,bE.get]
 ren b _:=rfl
 low b m e:=by cases e
 cold b o m e:=by simp[h0,bE.get]at e
 old k h:=h
theorem TH{f:Nat}{a b c:AV}(q:C f [a,b,c] h0 K){vs:Array Value}{W:World}(hg:zB W (rT W))(hr:dH (rT W) W [a,b,c] vs.toList):
  Calls Tryz.prog f vs W fun e W'=>∃v v' h' ρ',e= .returned v'∧K v h'∧RV ρ' W' v v'∧W.heap.size≤W'.heap.size∧(∀k,k<W.heap.size→W'.heap[k]?=W.heap[k]?)∧W'.os=W.os∧W'.output=W.output:=by
 rcases D3 q none 0 (rT W) W vs (aJ2 W) hg hr with⟨_,h⟩|⟨_,_,_,_,_,_,_,_,_,s,c,e⟩
 ·refine(callsIn_wide.1 h).mono fun e W' hq=> ?_
  cases e with
  |returned v'=>
   obtain⟨v,h',hk,ρ',st,sm,hv⟩:=hq
   exact⟨v,v',h',ρ',rfl,hk,hv,st.size,st.keepF,st.os,st.output⟩
  |_=>exact hq.elim
 ·cases e
theorem Q5{P:Program}{W:World}{x:String×DataW Unit}{rest:List (String×DataW Unit)}(h:laidMet P (x::rest) W):laidMet P rest W:=by
 obtain⟨ps,hl,hnd,hb⟩:=h
 obtain⟨g',t',cs,fuel,p,q,_,_,_,_,hq,rfl⟩:=hl
 exact⟨q,hq,(List.nodup_append.1 hnd).2.1,fun b off hm=>hb b off (by simp[hm])⟩
def zs:List Int:=match(laid_strings_asciiSpace:DataW Unit)with
 | .agg l=>l.map fun| .lit (.int _ n)=>n|_=>0
 |_=> []
theorem aFv:(List.range 256).all (fun off=>zs.getD off 0==bif(Nat.ble 9 off&&Nat.ble off 13)||Nat.beq off 32 then 1 else 0)=true:=by kernel_rfl
theorem aB0:zs.length=256:=by kernel_rfl
theorem Y2{W:World}(h:laidMetH Tryz.prog topOffersUptoRow.laid W):zB W (rT W):=by
 have h1:laidMet Tryz.prog [("unicode.White_Space",laid_unicode_White_Space),("strings.asciiSpace",Lib.tabData .u8 zs)] W:=h
 have g0:Tryz.prog.globalNamed "strings.asciiSpace" =some 0:=by kernel_rfl
 have ht:=Lib.tabIs_of_head (n:=256) g0 (t:=515) (by kernel_rfl) Tryz.underlying515 Tryz.underlying5 (by kernel_rfl) (by kernel_rfl) (Q5 h1)
 have hc:∀off,off<256→W.cell? ⟨0,off,none⟩=some (.int .u8 (zs.getD off 0)):=fun off ho=>ht.cell g0 off (by rw[aB0];exact ho)
 refine⟨(JC (hc 0 (by decide))).1,fun off ho=>⟨_,?_,hc off ho⟩⟩
 have:=List.all_eq_true.1 aFv off (by simpa using ho)
 rw[eq_of_beq this]
 rfl
theorem MQ{H:Type}{enc:TypeId×Value→H}{P:Program}{f:Func}{s:ChangeSpec}{apart fresh handsOn again:Bool}{W W':World}{args:Array Value}{v:Value}{ds gs:List (DataW H)}{before pa pv:List MemPlace}
  (hW:DataW.Whole enc P f.params.toList s.vars apart W args.toList ds gs before)
  (hres:∀(b:Nat) (sp:Nat→Bool) (hd:Bool),DataW.TrodAll enc P W' b sp hd f.resultTypes.toList (v.resultList f.resultTypes.size) (s.fn H (ds++gs)).results [])
  (hargs:∀sp:Nat→Bool,(∀p∈before,sp p.block=true)→DataW.TrodAll enc P W' 0 sp true f.params.toList args.toList (s.fn H (ds++gs)).args pa)
  (hvars:∀sp:Nat→Bool,(∀p∈before,sp p.block=true)→DataW.TrodVars enc P W' sp s.vars (s.fn H (ds++gs)).vars pv)
  (hps:before=pa++pv) (hk:∀k,k<W.heap.size→W'.heap[k]?=W.heap[k]?) (hos:W'.os=W.os) (hout:W'.output=W.output)
  (hok:∀(j:Nat) (t:TypeId) (r:Value),f.resultTypes[j]?=some t→(v.resultList f.resultTypes.size)[j]?=some r→Value.okWide P W' .any 0 t r):
  s.post enc P f apart fresh handsOn again W args v W':=by
 have hold:∀p∈before,(fun b=>decide (b<W.heap.size)) p.block=true:=fun p hp=>by simpa using hW.lt p hp
 refine⟨ds,gs,before,[],pa,pv,hW,hres _ _ _,hargs _ hold,hvars _ hold,⟨hos,hout,fun i hi=> ?_⟩,fun _=> ?_⟩
 ·rw[hk i hi]
  cases W.heap[i]? with
  |none=>rfl
  |some o=>
   cases o with
   |cells c t fr=>exact⟨rfl,rfl,rfl,fun _ _=>rfl⟩
   |map es cl=>exact .inr ⟨rfl,rfl⟩
   |_=>rfl
 ·have hlt:=hW.lt
  obtain⟨_,_,_,_,_,hz,hn⟩:=hW
  refine⟨hok,_,_,([]++pa)++pv,⟨[]++pa,pv,trodAll_append (hargs _ (fun _ _=>rfl)) (hres _ _ _),hvars _ (fun _ _=>rfl),rfl,?_,?_⟩,?_⟩
  ·intro b off hp
   have hp:MemPlace.cell b off∈before:=by rw[hps];simpa using hp
   have:=hz b off hp
   unfold World.frozen? at this⊢
   rw[hk b (hlt _ hp)]
   exact this
  ·intro ha
   have:=hn ha
   rw[hps]at this
   simpa using this
  ·intro p hp _
   rw[hps]
   simpa using hp
theorem Y3:laidOutB Tryz.prog=true:=by kernel_rfl
theorem wY{H:Type}{enc:TypeId×Value→H}{W W':World}{t:Nat}{v:Value}{d:DataW H}{ps:List MemPlace}(hr:Tryz.prog.readableRec t=true)(ht:t<Tryz.prog.types.size)
  (h:DataW.Trod enc Tryz.prog W 0 (fun _=>true) true t v d ps) (hk:∀k,k<W.heap.size→W'.heap[k]?=W.heap[k]?) (hlt:∀p∈ps,p.block<W.heap.size) {sp:Nat→Bool} (hs:∀p∈ps,sp p.block=true):
  DataW.Trod enc Tryz.prog W' 0 sp true t v d ps:=
 WideElems.Trod_stays Y3 hr ht h (fun p hp=>by
  have:=hk p.block (hlt p hp)
  cases p with
  |cell b off=>simp only[World.sameAt,World.cell?];rw[show W'.heap[b]?=W.heap[b]? from this]
  |map b=>exact this) hs
theorem TI(H:Type)(enc:TypeId×Value→H)(W:World)(base:Nat)(args:Array Value)(ds gs:List (DataW H))(before:List MemPlace)
  (hval:∀(j:Nat) t v,Tryz.f3.params[j]?=some t→args[j]?=some v→Value.okWide Tryz.prog W .any base t v) (hW:DataW.Whole enc Tryz.prog Tryz.f3.params.toList topOffersSpec.vars false W args.toList ds gs before) (hL:laidMetH Tryz.prog topOffersUptoRow.laid W) (hc:uptoSmall H (ds++gs)=true):
  Calls Tryz.prog 3 args W fun e W'=>∃v,e= .returned v∧topOffersSpec.post enc Tryz.prog Tryz.f3 false true false false W args v W':=by
 have hW':=hW
 have hlt:=hW.lt
 obtain⟨p,q,hA0,hV,rfl,_,_⟩:=hW
 have hA:DataW.TrodAll enc Tryz.prog W 0 (fun _=>true) true Tryz.f3.params.toList args.toList ds p:=hA0
 rw[Tryz.params3]at hA hval
 obtain⟨v0,v1,v2,d0,d1,d2,p0,p1,p2,rfl,rfl,hp,t0,t1,t2⟩:=trodAll_three hA
 subst hp
 obtain⟨rfl,rfl⟩:=trodVars_none hV
 have hb:uptoBulkAll [d0,d1,d2]≤1048576:=by
  have:=of_decide_eq_true hc
  simpa using this
 simp only[uptoBulkAll]at hb
 have q0:=hval 0 26 v0 rfl rfl
 simp only[Value.okWide,Tryz.underlying26]at q0
 obtain⟨c0,rfl,_⟩:=q0
 obtain⟨s1,s2,s3,rfl⟩:=okWide_slice Tryz.underlying27 (hval 1 27 v1 rfl rfl)
 have q2:=hval 2 30 v2 rfl rfl
 simp only[Value.okWide,Tryz.underlying30]at q2
 obtain⟨c2,rfl,_⟩:=q2
 have k0:=t0
 have k1:=t1
 have k2:=t2
 obtain⟨n0,e0⟩:=t0
 obtain⟨n1,e1⟩:=t1
 obtain⟨n2,e2⟩:=t2
 obtain⟨n,hn,r0⟩:=aKa (D:=n0) n0 _ _ (by omega) e0 (by simp only[];omega)
 obtain⟨l,hl,r1⟩:=aKc (D:=n1) n1 _ _ (by omega) e1 (by simp only[];omega)
 obtain⟨o,ho,r2⟩:=aFH (D:=n2) n2 _ _ (by omega) e2 (by simp only[];omega)
 have rr:dH (rT W) W [.agg (eN n),sl yO l,.agg (iU o)] #[.agg c0,.slice s1 s2 s3,.agg c2].toList:=by
  obtain⟨x,y,h1,h2,rfl⟩:=r1
  cases h1
  exact⟨_,_,rfl,⟨c0,rfl,r0,aCc n⟩,_,_,rfl,h2,_,_,rfl,⟨c2,rfl,r2,tG o⟩,rfl⟩
 refine(TH (K:=fun v _=>v= .bool true) (c3 (fun h K k=>c4 k) hn (Nat.lt_trans hl.1 (by decide)) (Nat.lt_trans ho.1 (by decide)) (Nat.lt_trans ho.2.1 (by decide)) (Nat.lt_trans ho.2.2 (by decide)) rfl) (Y2 hL) rr).mono fun e W' hq=> ?_
 obtain⟨v,v',h',ρ',rfl,rfl,hv,hs,hk,hos,hout⟩:=hq
 have hv:v'= .bool true:=hv
 subst hv
 refine⟨_,rfl,MQ (pa:=p0++p1++p2) (pv:= []) hW' (fun _ _ _=>trodAll_mk1 (shut_bool Tryz.underlying4 _)) (fun sp hsp=> ?_) (fun _ _=>rfl) (by simp) hk hos hout (ok_one (by kernel_rfl) rfl (okWide_bool_mk Tryz.underlying4 _))⟩
 have hp:∀p,p∈p0∨p∈p1∨p∈p2→p∈p0++p1++p2++ []:=fun p h=>by simp only[List.append_nil,List.mem_append];rcases h with h|h|h<;>simp[h]
 rw[Tryz.params3,List.append_assoc]
 exact trodAll_mk3 (wY (by kernel_rfl) (of_decide_eq_true (by kernel_rfl)) k0 hk (fun p h=>hlt p (hp p (.inl h))) (fun p h=>hsp p (hp p (.inl h))))
  (wY (by kernel_rfl) (of_decide_eq_true (by kernel_rfl)) k1 hk (fun p h=>hlt p (hp p (.inr (.inl h)))) (fun p h=>hsp p (hp p (.inr (.inl h)))))
  (wY (by kernel_rfl) (of_decide_eq_true (by kernel_rfl)) k2 hk (fun p h=>hlt p (hp p (.inr (.inr h)))) (fun p h=>hsp p (hp p (.inr (.inr h)))))
end
end
end Ev
