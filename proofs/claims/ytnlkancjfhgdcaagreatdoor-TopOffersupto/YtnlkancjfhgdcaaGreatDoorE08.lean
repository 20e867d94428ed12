/- Proved here: functions of the program, printed as propositions. Conditions: none beyond the hypotheses that each theorem states. -/
import Derived.Shelf.RegionOpenPlain
import Derived.WalkKit
import Derived.Lib.Walk
import Derived.Lib.SliceRun
import Derived.Lib.JoinLaws
import Derived.Lib.AppendZerosOnto
import Derived.Laws.Externs
import Derived.Laws.IdiomCopy
import Derived.Laws.NewBlocks
import Derived.Test.YtnlkancjfhgdcaaGreatDoorProg
import Derived.KernelRfl
import Derived.Laws.Rows
import Derived.Test.YtnlkancjfhgdcaaGreatDoorE07
set_option linter.all false
set_option maxRecDepth 100000
namespace Ev
open Go Go.Proofs Go.Shelf Go.RowKit Go.Lib
theorem uY{P:Program}(w:World)(tS tR e:TypeId)(ht:P.underlying tS=some (.slice e))(size:Nat)(hz:∀w,(Go.sizeOf e).run P w= .ok size w)
  (a b:Addr) (la ca lb cb:Nat) (hne:a.block≠b.block) (tA tB:TypeId) (kA kB:Nat)
  (hsa:w.shape? a.block=some (tA,kA)) (hsb:w.shape? b.block=some (tB,kB)) (hkA:kA≠0)
  (hfb:w.frozen? b=false) (hfe:w.frozen? ⟨b.block,kB,none⟩=false):
  (Extern.SlicesOverlaps.overlaps #[tS,tS] #[tR] #[.slice (some a) la ca,.slice (some b) lb cb]).run P w= .ok (.bool false) w:=by
 have hnb:(a.block !=b.block)=true:=by simpa using hne
 have hnb':(a.block==b.block)=false:=by simpa using hne
 change Sem.run P (α:=Value) (do
  let some t:=(#[tS,tS]:Array TypeId)[0]?|stuck "slices.overlaps: no parameter types"
  let .slice elem←underlying t|stuck "slices.overlaps: slice type expected"
  let size←Go.sizeOf elem
  match(some a:Option Addr),(some b:Option Addr)with
  |some a,some b=>
   if la=0∨lb=0∨size=0 then pure (Value.bool false)
   else if a.block !=b.block&&(←frozen a)&&(←frozen b)then unsupported .addressObserved
   else do
    if a.block !=b.block then do
     noView a;noView b
     if←mayBeOne a b then return Value.bool ((←choose _)==1)
    pure (Value.bool (a.block==b.block&&a.off<b.off+lb*size&&b.off<a.off+la*size))
  |_,_=>pure (Value.bool false)) w=_
 by_cases h0:la=0∨lb=0∨size=0
 ·simp[run_underlying ht,hz,h0]
 ·cases kA with
  |zero=>exact absurd rfl hkA
  |succ kA=>
   cases hfa:w.frozen? a<;>cases hfa2:w.frozen? ⟨a.block,kA+1,none⟩<;>
    simp[run_underlying ht,hz,h0,hnb,hnb',frozen,noView,viewAt,mayBeOne,stringish,shape,Sem.run,hsa,hsb,hfb,hfe,hfa,hfa2]
theorem tZ{P:Program}(w:World)(dT sT ty elem:TypeId)(size b o dLen dCap:Nat)(a:Addr)(sLen sCap k:Nat)(cs:List Value)
  (hu:P.underlying dT=some (.slice elem)) (hs:(P.info? elem).map (·.size)=some size) (hk:k=Nat.min sLen dLen) (hn:cs.length=k*size)
  (hsrc:∀j v,cs[j]?=some v→w.cell? (a.add j)=some v) (hc:∀j,j<cs.length→(w.cell? ⟨b,o+j,none⟩).isSome=true) (hf:∀j,j<cs.length→w.frozen? ⟨b,o+j,none⟩=false) (h1:∀v∈cs,v.oneCell'=true):
  (Builtin.copy_ #[dT,sT] ty #[.slice (some ⟨b,o,none⟩) dLen dCap,.slice (some a) sLen sCap]).run P w= .ok (goInt k) (w.setCells b o cs):=by
 have hl:=run_loadCells_list (P:=P) w a cs hsrc
 have hst:=run_storeCells_cells (P:=P) b o cs 0 w (by simpa using hc) (by simpa using hf) h1
 cases hq:P.info? elem with
 |none=>simp[hq]at hs
 |some i=>
  have hi:i.size=size:=by simpa[hq]using hs
  simp[Builtin.copy_,run_underlying hu,Builtin.lenOf,Builtin.firstCells,Go.sizeOf,typeInfo,hq,hi,←hk,←hn,hl,hst]
theorem XP(w:World){ops:Array Oper}{rest:List Oper}{o:Oper}{a:Act}{Q:Exit→Act→World→Prop}(hgd:o.guard=none)(d s:Operand)
  (ho:o.op= .call {callee:= .builtin .copy,args:= #[d,s],argTypes:= #[34,34]}) (v u:Value) (hd:a.eval d=v) (hs:a.eval s=u) {v':Value} {w':World}
  (hr:(Builtin.copy_ #[34,34] o.type #[v,u]).run Tryz.prog w= .ok v' w') (h:wpList Tryz.prog ops Q rest (a.put o.dst v') w'):wpList Tryz.prog ops Q (o::rest) a w:=
 wpList_plain hgd fun _ hK=>by
  unfold Oper.wp execOp
  simp only[ho,resolve,invoke,builtin,Sem.run_bind,Sem.run_pure,Result.andThen_ok,List.map_toArray,List.map_cons,List.map_nil,hd,hs,hr]
  exact hK _ _ h
theorem aBE{ops:Array Oper}{o:Oper}{a:Act}{w:World}{K:Act→World→Prop}{Q:Exit→Act→World→Prop}{N:Prop}
  (hg:o.guard=none) (d x:Operand) (hop:o.op=Op.call {callee:=Callee.builtin Builtin.copy,args:= #[d,x],argTypes:= #[34,34]})
  (v u:Value) (hd:a.eval d=v) (hx:a.eval x=u) {v':Value} {w':World} (hr:(Builtin.copy_ #[34,34] o.type #[v,u]).run Tryz.prog w= .ok v' w') (hK:K (a.put o.dst v') w'):
  if Region.wanted o (yielded ops a.tmps)=true then Oper.wp Tryz.prog o a w K Q else N:=by
 rw[if_pos (by simp[Region.wanted,hg])]
 unfold Oper.wp
 simp[execOp,hop,resolve,invoke,builtin,hd,hx,hr,Result.andThen]
 exact hK
theorem IL:(Tryz.prog.info? 121).map (·.size)=some 11:=by kernel_rfl
theorem AY:∃i z,Tryz.prog.info? 121=some i∧i.zero=some z∧i.size=11∧i.bytes≤4096∧z.cells.size=11:=by
 have h:((Tryz.prog.info? 121).bind fun i=>i.zero.map fun z=>(i.size==11&&Nat.ble i.bytes 4096&&z.cells.size==11))=some true:=by kernel_rfl
 cases hi:Tryz.prog.info? 121 with
 |none=>rw[hi]at h;cases h
 |some i=>
  cases hz:i.zero with
  |none=>rw[hi]at h;simp[hz]at h
  |some z=>
   rw[hi]at h
   simp[hz]at h
   exact⟨i,z,rfl,hz,h.1.1,h.1.2,h.2⟩
section
variable(b off n c i vb voff m vc:Nat)(us bs vs:List Value)(w:World)
set_option maxHeartbeats 4000000 in
set_option maxRecDepth 100000 in
theorem TA(hi:i<n)(hm:0<m)(hroom:n+m≤c)(hbig:n+m<2097152)(hvb:vb≠b)(hbl:bs.length=(n-i)*11)(hvl:vs.length=m*11)
  (hbs:∀j v,bs[j]?=some v→w.cell? ⟨b,off+i*11+j,none⟩=some v) (hsp:∀j,j<(n+m)*11→(w.cell? ⟨b,off+j,none⟩).isSome=true) (hfz:∀j,w.frozen? ⟨b,j,none⟩=false)
  (hvs:∀j v,vs[j]?=some v→w.cell? ⟨vb,voff+j,none⟩=some v) (h1c:∀v∈bs,v.oneCell'=true) (h1v:∀v∈vs,v.oneCell'=true)
  (tA tB:TypeId) (kA kB:Nat) (hsa:w.shape? vb=some (tA,kA)) (hsb:w.shape? b=some (tB,kB)) (hkA:kA≠0):
  Calls Tryz.prog 191 #[.slice (some ⟨b,off,none⟩) n c,.int .i64 i,.slice (some ⟨vb,voff,none⟩) m vc] w fun e w'=>
   e= .returned (.slice (some ⟨b,off,none⟩) (n+m) c)∧w'=(w.drew.setCells b (off+(i+m)*11) bs).setCells b (off+i*11) vs:=by
 have hz1:¬((m:Int)=0):=by omega
 have hz2:¬((i:Int)=(n:Int)):=by omega
 have hov:∀lb cb,(callFunc 297 #[.slice (some ⟨vb,voff,none⟩) m vc,.slice (some ⟨b,off+(i+m)*11,none⟩) lb cb]).run Tryz.prog w= .ok (.value (.bool false)) w:=fun lb cb=>by
  rw[run_callFunc_extern Tryz.func297 (by kernel_rfl) (by kernel_rfl) (by kernel_rfl) (e:=Extern.SlicesOverlaps.overlaps #[34,34] #[4]) (by kernel_rfl),
   uY w 34 4 121 Tryz.underlying34 11 Tryz.sizeOf121 ⟨vb,voff,none⟩ ⟨b,off+(i+m)*11,none⟩ m vc lb cb hvb tA tB kA kB hsa hsb hkA (hfz _) (hfz _)]
  rfl
 have mixed:Tryz.prog.follows .mixedOrders=true:=by kernel_rfl
 have hw1:IntKind.i64.wrap ((i:Int)+(m:Int))=(i:Int)+(m:Int):=by rw[IntKind.wrap_i64];omega
 have hb1:(0:Int)≤(i:Int)+(m:Int):=by omega
 have hin:i≤n:=by omega
 have htn:((i:Int)+(m:Int)).toNat=i+m:=by omega
 have hb2:¬(c=i+m):=by omega
 have hb3:(i:Int)≤(n:Int)+(m:Int):=by omega
 have hb4:¬(c=i):=by omega
 have e1:(n+m)*11=(i+m)*11+(n-i)*11:=by rw[←Nat.add_mul];congr 1;omega
 have hcp1:∀ty dc sc,(Builtin.copy_ #[34,34] ty #[.slice (some ⟨b,off+(i+m)*11,none⟩) (n+m-(i+m)) dc,.slice (some ⟨b,off+i*11,none⟩) (n+m-i) sc]).run Tryz.prog w.drew= .ok (goInt ((n-i:Nat))) (w.drew.setCells b (off+(i+m)*11) bs):=fun ty dc sc=>
  tZ w.drew _ _ ty 121 11 b (off+(i+m)*11) (n+m-(i+m)) dc ⟨b,off+i*11,none⟩ (n+m-i) sc (n-i) bs Tryz.underlying34 IL (by simp only[Nat.min_def];split<;>omega) hbl
   (fun j v hj=>by rw[Addr.add_lit];exact hbs j v hj)
   (fun j hj=>by rw[Nat.add_assoc];exact hsp _ (by omega)) (fun j hj=>hfz _) h1c
 obtain⟨W1,hW1⟩:∃W1,W1=w.drew.setCells b (off+(i+m)*11) bs:=⟨_,rfl⟩
 have hsp1:∀k,k<(n+m)*11→(W1.cell? ⟨b,off+k,none⟩).isSome=true:=fun k hk=>by
  rw[hW1]
  exact eV b _ _ _ _ (hsp k hk) (fun j hj=>by rw[Nat.add_assoc];exact hsp _ (by omega))
 have hcp2:∀(W:World),(∀x,W.cell? x=W1.cell? x)→(∀x,W.frozen? x=W1.frozen? x)→∀ty dc,(Builtin.copy_ #[34,34] ty #[.slice (some ⟨b,off+i*11,none⟩) (n+m-i) dc,.slice (some ⟨vb,voff,none⟩) m vc]).run Tryz.prog W= .ok (goInt m) (W.setCells b (off+i*11) vs):=fun W hWc hWf ty dc=>
  tZ W _ _ ty 121 11 b (off+i*11) (n+m-i) dc ⟨vb,voff,none⟩ m vc m vs Tryz.underlying34 IL (by simp only[Nat.min_def];split<;>omega) hvl
   (fun j v hj=>by
    rw[Addr.add_lit,hWc,hW1,World.cell?_setCells_out b _ _ _ _ (fun h _=>absurd h hvb)]
    exact hvs j v hj)
   (fun j hj=>by rw[hWc,Nat.add_assoc];exact hsp1 _ (by omega)) (fun j hj=>by rw[hWf,hW1,World.frozen?_setCells];exact hfz _) h1v
 rw[←hW1]at hcp1
 clear e1
 go_enter Tryz.func191,Tryz.ntmps191
 go_wp2_with (simp only[hov])
 go_region_law_o (refine aBE rfl _ _ rfl _ _ (by simp[Act.eval,Act.put]) (by simp[Act.eval,Act.put]) (hcp1 _ _ _) ?_)
 go_wp2_with (at_builtin;refine XP _ rfl _ _ rfl _ _ rfl rfl (hcp2 _ (fun _=>rfl) (fun _=>rfl) _ _) ?_)
 go_ret
 first|exact⟨rfl,rfl⟩|exact⟨rfl,by rw[hW1]⟩
set_option maxHeartbeats 4000000 in
set_option maxRecDepth 100000 in
theorem IM(hm:0<m)(hroom:n+m≤c)(hbig:n+m<2097152)(hvl:vs.length=m*11)
  (hsp:∀j,j<m*11→(w.cell? ⟨b,off+n*11+j,none⟩).isSome=true) (hfz:∀j,w.frozen? ⟨b,j,none⟩=false)
  (hvs:∀j v,vs[j]?=some v→w.cell? ⟨vb,voff+j,none⟩=some v) (h1v:∀v∈vs,v.oneCell'=true):
  Calls Tryz.prog 191 #[.slice (some ⟨b,off,none⟩) n c,.int .i64 n,.slice (some ⟨vb,voff,none⟩) m vc] w fun e w'=>
   e= .returned (.slice (some ⟨b,off,none⟩) (n+m) c)∧w'=w.setCells b (off+n*11) vs:=by
 have mixed:Tryz.prog.follows .mixedOrders=true:=by kernel_rfl
 obtain⟨i0,z,hi0,hz0,hzs,hzb,hzc⟩:=AY
 have hz1:¬((m:Int)=0):=by omega
 have hsrc:Src Tryz.prog i0.size 34 (.slice (some ⟨vb,voff,none⟩) m vc) m vs w:=by
  rw[hzs]
  exact Src.ofSlice w Tryz.underlying34 ⟨vb,voff,none⟩ m vc vs hvl (fun j u hj=>by rw[Addr.add_lit];exact hvs j u hj) h1v
 have hrun:∀ty,(Builtin.append_ #[34,34] ty #[.slice (some ⟨b,off,none⟩) n c,.slice (some ⟨vb,voff,none⟩) m vc]).run Tryz.prog w= .ok (.slice (some ⟨b,off,none⟩) (n+m) c) (w.setCells b (off+n*11) vs):=fun ty=>by
  have:=run_append_room_src (P:=Tryz.prog) w 34 34 ty 121 i0 Tryz.underlying34 hi0 b off n c (.slice (some ⟨vb,voff,none⟩) m vc) m vs hsrc hroom (by rw[hzs,hvl];exact hsp) (by intro j hj;exact hfz _)
  rw[hzs]at this
  exact this
 go_enter Tryz.func191,Tryz.ntmps191
 go_wp2_with (at_builtin;refine Lib.wpList_append_run _ rfl _ _ _ _ rfl _ _ rfl rfl _ _ (hrun _) ?_)
 go_ret
 exact⟨rfl,rfl⟩
set_option maxHeartbeats 4000000 in
set_option maxRecDepth 100000 in
theorem wT(base:Option Addr)(z:Value)(hz:∃i,Tryz.prog.info? 121=some i∧i.zero=some z)(hm:0<m)(hnc:n≤c)(hroom:c<n+m)(hbig:n+m<2097152)
  (hcl:us.length=n*11) (hvl:vs.length=m*11) (hnil:base=none→n=0)
  (hcs:∀a,base=some a→∀j v,us[j]?=some v→w.cell? (a.add j)=some v)
  (hvs:∀j v,vs[j]?=some v→w.cell? ⟨vb,voff+j,none⟩=some v) (h1v:∀v∈vs,v.oneCell'=true):
  Calls Tryz.prog 191 #[.slice base n c,.int .i64 n,.slice (some ⟨vb,voff,none⟩) m vc] w fun e w'=>
   e= .returned (.slice (some ⟨w.heap.size,0,none⟩) (n+m) (grownCap w (n+m) c 121))∧
   w'=w.drew.alloc (.cells ((us++vs).toArray++Builtin.zeroCells z.cells (grownCap w (n+m) c 121-(n+m))) 121):=by
 have mixed:Tryz.prog.follows .mixedOrders=true:=by kernel_rfl
 obtain⟨i0,z0,hi0,hz0,hzs,hzb,hzc⟩:=AY
 obtain⟨i1,hi1,hzz⟩:=hz
 rw[hi0]at hi1
 cases hi1
 rw[hz0]at hzz
 cases hzz
 obtain⟨G,hG⟩:∃G,G=grownCap w (n+m) c 121:=⟨_,rfl⟩
 obtain⟨ROW,hROW⟩:∃ROW:Array Value,ROW=(us++vs).toArray++Builtin.zeroCells z.cells (G-(n+m)):=⟨_,rfl⟩
 have hz1:¬((m:Int)=0):=by omega
 have hsrc:Src Tryz.prog i0.size 34 (.slice (some ⟨vb,voff,none⟩) m vc) m vs w:=by
  rw[hzs]
  exact Src.ofSlice w Tryz.underlying34 ⟨vb,voff,none⟩ m vc vs hvl (fun j u hj=>by rw[Addr.add_lit];exact hvs j u hj) h1v
 have hold:(Builtin.firstCells i0.size n (.slice base n c)).run Tryz.prog w.drew= .ok us.toArray w.drew:=by
  rw[hzs]
  cases base with
  |none=>
   have h0:=hnil rfl
   subst h0
   rw[List.length_eq_zero_iff.1 (hcl.trans (Nat.zero_mul _))]
   exact run_firstCells_none w.drew 11 0 0 c
  |some a=>exact run_firstCells_some w.drew 11 n a n c us hcl (fun j v hj=>hcs a rfl j v hj)
 have hfit:Builtin.nextslicecap (n+m) c*i0.bytes≤281474976710656:=growslice_fits hroom (Nat.le_trans (Nat.mul_le_mul (Nat.le_of_lt hbig) hzb) (by decide))
 have hrun:∀ty,(Builtin.append_ #[34,34] ty #[.slice base n c,.slice (some ⟨vb,voff,none⟩) m vc]).run Tryz.prog w=_:=fun ty=>
  run_append_grow_src w 34 34 ty 121 i0 _ Tryz.underlying34 hi0 hz0 base n c us hold _ m vs hsrc hroom (by omega) hfit
 rw[←hG]at hrun⊢
 rw[←hROW]at hrun⊢
 clear hG hROW hold
 go_enter Tryz.func191,Tryz.ntmps191
 cases base with
 |none=>
  go_wp2_with (at_builtin;refine Lib.wpList_append_run _ rfl _ _ _ _ rfl _ _ rfl rfl _ _ (hrun _) ?_)
  go_ret
  exact⟨rfl,rfl⟩
 |some a=>
  obtain⟨ab,ao,asp⟩:=a
  go_wp2_with (at_builtin;refine Lib.wpList_append_run _ rfl _ _ _ _ rfl _ _ rfl rfl _ _ (hrun _) ?_)
  all_goals(go_ret;exact⟨rfl,rfl⟩)
set_option maxHeartbeats 4000000 in
set_option maxRecDepth 100000 in
theorem XQ(z:Value)(hz:∃i,Tryz.prog.info? 121=some i∧i.zero=some z∧z.cells.size=11)(hi:i<n)(hm:0<m)(hnc:n≤c)(hroom:c<n+m)(hbig:n+m<2097152)
  (hal:us.length=i*11) (hbl:bs.length=(n-i)*11) (hvl:vs.length=m*11)
  (has:∀j v,us[j]?=some v→w.cell? ⟨b,off+j,none⟩=some v) (hbs:∀j v,bs[j]?=some v→w.cell? ⟨b,off+i*11+j,none⟩=some v)
  (hvs:∀j v,vs[j]?=some v→w.cell? ⟨vb,voff+j,none⟩=some v) (h1c:∀v∈bs,v.oneCell'=true) (h1v:∀v∈vs,v.oneCell'=true) (hbw:b<w.heap.size) (hvw:vb<w.heap.size):
  Calls Tryz.prog 191 #[.slice (some ⟨b,off,none⟩) n c,.int .i64 i,.slice (some ⟨vb,voff,none⟩) m vc] w fun e w'=>
   e= .returned (.slice (some ⟨w.heap.size,0,none⟩) (n+m) (grownCap w (n+m) c 121))∧
   w'=(((w.alloc (.cells (us.toArray++Builtin.zeroCells z.cells (n+m-i)++Builtin.zeroCells z.cells (grownCap w (n+m) c 121-(n+m))) 121)).drew.setCells w.heap.size (i*11) vs).drew).setCells w.heap.size ((i+m)*11) bs:=by
 have mixed:Tryz.prog.follows .mixedOrders=true:=by kernel_rfl
 obtain⟨i0,z0,hi0,hz0,hzs,hzb,hzc⟩:=AY
 obtain⟨i1,hi1,hzz,_⟩:=hz
 rw[hi0]at hi1
 cases hi1
 rw[hz0]at hzz
 cases hzz
 have hz1:¬((m:Int)=0):=by omega
 have hz2:¬((i:Int)=(n:Int)):=by omega
 have hz3:(c:Int)<(n:Int)+(m:Int):=by omega
 have hkk:(n:Int)+(m:Int)-(i:Int)=((n+m-i:Nat):Int):=by omega
 have hik:i+(n+m-i)=n+m:=by omega
 have e1:(n+m)*11=(i+m)*11+(n-i)*11:=by rw[←Nat.add_mul];congr 1;omega
 have e2:(i+m)*11=i*11+m*11:=Nat.add_mul _ _ _
 have hold:(Builtin.firstCells i0.size i (.slice (some ⟨b,off,none⟩) i c)).run Tryz.prog w.drew= .ok us.toArray w.drew:=by
  rw[hzs]
  exact run_firstCells_some w.drew 11 i ⟨b,off,none⟩ i c us hal (fun j v hj=>by rw[Addr.add_lit];exact has j v hj)
 have hfit:Builtin.nextslicecap (n+m) c*i0.bytes≤281474976710656:=growslice_fits hroom (Nat.le_trans (Nat.mul_le_mul (Nat.le_of_lt hbig) hzb) (by decide))
 have hfit2:(n+m-i)*i0.bytes≤281474976710656:=Nat.le_trans (Nat.mul_le_mul (show n+m-i≤2097152 by omega) hzb) (by decide)
 have hrz:∀ty,(Builtin.append_ #[34,3] ty #[.slice (some ⟨b,off,none⟩) i c,.int .i64 ((n:Int)+(m:Int)-(i:Int))]).run Tryz.prog w=
   .ok (.slice (some ⟨w.heap.size,0,none⟩) (n+m) (grownCap w (n+m) c 121)) (w.drew.alloc (.cells (us.toArray++Builtin.zeroCells z.cells (n+m-i)++Builtin.zeroCells z.cells (grownCap w (n+m) c 121-(n+m))) 121)):=fun ty=>by
  have h:=Lib.run_append_grow_zeros w 34 3 ty 121 i0 _ .i64 .i64 Tryz.underlying34 Tryz.underlying3 hi0 hz0 (some ⟨b,off,none⟩) i c us hold (n+m-i) (by omega) (by omega) (by omega) (by omega) hfit2 (by rw[hik];exact hfit)
  rw[hik]at h
  rw[hkk]
  exact h
 obtain⟨G,hG⟩:∃G,G=grownCap w (n+m) c 121:=⟨_,rfl⟩
 obtain⟨ROW,hROW⟩:∃ROW:Array Value,ROW=us.toArray++Builtin.zeroCells z.cells (n+m-i)++Builtin.zeroCells z.cells (G-(n+m)):=⟨_,rfl⟩
 rw[←hG]at hrz⊢
 rw[←hROW]at hrz⊢
 have hRl:(n+m)*11≤ROW.size:=by
  have e3:(n+m-i)*11=(n+m)*11-i*11:=Nat.sub_mul _ _ _
  have e4:i*11≤(n+m)*11:=Nat.mul_le_mul_right _ (by omega)
  rw[hROW]
  simp only[Array.size_append,List.size_toArray,hal,size_zeroCells,hzc]
  omega
 obtain⟨W1,hW1⟩:∃W1,W1=w.drew.alloc (.cells ROW 121):=⟨_,rfl⟩
 rw[←hW1]at hrz
 have hN:∀j,j<(n+m)*11→(W1.cell? ⟨w.heap.size,j,none⟩).isSome=true:=fun j hj=>by
  rw[hW1,World.cell?_alloc_at (w:=w.drew) ROW _ w.heap.size j rfl,Array.getElem?_eq_getElem (by omega)];rfl
 have hNf:∀j,W1.frozen? ⟨w.heap.size,j,none⟩=false:=fun j=>by rw[hW1];exact World.frozen?_alloc_at (w:=w.drew) ROW _ w.heap.size j rfl
 have hOb:∀j v,w.cell? ⟨b,j,none⟩=some v→W1.cell? ⟨b,j,none⟩=some v:=fun j v h=>by rw[hW1,World.cell?_alloc_past (w:=w.drew) _ b j hbw];exact h
 have hOv:∀j v,w.cell? ⟨vb,j,none⟩=some v→W1.cell? ⟨vb,j,none⟩=some v:=fun j v h=>by rw[hW1,World.cell?_alloc_past (w:=w.drew) _ vb j hvw];exact h
 have hcpA:∀(W:World),(∀x,W.cell? x=W1.cell? x)→(∀x,W.frozen? x=W1.frozen? x)→∀ty dc,(Builtin.copy_ #[34,34] ty #[.slice (some ⟨w.heap.size,i*11,none⟩) (n+m-i) dc,.slice (some ⟨vb,voff,none⟩) m vc]).run Tryz.prog W= .ok (goInt m) (W.setCells w.heap.size (i*11) vs):=fun W hWc hWf ty dc=>
  tZ W _ _ ty 121 11 w.heap.size (i*11) (n+m-i) dc ⟨vb,voff,none⟩ m vc m vs Tryz.underlying34 IL (by simp only[Nat.min_def];split<;>omega) hvl
   (fun j v hj=>by rw[Addr.add_lit,hWc];exact hOv _ v (hvs j v hj))
   (fun j hj=>by rw[hWc];exact hN _ (by omega)) (fun j hj=>by rw[hWf];exact hNf _) h1v
 have hGn:n+m≤G:=by rw[hG];exact grownCap_ge w _ _ _
 have hG63:G≤9223372036854775807:=by
  have:=grownCap_le_maxLen w (n+m) c 121 (by unfold maxLen;omega)
  rw[←hG]at this
  unfold maxLen at this
  omega
 have hGi:¬(G=i):=by omega
 have hGim:¬(G=i+m):=by omega
 have hci:¬(c=i):=by omega
 have hbN:b≠w.heap.size:=by omega
 have hcpB:∀(W:World),(∀x,W.cell? x=(W1.setCells w.heap.size (i*11) vs).cell? x)→(∀x,W.frozen? x=(W1.setCells w.heap.size (i*11) vs).frozen? x)→∀ty dc sc,(Builtin.copy_ #[34,34] ty #[.slice (some ⟨w.heap.size,(i+m)*11,none⟩) (n+m-(i+m)) dc,.slice (some ⟨b,off+i*11,none⟩) (n-i) sc]).run Tryz.prog W= .ok (goInt ((n-i:Nat))) (W.setCells w.heap.size ((i+m)*11) bs):=fun W hWc hWf ty dc sc=>
  tZ W _ _ ty 121 11 w.heap.size ((i+m)*11) (n+m-(i+m)) dc ⟨b,off+i*11,none⟩ (n-i) sc (n-i) bs Tryz.underlying34 IL (by simp only[Nat.min_def];split<;>omega) hbl
   (fun j v hj=>by
    rw[Addr.add_lit,hWc,World.cell?_setCells_out _ _ _ _ _ (fun h _=>absurd h hbN)]
    exact hOb _ v (hbs j v hj))
   (fun j hj=>by rw[hWc];exact eV _ _ _ _ _ (hN _ (by omega)) (fun t ht=>hN _ (by omega)))
   (fun j hj=>by rw[hWf,World.frozen?_setCells];exact hNf _) h1c
 subst hW1
 have hE1:∀x,((w.alloc (.cells ROW 121)).drew).cell? x=(w.drew.alloc (.cells ROW 121)).cell? x:=fun x=>rfl
 have hE2:∀x,((w.alloc (.cells ROW 121)).drew).frozen? x=(w.drew.alloc (.cells ROW 121)).frozen? x:=fun x=>rfl
 have hF1:∀x,(((w.alloc (.cells ROW 121)).drew.setCells w.heap.size (i*11) vs).drew).cell? x=((w.drew.alloc (.cells ROW 121)).setCells w.heap.size (i*11) vs).cell? x:=fun x=>rfl
 have hF2:∀x,(((w.alloc (.cells ROW 121)).drew.setCells w.heap.size (i*11) vs).drew).frozen? x=((w.drew.alloc (.cells ROW 121)).setCells w.heap.size (i*11) vs).frozen? x:=fun x=>rfl
 have hw1:IntKind.i64.wrap ((i:Int)+(m:Int))=(i:Int)+(m:Int):=by rw[IntKind.wrap_i64];omega
 have hb1:(0:Int)≤(i:Int)+(m:Int):=by omega
 have hin:i≤n:=by omega
 have htn:((i:Int)+(m:Int)).toNat=i+m:=by omega
 have hb3:(i:Int)≤(n:Int):=by omega
 clear hkk hik hold hROW hG hRl e1 e2
 go_enter Tryz.func191,Tryz.ntmps191
 go_wp2_with (first
  |(at_builtin;refine Lib.wpList_append_run _ rfl _ _ _ _ rfl _ _ rfl rfl _ _ (hrz _) ?_)
  |(at_builtin;refine XP _ rfl _ _ rfl _ _ rfl rfl (hcpA _ hE1 hE2 _ _) ?_)
  |(at_builtin;refine XP _ rfl _ _ rfl _ _ rfl rfl (hcpB _ (fun _=>rfl) (fun _=>rfl) _ _ _) ?_))
 go_region_law_o (refine aBE rfl _ _ rfl (.slice (some ⟨w.heap.size,(i+m)*11,none⟩) (n+m-(i+m)) (G-(i+m))) (.slice (some ⟨b,off+i*11,none⟩) (n-i) (c-i)) (by simp[Act.eval,Act.put]) (by simp[Act.eval,Act.put]) (hcpB _ hF1 hF2 3 (G-(i+m)) (c-i)) ?_)
 go_wp2
 go_ret
 exact⟨rfl,rfl⟩
end
end Ev
