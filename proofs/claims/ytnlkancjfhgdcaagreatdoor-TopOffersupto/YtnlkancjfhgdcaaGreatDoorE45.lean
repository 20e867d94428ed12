/- Proved here: the law over the form, and its card. Conditions: none beyond the hypotheses that each theorem states. -/
import Derived.Deep.DeepWitnessRowRef
import Derived.Test.YtnlkancjfhgdcaaGreatDoorTie
import Derived.Test.YtnlkancjfhgdcaaGreatDoorCards
import Derived.Test.YtnlkancjfhgdcaaGreatDoorE44
set_option linter.all false
set_option maxRecDepth 1000000
open Go Go.Proofs
open Nat(reduceAdd reduceMul reduceSub reduceEqDiff reduceLT)
namespace Ev
noncomputable section
attribute [local irreducible] RO RL RP gV cB F cV cI NX LP J9
open Classical
variable{h:aL}{K:KH}
section
open YtnlkancjfhgdcaaGreatDoor.Rows hiding none
open YtnlkancjfhgdcaaGreatDoor Go.ChangeShapes Go.WideShapes Go.ChangeAt Go.RowKit
theorem own:ownKnob Tryz.prog.godebug=none:=by kernel_rfl
def aBY:List Int:= [9,13,1,32,133,101,160,5760,5600,8192,8202,1,8232,8233,1,8239,8287,48,12288,12288,1]
def W0(os:Os):World:=
 let N:=(World.settled Tryz.prog os).heap.size
 let w0:=World.holding Tryz.prog os ⟨#[.cells (aBY.map (Value.int .u16)).toArray 557,.cells #[.slice (some ⟨N,0,none⟩) 7 7,.slice none 0 0,.int .i64 2] 554],#[],[]⟩
 let put (h:Array Obj) (g:Nat) (cs:Array Value):Array Obj:=h.modify g fun
  | .cells _ t frozen=> .cells cs t frozen
  |o=>o
 {w0 with heap:=put (put w0.heap 0 (zs.map (Value.int .u8)).toArray) 2 #[.pointer (some ⟨N+1,0,none⟩)]}
def E4:Array Value:= #[.agg #[.slice none 0 0,.slice none 0 0,.slice none 0 0,.int .i64 0,.int .i64 0],.slice none 0 0,.agg #[.int .i64 0,.slice none 0 0,.slice none 0 0,.slice none 0 0]]
theorem TG(os:Os):laidMet Tryz.prog topOffersUptoRow.laid (((W0 os).forCall (fun _ _=>0) ⟨#[],E4,[]⟩).memory):=
 laidMet_of_run' 12 (by kernel_rfl) (by kernel_rfl)
theorem aFu{H:Type}(enc:TypeId×Value→H)(os:Os):(DataW.whole enc Tryz.prog ((W0 os).forCall (fun _ _=>0) ⟨#[],E4,[]⟩).memory Tryz.f3.params.toList topOffersSpec.vars false E4.toList 12).map (fun x=>(x.1,x.2.1))=
   some ([.agg [.nil,.nil,.nil,.lit (.int .i64 0),.lit (.int .i64 0)],.nil,.agg [.lit (.int .i64 0),.nil,.nil,.nil]],[]):=by kernel_rfl
theorem aJ1(os:Os){H:Type}(enc:TypeId×Value→H):
  (OpenSpec.upto topOffersSpec).preRow enc Tryz.prog Tryz.f3 topOffersUptoRow.domain false topOffersUptoRow.laid ((W0 os).forCall (fun _ _=>0) ⟨#[],E4,[]⟩).memory E4:=by
 obtain⟨⟨x1,x2,x3⟩,hx,hx1⟩:=Option.map_eq_some_iff.1 (aFu enc os)
 simp only[Prod.mk.injEq]at hx1
 obtain⟨rfl,rfl⟩:=hx1
 exact OpenSpec.preRow_of_cond 12 hx (by kernel_rfl) (fun k hk=>by cases hk;kernel_rfl) (by kernel_rfl) (TG os)
theorem aBZ(os:Os)(started:os.Started)(H:Type)(enc:TypeId×Value→H)(F:Stop.Interp):
  ReturnsInHanded {} Tryz.checked os 3 .any ((OpenSpec.upto topOffersSpec).preRow enc Tryz.prog Tryz.f3 topOffersUptoRow.domain false topOffersUptoRow.laid) (((OpenSpec.upto topOffersSpec).at F).post enc Tryz.prog Tryz.f3 false true false false):=by
 refine returnsInHanded_of_row (C:=Tryz.checked) (s:=OpenSpec.upto topOffersSpec) own started (by kernel_rfl) Tryz.func3
  (witness_row_atRef (enc:=enc) (C:=Tryz.checked) false (W0 os) E4 rfl (by kernel_rfl) (by kernel_rfl) (by kernel_rfl) (aJ1 os enc)) ?_
 intro W base args ds gs before hval hW _ hc _ hL _ _
 exact TI H enc W base args ds gs before hval hW hL (hc _ rfl)
end
end
end Ev
