/- Proved here: the card of TopOffers over arguments up to the bound (TopOffersUptoCardSaid): what is offered can be started, and nothing else. Conditions: those of the given statement alone. -/
import Derived.Test.YtnlkancjfhgdcaaGreatDoorE45
import Derived.Test.YtnlkancjfhgdcaaGreatDoorE06
set_option linter.all false
set_option maxRecDepth 1000000
open Go Go.Proofs
open Nat(reduceAdd reduceMul reduceSub reduceEqDiff reduceLT)
namespace Ev
noncomputable section
attribute [local irreducible] RO RL RP gV cB F cV cI NX LP J9
open Classical
variable{h:aL}{K:KH}
section
open YtnlkancjfhgdcaaGreatDoor.Rows hiding none
open YtnlkancjfhgdcaaGreatDoor Go.ChangeShapes Go.WideShapes Go.ChangeAt Go.RowKit
theorem aJ0:TopOffersUptoSaid:=
 OpenClaim.holds_of_cond 3 Tryz.f3 rfl rfl rfl rfl rfl rfl rfl ⟨rfl,rfl,rfl,rfl,rfl⟩ rfl rfl rfl rfl rfl (by kernel_rfl) Tryz.func3 EL
  (of_decide_eq_true (by kernel_rfl)) (by unfold Func.isWrapper;first|(rw[if_pos (by decide+kernel)];kernel_rfl)|(rw[if_neg (by decide+kernel)];exact⟨rfl,rfl⟩))
  (fun os started H enc _ F=>by rw[OpenClaim.pre_eq_preRow];exact aBZ os started H enc F)
theorem plain(f:FuncId)(fn:Func)(hf:Tryz.pinned.checked.prog.funcNamed "baldric/baldrictop.TopOffers" =some f)(hfn:Tryz.pinned.checked.prog.funcs[f]?=some fn):
  true=Tryz.pinned.checked.prog.looks []∧∀(j:Nat) t,fn.params[j]?=some t→Tryz.pinned.checked.prog.wantsStandIn t=false:=by
 obtain rfl:f=3:=Option.some.inj ((show Tryz.prog.funcNamed "baldric/baldrictop.TopOffers" =some 3 by kernel_rfl).symm.trans hf)|>.symm
 obtain rfl:fn=Tryz.f3:=(Option.some.inj (Tryz.func3.symm.trans hfn)).symm
 refine⟨by kernel_rfl,fun j t ht=> ?_⟩
 rw[Tryz.params3]at ht
 have:=Array.mem_of_getElem? ht
 simp at this
 rcases this with rfl|rfl|rfl
 ·exact(show Tryz.prog.wantsStandIn 26=false by kernel_rfl)
 ·exact(show Tryz.prog.wantsStandIn 27=false by kernel_rfl)
 ·exact(show Tryz.prog.wantsStandIn 30=false by kernel_rfl)
theorem Q4:Tryz.pinned.checked.prog.funcs.toList.any Func.goes=false:=by kernel_rfl
theorem MP(P:Program)(h:P.funcs.toList.any Func.goes=false)(f:FuncId):P.goes f=false:=by
 have h1:∀g:Nat,(P.funcs[g]?).any Func.goes=false:=by
  intro g
  cases e:P.funcs[g]? with
  |none=>rfl
  |some fn=>
   have hm:fn∈P.funcs.toList:=by
    rw[Array.getElem?_eq_some_iff]at e
    obtain⟨hlt,rfl⟩:=e
    exact Array.getElem_mem_toList hlt
   simp only[List.any_eq_false]at h
   simpa using h fn hm
 have h2:P.funcs.any Func.goes=false:=by rw[←Array.any_toList];exact h
 unfold Program.goes
 rw[h2]
 simp[h1]
theorem GH(P:Program)(c:OpenClaim)(hs:c.start= .entering)(h:P.funcs.toList.any Func.goes=false):c.goesBy P=false:=by
 unfold OpenClaim.goesBy Program.goesAt Program.goesFrom
 rw[hs]
 cases P.funcNamed c.func with
 |none=>rfl
 |some f=>simp[MP P h f]
theorem card:TopOffersUptoCardSaid:=
 Claim7.holds_tied_plain_at .later [] _ _ _ _ aJ0 (fun _ h=>by cases h) (by kernel_rfl) (fun _ h=>by cases h) topOffersUpto_row_tie rfl ⟨rfl,rfl⟩ (by kernel_rfl) rfl plain (GH _ _ rfl Q4).symm
end
end
end Ev
namespace Go.Proofs.YtnlkancjfhgdcaaGreatDoor
theorem topOffersUpto.proved : Rows.TopOffersUptoCardSaid := Ev.card
end Go.Proofs.YtnlkancjfhgdcaaGreatDoor
#print axioms Go.Proofs.YtnlkancjfhgdcaaGreatDoor.topOffersUpto.proved
