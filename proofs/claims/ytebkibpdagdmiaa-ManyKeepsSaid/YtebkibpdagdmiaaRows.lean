/-
  No cell of these rows narrows 'for every input' (looked for: loops, veiled, ifaces, maps, wideKeys, modest, calm, conditions, laid).
  DERIVED. THE GIVEN ROWS OF THIS SEAT. 5 by the template 'for every input the law returns true; each argument reads behind the call as it read before'; 0 by the template 'total and deterministic' (their statements: YtebkibpdagdmiaaTotals.lean).
  GIVEN WITH THE SEED: the statements are not yours to turn. If you find one false, say at which input.
  Laid BY PROGRAM, IN A SANDBOX (cutbox-rows.mjs): the forced cells as the released guide's own fill.sh prints them over the translation 68d80073b986526d… (all of the seat's roots in one cut). By AI agents, Wed Nov 11 2026. No macro, syntax, notation, axiom, sorry.
-/
import Derived.Test.YtebkibpdagdmiaaChecked
import GoSem.Claim
import GoSem.ClaimJoined
import GoSem.ClaimMapViews
import Derived.JoinedTies
import Derived.KernelRfl
namespace Go.Proofs.Ytebkibpdagdmiaa
/- THE CELL 'sum', in the pinned program and in every row, IS THE sha256 OF THE DUMP (.gsa) THAT YtebkibpdagdmiaaProg.lean LOADS. Nothing in Lean hashes anything: it is a label: what it is worth is what the hold of that sum in a sandbox is worth. -/
noncomputable def Try.pinned : Pinned := { name := "ytebkibpdagdmiaa", sum := "68d80073b986526d3daa0ad16b911d78f2511dd0dc4b7f784eb09aa1c4d93d0d", checked := Try.checked }
namespace Rows
def none {H : Type} : Left H := { results := [], args := [] }

/-- 'baldriclaw13.ManyTells': WHATEVER THE INPUT: true; the input reads as it did. -/
def manyTellsSpec : ChangeSpec := { name := "manyTells", fn := fun _ => fun
  | [d1, d2, d3] => { results := [.lit (.bool true)], args := [d1, d2, d3] }
  | _ => none }
def manyTellsRow : OpenClaim := { program := "ytebkibpdagdmiaa", sum := "68d80073b986526d3daa0ad16b911d78f2511dd0dc4b7f784eb09aa1c4d93d0d", func := "baldric/baldriclaw13.ManyTells", spec := "manyTells", apart := false }
def ManyTellsSaid : Prop := manyTellsRow.holds Try.pinned (OpenSpec.ofChange manyTellsSpec)

/-- ITS FALSE NEIGHBOUR: 'it returns false'. Refute it at one input. -/
def manyTellsWrong : ChangeSpec := { name := "manyTells", fn := fun _ => fun
  | [d1, d2, d3] => { results := [.lit (.bool false)], args := [d1, d2, d3] }
  | _ => none }
def ManyTellsWrongFalsely : Prop := manyTellsRow.holds Try.pinned (OpenSpec.ofChange manyTellsWrong)

/-- 'baldriclaw13.ManyEnds': WHATEVER THE INPUT: true; the input reads as it did. -/
def manyEndsSpec : ChangeSpec := { name := "manyEnds", fn := fun _ => fun
  | [d1, d2] => { results := [.lit (.bool true)], args := [d1, d2] }
  | _ => none }
def manyEndsRow : OpenClaim := { program := "ytebkibpdagdmiaa", sum := "68d80073b986526d3daa0ad16b911d78f2511dd0dc4b7f784eb09aa1c4d93d0d", func := "baldric/baldriclaw13.ManyEnds", spec := "manyEnds", apart := false }
def ManyEndsSaid : Prop := manyEndsRow.holds Try.pinned (OpenSpec.ofChange manyEndsSpec)

/-- ITS FALSE NEIGHBOUR: 'it returns false'. Refute it at one input. -/
def manyEndsWrong : ChangeSpec := { name := "manyEnds", fn := fun _ => fun
  | [d1, d2] => { results := [.lit (.bool false)], args := [d1, d2] }
  | _ => none }
def ManyEndsWrongFalsely : Prop := manyEndsRow.holds Try.pinned (OpenSpec.ofChange manyEndsWrong)

/-- 'baldriclaw13.ManyOrder': WHATEVER THE INPUT: true; the input reads as it did. -/
def manyOrderSpec : ChangeSpec := { name := "manyOrder", fn := fun _ => fun
  | [d] => { results := [.lit (.bool true)], args := [d] }
  | _ => none }
def manyOrderRow : OpenClaim := { program := "ytebkibpdagdmiaa", sum := "68d80073b986526d3daa0ad16b911d78f2511dd0dc4b7f784eb09aa1c4d93d0d", func := "baldric/baldriclaw13.ManyOrder", spec := "manyOrder", apart := false }
def ManyOrderSaid : Prop := manyOrderRow.holds Try.pinned (OpenSpec.ofChange manyOrderSpec)

/-- ITS FALSE NEIGHBOUR: 'it returns false'. Refute it at one input. -/
def manyOrderWrong : ChangeSpec := { name := "manyOrder", fn := fun _ => fun
  | [d] => { results := [.lit (.bool false)], args := [d] }
  | _ => none }
def ManyOrderWrongFalsely : Prop := manyOrderRow.holds Try.pinned (OpenSpec.ofChange manyOrderWrong)

/-- 'baldriclaw13.ManyPlays': WHATEVER THE INPUT: true; the input reads as it did. -/
def manyPlaysSpec : ChangeSpec := { name := "manyPlays", fn := fun _ => fun
  | [d1, d2, d3] => { results := [.lit (.bool true)], args := [d1, d2, d3] }
  | _ => none }
def manyPlaysRow : OpenClaim := { program := "ytebkibpdagdmiaa", sum := "68d80073b986526d3daa0ad16b911d78f2511dd0dc4b7f784eb09aa1c4d93d0d", func := "baldric/baldriclaw13.ManyPlays", spec := "manyPlays", apart := false }
def ManyPlaysSaid : Prop := manyPlaysRow.holds Try.pinned (OpenSpec.ofChange manyPlaysSpec)

/-- ITS FALSE NEIGHBOUR: 'it returns false'. Refute it at one input. -/
def manyPlaysWrong : ChangeSpec := { name := "manyPlays", fn := fun _ => fun
  | [d1, d2, d3] => { results := [.lit (.bool false)], args := [d1, d2, d3] }
  | _ => none }
def ManyPlaysWrongFalsely : Prop := manyPlaysRow.holds Try.pinned (OpenSpec.ofChange manyPlaysWrong)

/-- 'baldriclaw13.ManyKeeps': WHATEVER THE INPUT: true; the input reads as it did. -/
def manyKeepsSpec : ChangeSpec := { name := "manyKeeps", fn := fun _ => fun
  | [d1, d2, d3] => { results := [.lit (.bool true)], args := [d1, d2, d3] }
  | _ => none }
def manyKeepsRow : OpenClaim := { program := "ytebkibpdagdmiaa", sum := "68d80073b986526d3daa0ad16b911d78f2511dd0dc4b7f784eb09aa1c4d93d0d", func := "baldric/baldriclaw13.ManyKeeps", spec := "manyKeeps", apart := false }
def ManyKeepsSaid : Prop := manyKeepsRow.holds Try.pinned (OpenSpec.ofChange manyKeepsSpec)

/-- ITS FALSE NEIGHBOUR: 'it returns false'. Refute it at one input. -/
def manyKeepsWrong : ChangeSpec := { name := "manyKeeps", fn := fun _ => fun
  | [d1, d2, d3] => { results := [.lit (.bool false)], args := [d1, d2, d3] }
  | _ => none }
def ManyKeepsWrongFalsely : Prop := manyKeepsRow.holds Try.pinned (OpenSpec.ofChange manyKeepsWrong)

/- THE SECOND FORM. 'bulk': how many values and letters a reading holds, each counted each time it is reached (what is shared counts as often as it is met; a slice's spare places count too). A statement '..UptoSaid' is the law's where the arguments, and the package variables that the reading takes, are together of bulk at most 1048576: NARROWER than '..Said'. Prove '..Said' where nothing that the law and all that it calls make is longer than what came in: it says more and counts as full. Else prove '..UptoSaid'. A law counts once. -/
mutual
def uptoBulk {H : Type} : DataW H → Nat
  | .lit (.string bytes) => bytes.length + 1
  | .lit _ => 1
  | .nil => 1
  | .ptr d => uptoBulk d + 1
  | .slice elems spare => uptoBulkAll elems + uptoBulkAll spare + 1
  | .agg parts => uptoBulkAll parts + 1
  | .iface _ d => uptoBulk d + 1
  | .map entries => uptoBulkEntries entries + 1
  | .held _ => 1
def uptoBulkAll {H : Type} : List (DataW H) → Nat
  | [] => 0
  | d :: r => uptoBulk d + uptoBulkAll r
def uptoBulkEntries {H : Type} : List (Lit × DataW H) → Nat
  | [] => 0
  | x :: r => uptoBulkEntry x + uptoBulkEntries r
def uptoBulkEntry {H : Type} : Lit × DataW H → Nat
  | (.string bytes, d) => bytes.length + uptoBulk d + 1
  | (_, d) => uptoBulk d + 1
 end
def uptoSmall : (H : Type) → List (DataW H) → Bool := fun _ ds => decide (uptoBulkAll ds ≤ 1048576)
def OpenSpec.upto (s : _root_.Go.ChangeSpec) : _root_.Go.OpenSpec := { _root_.Go.OpenSpec.ofChange s with cond := some uptoSmall }

/-- 'baldriclaw13.ManyTells', WHERE WHAT IT READS IS OF BULK AT MOST 1048576: true; the input reads as it did. -/
def manyTellsUptoRow : OpenClaim := { program := "ytebkibpdagdmiaa", sum := "68d80073b986526d3daa0ad16b911d78f2511dd0dc4b7f784eb09aa1c4d93d0d", func := "baldric/baldriclaw13.ManyTells", spec := "manyTells", apart := false, narrowed := true }
def ManyTellsUptoSaid : Prop := manyTellsUptoRow.holds Try.pinned (OpenSpec.upto manyTellsSpec)

/-- 'baldriclaw13.ManyEnds', WHERE WHAT IT READS IS OF BULK AT MOST 1048576: true; the input reads as it did. -/
def manyEndsUptoRow : OpenClaim := { program := "ytebkibpdagdmiaa", sum := "68d80073b986526d3daa0ad16b911d78f2511dd0dc4b7f784eb09aa1c4d93d0d", func := "baldric/baldriclaw13.ManyEnds", spec := "manyEnds", apart := false, narrowed := true }
def ManyEndsUptoSaid : Prop := manyEndsUptoRow.holds Try.pinned (OpenSpec.upto manyEndsSpec)

/-- 'baldriclaw13.ManyOrder', WHERE WHAT IT READS IS OF BULK AT MOST 1048576: true; the input reads as it did. -/
def manyOrderUptoRow : OpenClaim := { program := "ytebkibpdagdmiaa", sum := "68d80073b986526d3daa0ad16b911d78f2511dd0dc4b7f784eb09aa1c4d93d0d", func := "baldric/baldriclaw13.ManyOrder", spec := "manyOrder", apart := false, narrowed := true }
def ManyOrderUptoSaid : Prop := manyOrderUptoRow.holds Try.pinned (OpenSpec.upto manyOrderSpec)

/-- 'baldriclaw13.ManyPlays', WHERE WHAT IT READS IS OF BULK AT MOST 1048576: true; the input reads as it did. -/
def manyPlaysUptoRow : OpenClaim := { program := "ytebkibpdagdmiaa", sum := "68d80073b986526d3daa0ad16b911d78f2511dd0dc4b7f784eb09aa1c4d93d0d", func := "baldric/baldriclaw13.ManyPlays", spec := "manyPlays", apart := false, narrowed := true }
def ManyPlaysUptoSaid : Prop := manyPlaysUptoRow.holds Try.pinned (OpenSpec.upto manyPlaysSpec)

/-- 'baldriclaw13.ManyKeeps', WHERE WHAT IT READS IS OF BULK AT MOST 1048576: true; the input reads as it did. -/
def manyKeepsUptoRow : OpenClaim := { program := "ytebkibpdagdmiaa", sum := "68d80073b986526d3daa0ad16b911d78f2511dd0dc4b7f784eb09aa1c4d93d0d", func := "baldric/baldriclaw13.ManyKeeps", spec := "manyKeeps", apart := false, narrowed := true }
def ManyKeepsUptoSaid : Prop := manyKeepsUptoRow.holds Try.pinned (OpenSpec.upto manyKeepsSpec)

end Rows
end Go.Proofs.Ytebkibpdagdmiaa
