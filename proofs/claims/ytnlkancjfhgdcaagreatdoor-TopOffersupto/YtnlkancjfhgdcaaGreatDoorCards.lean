/-
  DERIVED. GIVEN WITH THE SEED: THE CARDS: each row of YtnlkancjfhgdcaaGreatDoorRows.lean that lists a variable, with what it lists TIED to the program's text (the seventh form; the later family's looks); each row that meets fmt, with fmt's text TOLD by the authors' own Lean function (tested against real Go, not proved from fmt's source: count such statements apart). THE CARD IS WHAT COUNTS. Prove the row's statement (the work); the ties are given (YtnlkancjfhgdcaaGreatDoorTie.lean); close each card by the builder's one call (the guide's Derived/Test/ToyasCard.lean, 'card_holds'). Laid BY PROGRAM, IN A SANDBOX (cutbox-door.mjs). By AI agents, Wed Nov 11 2026. No macro, syntax, notation, axiom, sorry.
-/
import Derived.Test.YtnlkancjfhgdcaaGreatDoorRows
import GoSem.ClaimSeven
namespace Go.Proofs.YtnlkancjfhgdcaaGreatDoor
namespace Rows

/-- THE TIED CARD OF 'baldrictop.TopOffers'. -/
def topOffersCard : Claim7 := { stood := { row := topOffersRow, standIns := [], harness := (true, "48f3ae956d58bff90d49f6de9c87349b289c7333fe0d6d1ad9c3ed155df3d6ed"), looks := true }, kinds := [], alts := [], laidByText := true, laidKinds := [.listed, .data], laidTests := true, laidLooks := .later }
def TopOffersCardSaid : Prop := Claim7.holds Tryz.pinned (.plain (OpenSpec.ofChange topOffersSpec)) topOffersCard

/-- THE SECOND FORM's CARD OF 'baldrictop.TopOffers'. -/
def topOffersUptoCard : Claim7 := { stood := { row := topOffersUptoRow, standIns := [], harness := (true, "48f3ae956d58bff90d49f6de9c87349b289c7333fe0d6d1ad9c3ed155df3d6ed"), looks := true }, kinds := [], alts := [], laidByText := true, laidKinds := [.listed, .data], laidTests := true, laidLooks := .later }
def TopOffersUptoCardSaid : Prop := Claim7.holds Tryz.pinned (.plain (OpenSpec.upto topOffersSpec)) topOffersUptoCard
end Rows
end Go.Proofs.YtnlkancjfhgdcaaGreatDoor
