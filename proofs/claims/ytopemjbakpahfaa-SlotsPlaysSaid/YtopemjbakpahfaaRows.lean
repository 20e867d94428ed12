/-
  No cell of these rows narrows 'for every input' (looked for: loops, veiled, ifaces, maps, wideKeys, modest, calm, conditions, laid).
  DERIVED. THE GIVEN ROWS OF THIS SEAT. 20 by the template 'for every input the law returns true; each argument reads behind the call as it read before'; 0 by the template 'total and deterministic' (their statements: YtopemjbakpahfaaTotals.lean).
  GIVEN WITH THE SEED: the statements are not yours to turn. If you find one false, say at which input.
  Laid BY PROGRAM, IN A SANDBOX (cutbox-rows.mjs): the forced cells as the released guide's own fill.sh prints them over the translation 9a6fc69ab3e18c90… (all of the seat's roots in one cut). By AI agents, Wed Nov 11 2026. No macro, syntax, notation, axiom, sorry.
-/
import Derived.Test.YtopemjbakpahfaaChecked
import GoSem.Claim
import GoSem.ClaimJoined
import GoSem.ClaimMapViews
import Derived.JoinedTies
import Derived.KernelRfl
namespace Go.Proofs.Ytopemjbakpahfaa
/- THE CELL 'sum', in the pinned program and in every row, IS THE sha256 OF THE DUMP (.gsa) THAT YtopemjbakpahfaaProg.lean LOADS. Nothing in Lean hashes anything: it is a label: what it is worth is what the hold of that sum in a sandbox is worth. -/
noncomputable def Try.pinned : Pinned := { name := "ytopemjbakpahfaa", sum := "9a6fc69ab3e18c90641c1a2495a299078d34b44570191d12b4c71154d22bc916", checked := Try.checked }
namespace Rows
def none {H : Type} : Left H := { results := [], args := [] }

/-- 'baldriclaw20.CrcTells': WHATEVER THE INPUT: true; the input reads as it did. -/
def crcTellsSpec : ChangeSpec := { name := "crcTells", fn := fun _ => fun
  | [d1, d2, d3] => { results := [.lit (.bool true)], args := [d1, d2, d3] }
  | _ => none }
def crcTellsRow : OpenClaim := { program := "ytopemjbakpahfaa", sum := "9a6fc69ab3e18c90641c1a2495a299078d34b44570191d12b4c71154d22bc916", func := "baldric/baldriclaw20.CrcTells", spec := "crcTells", unfollowed := true, recurses := true, apart := false }
def CrcTellsSaid : Prop := crcTellsRow.holds Try.pinned (OpenSpec.ofChange crcTellsSpec)

/-- ITS FALSE NEIGHBOUR: 'it returns false'. Refute it at one input. -/
def crcTellsWrong : ChangeSpec := { name := "crcTells", fn := fun _ => fun
  | [d1, d2, d3] => { results := [.lit (.bool false)], args := [d1, d2, d3] }
  | _ => none }
def CrcTellsWrongFalsely : Prop := crcTellsRow.holds Try.pinned (OpenSpec.ofChange crcTellsWrong)

/-- 'baldriclaw20.CrcApart': WHATEVER THE INPUT: true; the input reads as it did. -/
def crcApartSpec : ChangeSpec := { name := "crcApart", fn := fun _ => fun
  | [d1, d2, d3] => { results := [.lit (.bool true)], args := [d1, d2, d3] }
  | _ => none }
def crcApartRow : OpenClaim := { program := "ytopemjbakpahfaa", sum := "9a6fc69ab3e18c90641c1a2495a299078d34b44570191d12b4c71154d22bc916", func := "baldric/baldriclaw20.CrcApart", spec := "crcApart", unfollowed := true, recurses := true, apart := false }
def CrcApartSaid : Prop := crcApartRow.holds Try.pinned (OpenSpec.ofChange crcApartSpec)

/-- ITS FALSE NEIGHBOUR: 'it returns false'. Refute it at one input. -/
def crcApartWrong : ChangeSpec := { name := "crcApart", fn := fun _ => fun
  | [d1, d2, d3] => { results := [.lit (.bool false)], args := [d1, d2, d3] }
  | _ => none }
def CrcApartWrongFalsely : Prop := crcApartRow.holds Try.pinned (OpenSpec.ofChange crcApartWrong)

/-- 'baldriclaw20.CrcNext': WHATEVER THE INPUT: true; the input reads as it did. -/
def crcNextSpec : ChangeSpec := { name := "crcNext", fn := fun _ => fun
  | [d1, d2, d3, d4, d5] => { results := [.lit (.bool true)], args := [d1, d2, d3, d4, d5] }
  | _ => none }
def crcNextRow : OpenClaim := { program := "ytopemjbakpahfaa", sum := "9a6fc69ab3e18c90641c1a2495a299078d34b44570191d12b4c71154d22bc916", func := "baldric/baldriclaw20.CrcNext", spec := "crcNext", unfollowed := true, recurses := true, apart := false }
def CrcNextSaid : Prop := crcNextRow.holds Try.pinned (OpenSpec.ofChange crcNextSpec)

/-- ITS FALSE NEIGHBOUR: 'it returns false'. Refute it at one input. -/
def crcNextWrong : ChangeSpec := { name := "crcNext", fn := fun _ => fun
  | [d1, d2, d3, d4, d5] => { results := [.lit (.bool false)], args := [d1, d2, d3, d4, d5] }
  | _ => none }
def CrcNextWrongFalsely : Prop := crcNextRow.holds Try.pinned (OpenSpec.ofChange crcNextWrong)

/-- 'baldriclaw20.CrcFrames': WHATEVER THE INPUT: true; the input reads as it did. -/
def crcFramesSpec : ChangeSpec := { name := "crcFrames", fn := fun _ => fun
  | [d1, d2, d3] => { results := [.lit (.bool true)], args := [d1, d2, d3] }
  | _ => none }
def crcFramesRow : OpenClaim := { program := "ytopemjbakpahfaa", sum := "9a6fc69ab3e18c90641c1a2495a299078d34b44570191d12b4c71154d22bc916", func := "baldric/baldriclaw20.CrcFrames", spec := "crcFrames", unfollowed := true, recurses := true, apart := false }
def CrcFramesSaid : Prop := crcFramesRow.holds Try.pinned (OpenSpec.ofChange crcFramesSpec)

/-- ITS FALSE NEIGHBOUR: 'it returns false'. Refute it at one input. -/
def crcFramesWrong : ChangeSpec := { name := "crcFrames", fn := fun _ => fun
  | [d1, d2, d3] => { results := [.lit (.bool false)], args := [d1, d2, d3] }
  | _ => none }
def CrcFramesWrongFalsely : Prop := crcFramesRow.holds Try.pinned (OpenSpec.ofChange crcFramesWrong)

/-- 'baldriclaw19.DiskKeeps': WHATEVER THE INPUT: true; the input reads as it did. -/
def diskKeepsSpec : ChangeSpec := { name := "diskKeeps", fn := fun _ => fun
  | [d1, d2, d3, d4] => { results := [.lit (.bool true)], args := [d1, d2, d3, d4] }
  | _ => none }
def diskKeepsRow : OpenClaim := { program := "ytopemjbakpahfaa", sum := "9a6fc69ab3e18c90641c1a2495a299078d34b44570191d12b4c71154d22bc916", func := "baldric/baldriclaw19.DiskKeeps", spec := "diskKeeps", apart := false }
def DiskKeepsSaid : Prop := diskKeepsRow.holds Try.pinned (OpenSpec.ofChange diskKeepsSpec)

/-- ITS FALSE NEIGHBOUR: 'it returns false'. Refute it at one input. -/
def diskKeepsWrong : ChangeSpec := { name := "diskKeeps", fn := fun _ => fun
  | [d1, d2, d3, d4] => { results := [.lit (.bool false)], args := [d1, d2, d3, d4] }
  | _ => none }
def DiskKeepsWrongFalsely : Prop := diskKeepsRow.holds Try.pinned (OpenSpec.ofChange diskKeepsWrong)

/-- 'baldriclaw19.DiskAll': WHATEVER THE INPUT: true; the input reads as it did. -/
def diskAllSpec : ChangeSpec := { name := "diskAll", fn := fun _ => fun
  | [d] => { results := [.lit (.bool true)], args := [d] }
  | _ => none }
def diskAllRow : OpenClaim := { program := "ytopemjbakpahfaa", sum := "9a6fc69ab3e18c90641c1a2495a299078d34b44570191d12b4c71154d22bc916", func := "baldric/baldriclaw19.DiskAll", spec := "diskAll", apart := false }
def DiskAllSaid : Prop := diskAllRow.holds Try.pinned (OpenSpec.ofChange diskAllSpec)

/-- ITS FALSE NEIGHBOUR: 'it returns false'. Refute it at one input. -/
def diskAllWrong : ChangeSpec := { name := "diskAll", fn := fun _ => fun
  | [d] => { results := [.lit (.bool false)], args := [d] }
  | _ => none }
def DiskAllWrongFalsely : Prop := diskAllRow.holds Try.pinned (OpenSpec.ofChange diskAllWrong)

/-- 'baldriclaw19.DiskLast': WHATEVER THE INPUT: true; the input reads as it did. -/
def diskLastSpec : ChangeSpec := { name := "diskLast", fn := fun _ => fun
  | [d1, d2] => { results := [.lit (.bool true)], args := [d1, d2] }
  | _ => none }
def diskLastRow : OpenClaim := { program := "ytopemjbakpahfaa", sum := "9a6fc69ab3e18c90641c1a2495a299078d34b44570191d12b4c71154d22bc916", func := "baldric/baldriclaw19.DiskLast", spec := "diskLast", apart := false }
def DiskLastSaid : Prop := diskLastRow.holds Try.pinned (OpenSpec.ofChange diskLastSpec)

/-- ITS FALSE NEIGHBOUR: 'it returns false'. Refute it at one input. -/
def diskLastWrong : ChangeSpec := { name := "diskLast", fn := fun _ => fun
  | [d1, d2] => { results := [.lit (.bool false)], args := [d1, d2] }
  | _ => none }
def DiskLastWrongFalsely : Prop := diskLastRow.holds Try.pinned (OpenSpec.ofChange diskLastWrong)

/-- 'baldriclaw19.DiskPlays': WHATEVER THE INPUT: true; the input reads as it did. -/
def diskPlaysSpec : ChangeSpec := { name := "diskPlays", fn := fun _ => fun
  | [d1, d2] => { results := [.lit (.bool true)], args := [d1, d2] }
  | _ => none }
def diskPlaysRow : OpenClaim := { program := "ytopemjbakpahfaa", sum := "9a6fc69ab3e18c90641c1a2495a299078d34b44570191d12b4c71154d22bc916", func := "baldric/baldriclaw19.DiskPlays", spec := "diskPlays", apart := false }
def DiskPlaysSaid : Prop := diskPlaysRow.holds Try.pinned (OpenSpec.ofChange diskPlaysSpec)

/-- ITS FALSE NEIGHBOUR: 'it returns false'. Refute it at one input. -/
def diskPlaysWrong : ChangeSpec := { name := "diskPlays", fn := fun _ => fun
  | [d1, d2] => { results := [.lit (.bool false)], args := [d1, d2] }
  | _ => none }
def DiskPlaysWrongFalsely : Prop := diskPlaysRow.holds Try.pinned (OpenSpec.ofChange diskPlaysWrong)

/-- 'baldriclaw19.DiskStops': WHATEVER THE INPUT: true; the input reads as it did. -/
def diskStopsSpec : ChangeSpec := { name := "diskStops", fn := fun _ => fun
  | [d1, d2] => { results := [.lit (.bool true)], args := [d1, d2] }
  | _ => none }
def diskStopsRow : OpenClaim := { program := "ytopemjbakpahfaa", sum := "9a6fc69ab3e18c90641c1a2495a299078d34b44570191d12b4c71154d22bc916", func := "baldric/baldriclaw19.DiskStops", spec := "diskStops", apart := false }
def DiskStopsSaid : Prop := diskStopsRow.holds Try.pinned (OpenSpec.ofChange diskStopsSpec)

/-- ITS FALSE NEIGHBOUR: 'it returns false'. Refute it at one input. -/
def diskStopsWrong : ChangeSpec := { name := "diskStops", fn := fun _ => fun
  | [d1, d2] => { results := [.lit (.bool false)], args := [d1, d2] }
  | _ => none }
def DiskStopsWrongFalsely : Prop := diskStopsRow.holds Try.pinned (OpenSpec.ofChange diskStopsWrong)

/-- 'baldriclaw20.CrcAll': WHATEVER THE INPUT: true; the input reads as it did. -/
def crcAllSpec : ChangeSpec := { name := "crcAll", fn := fun _ => fun
  | [d1, d2] => { results := [.lit (.bool true)], args := [d1, d2] }
  | _ => none }
def crcAllRow : OpenClaim := { program := "ytopemjbakpahfaa", sum := "9a6fc69ab3e18c90641c1a2495a299078d34b44570191d12b4c71154d22bc916", func := "baldric/baldriclaw20.CrcAll", spec := "crcAll", unfollowed := true, recurses := true, apart := false }
def CrcAllSaid : Prop := crcAllRow.holds Try.pinned (OpenSpec.ofChange crcAllSpec)

/-- ITS FALSE NEIGHBOUR: 'it returns false'. Refute it at one input. -/
def crcAllWrong : ChangeSpec := { name := "crcAll", fn := fun _ => fun
  | [d1, d2] => { results := [.lit (.bool false)], args := [d1, d2] }
  | _ => none }
def CrcAllWrongFalsely : Prop := crcAllRow.holds Try.pinned (OpenSpec.ofChange crcAllWrong)

/-- 'baldriclaw20.CrcBack': WHATEVER THE INPUT: true; the input reads as it did. -/
def crcBackSpec : ChangeSpec := { name := "crcBack", fn := fun _ => fun
  | [d1, d2] => { results := [.lit (.bool true)], args := [d1, d2] }
  | _ => none }
def crcBackRow : OpenClaim := { program := "ytopemjbakpahfaa", sum := "9a6fc69ab3e18c90641c1a2495a299078d34b44570191d12b4c71154d22bc916", func := "baldric/baldriclaw20.CrcBack", spec := "crcBack", unfollowed := true, recurses := true, apart := false }
def CrcBackSaid : Prop := crcBackRow.holds Try.pinned (OpenSpec.ofChange crcBackSpec)

/-- ITS FALSE NEIGHBOUR: 'it returns false'. Refute it at one input. -/
def crcBackWrong : ChangeSpec := { name := "crcBack", fn := fun _ => fun
  | [d1, d2] => { results := [.lit (.bool false)], args := [d1, d2] }
  | _ => none }
def CrcBackWrongFalsely : Prop := crcBackRow.holds Try.pinned (OpenSpec.ofChange crcBackWrong)

/-- 'baldriclaw21.JournalKeeps': WHATEVER THE INPUT: true; the input reads as it did. -/
def journalKeepsSpec : ChangeSpec := { name := "journalKeeps", fn := fun _ => fun
  | [d1, d2, d3, d4, d5] => { results := [.lit (.bool true)], args := [d1, d2, d3, d4, d5] }
  | _ => none }
def journalKeepsRow : OpenClaim := { program := "ytopemjbakpahfaa", sum := "9a6fc69ab3e18c90641c1a2495a299078d34b44570191d12b4c71154d22bc916", func := "baldric/baldriclaw21.JournalKeeps", spec := "journalKeeps", unfollowed := true, recurses := true, apart := false }
def JournalKeepsSaid : Prop := journalKeepsRow.holds Try.pinned (OpenSpec.ofChange journalKeepsSpec)

/-- ITS FALSE NEIGHBOUR: 'it returns false'. Refute it at one input. -/
def journalKeepsWrong : ChangeSpec := { name := "journalKeeps", fn := fun _ => fun
  | [d1, d2, d3, d4, d5] => { results := [.lit (.bool false)], args := [d1, d2, d3, d4, d5] }
  | _ => none }
def JournalKeepsWrongFalsely : Prop := journalKeepsRow.holds Try.pinned (OpenSpec.ofChange journalKeepsWrong)

/-- 'baldriclaw21.JournalParts': WHATEVER THE INPUT: true; the input reads as it did. -/
def journalPartsSpec : ChangeSpec := { name := "journalParts", fn := fun _ => fun
  | [d1, d2, d3] => { results := [.lit (.bool true)], args := [d1, d2, d3] }
  | _ => none }
def journalPartsRow : OpenClaim := { program := "ytopemjbakpahfaa", sum := "9a6fc69ab3e18c90641c1a2495a299078d34b44570191d12b4c71154d22bc916", func := "baldric/baldriclaw21.JournalParts", spec := "journalParts", unfollowed := true, recurses := true, apart := false }
def JournalPartsSaid : Prop := journalPartsRow.holds Try.pinned (OpenSpec.ofChange journalPartsSpec)

/-- ITS FALSE NEIGHBOUR: 'it returns false'. Refute it at one input. -/
def journalPartsWrong : ChangeSpec := { name := "journalParts", fn := fun _ => fun
  | [d1, d2, d3] => { results := [.lit (.bool false)], args := [d1, d2, d3] }
  | _ => none }
def JournalPartsWrongFalsely : Prop := journalPartsRow.holds Try.pinned (OpenSpec.ofChange journalPartsWrong)

/-- 'baldriclaw21.JournalPlays': WHATEVER THE INPUT: true; the input reads as it did. -/
def journalPlaysSpec : ChangeSpec := { name := "journalPlays", fn := fun _ => fun
  | [d1, d2, d3, d4] => { results := [.lit (.bool true)], args := [d1, d2, d3, d4] }
  | _ => none }
def journalPlaysRow : OpenClaim := { program := "ytopemjbakpahfaa", sum := "9a6fc69ab3e18c90641c1a2495a299078d34b44570191d12b4c71154d22bc916", func := "baldric/baldriclaw21.JournalPlays", spec := "journalPlays", unfollowed := true, recurses := true, apart := false }
def JournalPlaysSaid : Prop := journalPlaysRow.holds Try.pinned (OpenSpec.ofChange journalPlaysSpec)

/-- ITS FALSE NEIGHBOUR: 'it returns false'. Refute it at one input. -/
def journalPlaysWrong : ChangeSpec := { name := "journalPlays", fn := fun _ => fun
  | [d1, d2, d3, d4] => { results := [.lit (.bool false)], args := [d1, d2, d3, d4] }
  | _ => none }
def JournalPlaysWrongFalsely : Prop := journalPlaysRow.holds Try.pinned (OpenSpec.ofChange journalPlaysWrong)

/-- 'baldriclaw21.JournalTorn': WHATEVER THE INPUT: true; the input reads as it did. -/
def journalTornSpec : ChangeSpec := { name := "journalTorn", fn := fun _ => fun
  | [d1, d2, d3, d4, d5] => { results := [.lit (.bool true)], args := [d1, d2, d3, d4, d5] }
  | _ => none }
def journalTornRow : OpenClaim := { program := "ytopemjbakpahfaa", sum := "9a6fc69ab3e18c90641c1a2495a299078d34b44570191d12b4c71154d22bc916", func := "baldric/baldriclaw21.JournalTorn", spec := "journalTorn", unfollowed := true, recurses := true, apart := false }
def JournalTornSaid : Prop := journalTornRow.holds Try.pinned (OpenSpec.ofChange journalTornSpec)

/-- ITS FALSE NEIGHBOUR: 'it returns false'. Refute it at one input. -/
def journalTornWrong : ChangeSpec := { name := "journalTorn", fn := fun _ => fun
  | [d1, d2, d3, d4, d5] => { results := [.lit (.bool false)], args := [d1, d2, d3, d4, d5] }
  | _ => none }
def JournalTornWrongFalsely : Prop := journalTornRow.holds Try.pinned (OpenSpec.ofChange journalTornWrong)

/-- 'baldriclaw22.SlotsTurns': WHATEVER THE INPUT: true; the input reads as it did. -/
def slotsTurnsSpec : ChangeSpec := { name := "slotsTurns", fn := fun _ => fun
  | [d] => { results := [.lit (.bool true)], args := [d] }
  | _ => none }
def slotsTurnsRow : OpenClaim := { program := "ytopemjbakpahfaa", sum := "9a6fc69ab3e18c90641c1a2495a299078d34b44570191d12b4c71154d22bc916", func := "baldric/baldriclaw22.SlotsTurns", spec := "slotsTurns", unfollowed := true, recurses := true, apart := false }
def SlotsTurnsSaid : Prop := slotsTurnsRow.holds Try.pinned (OpenSpec.ofChange slotsTurnsSpec)

/-- ITS FALSE NEIGHBOUR: 'it returns false'. Refute it at one input. -/
def slotsTurnsWrong : ChangeSpec := { name := "slotsTurns", fn := fun _ => fun
  | [d] => { results := [.lit (.bool false)], args := [d] }
  | _ => none }
def SlotsTurnsWrongFalsely : Prop := slotsTurnsRow.holds Try.pinned (OpenSpec.ofChange slotsTurnsWrong)

/-- 'baldriclaw22.SlotsFull': WHATEVER THE INPUT: true; the input reads as it did. -/
def slotsFullSpec : ChangeSpec := { name := "slotsFull", fn := fun _ => fun
  | [d1, d2] => { results := [.lit (.bool true)], args := [d1, d2] }
  | _ => none }
def slotsFullRow : OpenClaim := { program := "ytopemjbakpahfaa", sum := "9a6fc69ab3e18c90641c1a2495a299078d34b44570191d12b4c71154d22bc916", func := "baldric/baldriclaw22.SlotsFull", spec := "slotsFull", unfollowed := true, recurses := true, apart := false }
def SlotsFullSaid : Prop := slotsFullRow.holds Try.pinned (OpenSpec.ofChange slotsFullSpec)

/-- ITS FALSE NEIGHBOUR: 'it returns false'. Refute it at one input. -/
def slotsFullWrong : ChangeSpec := { name := "slotsFull", fn := fun _ => fun
  | [d1, d2] => { results := [.lit (.bool false)], args := [d1, d2] }
  | _ => none }
def SlotsFullWrongFalsely : Prop := slotsFullRow.holds Try.pinned (OpenSpec.ofChange slotsFullWrong)

/-- 'baldriclaw22.SlotsAgain': WHATEVER THE INPUT: true; the input reads as it did. -/
def slotsAgainSpec : ChangeSpec := { name := "slotsAgain", fn := fun _ => fun
  | [d1, d2, d3] => { results := [.lit (.bool true)], args := [d1, d2, d3] }
  | _ => none }
def slotsAgainRow : OpenClaim := { program := "ytopemjbakpahfaa", sum := "9a6fc69ab3e18c90641c1a2495a299078d34b44570191d12b4c71154d22bc916", func := "baldric/baldriclaw22.SlotsAgain", spec := "slotsAgain", unfollowed := true, recurses := true, apart := false }
def SlotsAgainSaid : Prop := slotsAgainRow.holds Try.pinned (OpenSpec.ofChange slotsAgainSpec)

/-- ITS FALSE NEIGHBOUR: 'it returns false'. Refute it at one input. -/
def slotsAgainWrong : ChangeSpec := { name := "slotsAgain", fn := fun _ => fun
  | [d1, d2, d3] => { results := [.lit (.bool false)], args := [d1, d2, d3] }
  | _ => none }
def SlotsAgainWrongFalsely : Prop := slotsAgainRow.holds Try.pinned (OpenSpec.ofChange slotsAgainWrong)

/-- 'baldriclaw22.SlotsPlays': WHATEVER THE INPUT: true; the input reads as it did. -/
def slotsPlaysSpec : ChangeSpec := { name := "slotsPlays", fn := fun _ => fun
  | [d1, d2, d3] => { results := [.lit (.bool true)], args := [d1, d2, d3] }
  | _ => none }
def slotsPlaysRow : OpenClaim := { program := "ytopemjbakpahfaa", sum := "9a6fc69ab3e18c90641c1a2495a299078d34b44570191d12b4c71154d22bc916", func := "baldric/baldriclaw22.SlotsPlays", spec := "slotsPlays", unfollowed := true, recurses := true, apart := false }
def SlotsPlaysSaid : Prop := slotsPlaysRow.holds Try.pinned (OpenSpec.ofChange slotsPlaysSpec)

/-- ITS FALSE NEIGHBOUR: 'it returns false'. Refute it at one input. -/
def slotsPlaysWrong : ChangeSpec := { name := "slotsPlays", fn := fun _ => fun
  | [d1, d2, d3] => { results := [.lit (.bool false)], args := [d1, d2, d3] }
  | _ => none }
def SlotsPlaysWrongFalsely : Prop := slotsPlaysRow.holds Try.pinned (OpenSpec.ofChange slotsPlaysWrong)

/-- 'baldriclaw22.SlotsSafe': WHATEVER THE INPUT: true; the input reads as it did. -/
def slotsSafeSpec : ChangeSpec := { name := "slotsSafe", fn := fun _ => fun
  | [d1, d2, d3, d4, d5] => { results := [.lit (.bool true)], args := [d1, d2, d3, d4, d5] }
  | _ => none }
def slotsSafeRow : OpenClaim := { program := "ytopemjbakpahfaa", sum := "9a6fc69ab3e18c90641c1a2495a299078d34b44570191d12b4c71154d22bc916", func := "baldric/baldriclaw22.SlotsSafe", spec := "slotsSafe", unfollowed := true, recurses := true, apart := false }
def SlotsSafeSaid : Prop := slotsSafeRow.holds Try.pinned (OpenSpec.ofChange slotsSafeSpec)

/-- ITS FALSE NEIGHBOUR: 'it returns false'. Refute it at one input. -/
def slotsSafeWrong : ChangeSpec := { name := "slotsSafe", fn := fun _ => fun
  | [d1, d2, d3, d4, d5] => { results := [.lit (.bool false)], args := [d1, d2, d3, d4, d5] }
  | _ => none }
def SlotsSafeWrongFalsely : Prop := slotsSafeRow.holds Try.pinned (OpenSpec.ofChange slotsSafeWrong)

/- THE SECOND FORM. 'bulk': how many values and letters a reading holds, each counted each time it is reached (what is shared counts as often as it is met; a slice's spare places count too). A statement '..UptoSaid' is the law's where the arguments, and the package variables that the reading takes, are together of bulk at most 1048576: NARROWER than '..Said'. Prove '..Said' where nothing that the law and all that it calls make is longer than what came in: it says more and counts as full. Else prove '..UptoSaid'. A law counts once. -/
mutual
def uptoBulk {H : Type} : DataW H → Nat
  | .lit (.string bytes) => bytes.length + 1
  | .lit _ => 1
  | .nil => 1
  | .ptr d => uptoBulk d + 1
  | .slice elems spare => uptoBulkAll elems + uptoBulkAll spare + 1
  | .agg parts => uptoBulkAll parts + 1
  | .iface _ d => uptoBulk d + 1
  | .map entries => uptoBulkEntries entries + 1
  | .held _ => 1
def uptoBulkAll {H : Type} : List (DataW H) → Nat
  | [] => 0
  | d :: r => uptoBulk d + uptoBulkAll r
def uptoBulkEntries {H : Type} : List (Lit × DataW H) → Nat
  | [] => 0
  | x :: r => uptoBulkEntry x + uptoBulkEntries r
def uptoBulkEntry {H : Type} : Lit × DataW H → Nat
  | (.string bytes, d) => bytes.length + uptoBulk d + 1
  | (_, d) => uptoBulk d + 1
 end
def uptoSmall : (H : Type) → List (DataW H) → Bool := fun _ ds => decide (uptoBulkAll ds ≤ 1048576)
def OpenSpec.upto (s : _root_.Go.ChangeSpec) : _root_.Go.OpenSpec := { _root_.Go.OpenSpec.ofChange s with cond := some uptoSmall }

/-- 'baldriclaw20.CrcTells', WHERE WHAT IT READS IS OF BULK AT MOST 1048576: true; the input reads as it did. -/
def crcTellsUptoRow : OpenClaim := { program := "ytopemjbakpahfaa", sum := "9a6fc69ab3e18c90641c1a2495a299078d34b44570191d12b4c71154d22bc916", func := "baldric/baldriclaw20.CrcTells", spec := "crcTells", unfollowed := true, recurses := true, apart := false, narrowed := true }
def CrcTellsUptoSaid : Prop := crcTellsUptoRow.holds Try.pinned (OpenSpec.upto crcTellsSpec)

/-- 'baldriclaw20.CrcApart', WHERE WHAT IT READS IS OF BULK AT MOST 1048576: true; the input reads as it did. -/
def crcApartUptoRow : OpenClaim := { program := "ytopemjbakpahfaa", sum := "9a6fc69ab3e18c90641c1a2495a299078d34b44570191d12b4c71154d22bc916", func := "baldric/baldriclaw20.CrcApart", spec := "crcApart", unfollowed := true, recurses := true, apart := false, narrowed := true }
def CrcApartUptoSaid : Prop := crcApartUptoRow.holds Try.pinned (OpenSpec.upto crcApartSpec)

/-- 'baldriclaw20.CrcNext', WHERE WHAT IT READS IS OF BULK AT MOST 1048576: true; the input reads as it did. -/
def crcNextUptoRow : OpenClaim := { program := "ytopemjbakpahfaa", sum := "9a6fc69ab3e18c90641c1a2495a299078d34b44570191d12b4c71154d22bc916", func := "baldric/baldriclaw20.CrcNext", spec := "crcNext", unfollowed := true, recurses := true, apart := false, narrowed := true }
def CrcNextUptoSaid : Prop := crcNextUptoRow.holds Try.pinned (OpenSpec.upto crcNextSpec)

/-- 'baldriclaw20.CrcFrames', WHERE WHAT IT READS IS OF BULK AT MOST 1048576: true; the input reads as it did. -/
def crcFramesUptoRow : OpenClaim := { program := "ytopemjbakpahfaa", sum := "9a6fc69ab3e18c90641c1a2495a299078d34b44570191d12b4c71154d22bc916", func := "baldric/baldriclaw20.CrcFrames", spec := "crcFrames", unfollowed := true, recurses := true, apart := false, narrowed := true }
def CrcFramesUptoSaid : Prop := crcFramesUptoRow.holds Try.pinned (OpenSpec.upto crcFramesSpec)

/-- 'baldriclaw19.DiskKeeps', WHERE WHAT IT READS IS OF BULK AT MOST 1048576: true; the input reads as it did. -/
def diskKeepsUptoRow : OpenClaim := { program := "ytopemjbakpahfaa", sum := "9a6fc69ab3e18c90641c1a2495a299078d34b44570191d12b4c71154d22bc916", func := "baldric/baldriclaw19.DiskKeeps", spec := "diskKeeps", apart := false, narrowed := true }
def DiskKeepsUptoSaid : Prop := diskKeepsUptoRow.holds Try.pinned (OpenSpec.upto diskKeepsSpec)

/-- 'baldriclaw19.DiskAll', WHERE WHAT IT READS IS OF BULK AT MOST 1048576: true; the input reads as it did. -/
def diskAllUptoRow : OpenClaim := { program := "ytopemjbakpahfaa", sum := "9a6fc69ab3e18c90641c1a2495a299078d34b44570191d12b4c71154d22bc916", func := "baldric/baldriclaw19.DiskAll", spec := "diskAll", apart := false, narrowed := true }
def DiskAllUptoSaid : Prop := diskAllUptoRow.holds Try.pinned (OpenSpec.upto diskAllSpec)

/-- 'baldriclaw19.DiskLast', WHERE WHAT IT READS IS OF BULK AT MOST 1048576: true; the input reads as it did. -/
def diskLastUptoRow : OpenClaim := { program := "ytopemjbakpahfaa", sum := "9a6fc69ab3e18c90641c1a2495a299078d34b44570191d12b4c71154d22bc916", func := "baldric/baldriclaw19.DiskLast", spec := "diskLast", apart := false, narrowed := true }
def DiskLastUptoSaid : Prop := diskLastUptoRow.holds Try.pinned (OpenSpec.upto diskLastSpec)

/-- 'baldriclaw19.DiskPlays', WHERE WHAT IT READS IS OF BULK AT MOST 1048576: true; the input reads as it did. -/
def diskPlaysUptoRow : OpenClaim := { program := "ytopemjbakpahfaa", sum := "9a6fc69ab3e18c90641c1a2495a299078d34b44570191d12b4c71154d22bc916", func := "baldric/baldriclaw19.DiskPlays", spec := "diskPlays", apart := false, narrowed := true }
def DiskPlaysUptoSaid : Prop := diskPlaysUptoRow.holds Try.pinned (OpenSpec.upto diskPlaysSpec)

/-- 'baldriclaw19.DiskStops', WHERE WHAT IT READS IS OF BULK AT MOST 1048576: true; the input reads as it did. -/
def diskStopsUptoRow : OpenClaim := { program := "ytopemjbakpahfaa", sum := "9a6fc69ab3e18c90641c1a2495a299078d34b44570191d12b4c71154d22bc916", func := "baldric/baldriclaw19.DiskStops", spec := "diskStops", apart := false, narrowed := true }
def DiskStopsUptoSaid : Prop := diskStopsUptoRow.holds Try.pinned (OpenSpec.upto diskStopsSpec)

/-- 'baldriclaw20.CrcAll', WHERE WHAT IT READS IS OF BULK AT MOST 1048576: true; the input reads as it did. -/
def crcAllUptoRow : OpenClaim := { program := "ytopemjbakpahfaa", sum := "9a6fc69ab3e18c90641c1a2495a299078d34b44570191d12b4c71154d22bc916", func := "baldric/baldriclaw20.CrcAll", spec := "crcAll", unfollowed := true, recurses := true, apart := false, narrowed := true }
def CrcAllUptoSaid : Prop := crcAllUptoRow.holds Try.pinned (OpenSpec.upto crcAllSpec)

/-- 'baldriclaw20.CrcBack', WHERE WHAT IT READS IS OF BULK AT MOST 1048576: true; the input reads as it did. -/
def crcBackUptoRow : OpenClaim := { program := "ytopemjbakpahfaa", sum := "9a6fc69ab3e18c90641c1a2495a299078d34b44570191d12b4c71154d22bc916", func := "baldric/baldriclaw20.CrcBack", spec := "crcBack", unfollowed := true, recurses := true, apart := false, narrowed := true }
def CrcBackUptoSaid : Prop := crcBackUptoRow.holds Try.pinned (OpenSpec.upto crcBackSpec)

/-- 'baldriclaw21.JournalKeeps', WHERE WHAT IT READS IS OF BULK AT MOST 1048576: true; the input reads as it did. -/
def journalKeepsUptoRow : OpenClaim := { program := "ytopemjbakpahfaa", sum := "9a6fc69ab3e18c90641c1a2495a299078d34b44570191d12b4c71154d22bc916", func := "baldric/baldriclaw21.JournalKeeps", spec := "journalKeeps", unfollowed := true, recurses := true, apart := false, narrowed := true }
def JournalKeepsUptoSaid : Prop := journalKeepsUptoRow.holds Try.pinned (OpenSpec.upto journalKeepsSpec)

/-- 'baldriclaw21.JournalParts', WHERE WHAT IT READS IS OF BULK AT MOST 1048576: true; the input reads as it did. -/
def journalPartsUptoRow : OpenClaim := { program := "ytopemjbakpahfaa", sum := "9a6fc69ab3e18c90641c1a2495a299078d34b44570191d12b4c71154d22bc916", func := "baldric/baldriclaw21.JournalParts", spec := "journalParts", unfollowed := true, recurses := true, apart := false, narrowed := true }
def JournalPartsUptoSaid : Prop := journalPartsUptoRow.holds Try.pinned (OpenSpec.upto journalPartsSpec)

/-- 'baldriclaw21.JournalPlays', WHERE WHAT IT READS IS OF BULK AT MOST 1048576: true; the input reads as it did. -/
def journalPlaysUptoRow : OpenClaim := { program := "ytopemjbakpahfaa", sum := "9a6fc69ab3e18c90641c1a2495a299078d34b44570191d12b4c71154d22bc916", func := "baldric/baldriclaw21.JournalPlays", spec := "journalPlays", unfollowed := true, recurses := true, apart := false, narrowed := true }
def JournalPlaysUptoSaid : Prop := journalPlaysUptoRow.holds Try.pinned (OpenSpec.upto journalPlaysSpec)

/-- 'baldriclaw21.JournalTorn', WHERE WHAT IT READS IS OF BULK AT MOST 1048576: true; the input reads as it did. -/
def journalTornUptoRow : OpenClaim := { program := "ytopemjbakpahfaa", sum := "9a6fc69ab3e18c90641c1a2495a299078d34b44570191d12b4c71154d22bc916", func := "baldric/baldriclaw21.JournalTorn", spec := "journalTorn", unfollowed := true, recurses := true, apart := false, narrowed := true }
def JournalTornUptoSaid : Prop := journalTornUptoRow.holds Try.pinned (OpenSpec.upto journalTornSpec)

/-- 'baldriclaw22.SlotsTurns', WHERE WHAT IT READS IS OF BULK AT MOST 1048576: true; the input reads as it did. -/
def slotsTurnsUptoRow : OpenClaim := { program := "ytopemjbakpahfaa", sum := "9a6fc69ab3e18c90641c1a2495a299078d34b44570191d12b4c71154d22bc916", func := "baldric/baldriclaw22.SlotsTurns", spec := "slotsTurns", unfollowed := true, recurses := true, apart := false, narrowed := true }
def SlotsTurnsUptoSaid : Prop := slotsTurnsUptoRow.holds Try.pinned (OpenSpec.upto slotsTurnsSpec)

/-- 'baldriclaw22.SlotsFull', WHERE WHAT IT READS IS OF BULK AT MOST 1048576: true; the input reads as it did. -/
def slotsFullUptoRow : OpenClaim := { program := "ytopemjbakpahfaa", sum := "9a6fc69ab3e18c90641c1a2495a299078d34b44570191d12b4c71154d22bc916", func := "baldric/baldriclaw22.SlotsFull", spec := "slotsFull", unfollowed := true, recurses := true, apart := false, narrowed := true }
def SlotsFullUptoSaid : Prop := slotsFullUptoRow.holds Try.pinned (OpenSpec.upto slotsFullSpec)

/-- 'baldriclaw22.SlotsAgain', WHERE WHAT IT READS IS OF BULK AT MOST 1048576: true; the input reads as it did. -/
def slotsAgainUptoRow : OpenClaim := { program := "ytopemjbakpahfaa", sum := "9a6fc69ab3e18c90641c1a2495a299078d34b44570191d12b4c71154d22bc916", func := "baldric/baldriclaw22.SlotsAgain", spec := "slotsAgain", unfollowed := true, recurses := true, apart := false, narrowed := true }
def SlotsAgainUptoSaid : Prop := slotsAgainUptoRow.holds Try.pinned (OpenSpec.upto slotsAgainSpec)

/-- 'baldriclaw22.SlotsPlays', WHERE WHAT IT READS IS OF BULK AT MOST 1048576: true; the input reads as it did. -/
def slotsPlaysUptoRow : OpenClaim := { program := "ytopemjbakpahfaa", sum := "9a6fc69ab3e18c90641c1a2495a299078d34b44570191d12b4c71154d22bc916", func := "baldric/baldriclaw22.SlotsPlays", spec := "slotsPlays", unfollowed := true, recurses := true, apart := false, narrowed := true }
def SlotsPlaysUptoSaid : Prop := slotsPlaysUptoRow.holds Try.pinned (OpenSpec.upto slotsPlaysSpec)

/-- 'baldriclaw22.SlotsSafe', WHERE WHAT IT READS IS OF BULK AT MOST 1048576: true; the input reads as it did. -/
def slotsSafeUptoRow : OpenClaim := { program := "ytopemjbakpahfaa", sum := "9a6fc69ab3e18c90641c1a2495a299078d34b44570191d12b4c71154d22bc916", func := "baldric/baldriclaw22.SlotsSafe", spec := "slotsSafe", unfollowed := true, recurses := true, apart := false, narrowed := true }
def SlotsSafeUptoSaid : Prop := slotsSafeUptoRow.holds Try.pinned (OpenSpec.upto slotsSafeSpec)

end Rows
end Go.Proofs.Ytopemjbakpahfaa
