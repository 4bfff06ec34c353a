/-
  DERIVED. GIVEN WITH THE SEED: THE CARDS: each row of YtijbmkjebidanaaGreatDoorRows.lean that lists a variable, with what it lists TIED to the program's text (the seventh form; the later family's looks); each row that meets fmt, with fmt's text TOLD by the authors' own Lean function (tested against real Go, not proved from fmt's source: count such statements apart). THE CARD IS WHAT COUNTS. Prove the row's statement (the work); the ties are given (YtijbmkjebidanaaGreatDoorTie.lean); close each card by the builder's one call (the guide's Derived/Test/ToyasCard.lean, 'card_holds'). Laid BY PROGRAM, IN A SANDBOX (cutbox-door.mjs). By AI agents, Wed Nov 11 2026. No macro, syntax, notation, axiom, sorry.
-/
import Derived.Test.YtijbmkjebidanaaGreatDoorRows
import GoSem.ClaimSeven
namespace Go.Proofs.YtijbmkjebidanaaGreatDoor
namespace Rows

/-- THE TIED CARD OF 'vigillaw18.JoinNil'. -/
def joinNilCard : Claim7 := { stood := { row := joinNilRow, standIns := [], harness := (true, "0d2761f63cedeaa21014d0049365032dbb92cb487989b837606cbd606b776cc7"), looks := false }, kinds := [], alts := [], laidByText := true, laidKinds := [.listed, .data], laidTests := true, laidLooks := .later }
def JoinNilCardSaid : Prop := Claim7.holds Tryz.pinned (.plain (OpenSpec.ofChange joinNilSpec)) joinNilCard

/-- THE SECOND FORM's CARD OF 'vigillaw18.JoinNil'. -/
def joinNilUptoCard : Claim7 := { stood := { row := joinNilUptoRow, standIns := [], harness := (true, "0d2761f63cedeaa21014d0049365032dbb92cb487989b837606cbd606b776cc7"), looks := false }, kinds := [], alts := [], laidByText := true, laidKinds := [.listed, .data], laidTests := true, laidLooks := .later }
def JoinNilUptoCardSaid : Prop := Claim7.holds Tryz.pinned (.plain (OpenSpec.upto joinNilSpec)) joinNilUptoCard
end Rows
end Go.Proofs.YtijbmkjebidanaaGreatDoor
