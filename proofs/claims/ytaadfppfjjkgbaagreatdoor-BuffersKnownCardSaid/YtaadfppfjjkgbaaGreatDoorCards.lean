/-
  DERIVED. GIVEN WITH THE SEED: THE CARDS: each row of YtaadfppfjjkgbaaGreatDoorRows.lean that lists a variable, with what it lists TIED to the program's text (the seventh form; the later family's looks); each row that meets fmt, with fmt's text TOLD by the authors' own Lean function (tested against real Go, not proved from fmt's source: count such statements apart). THE CARD IS WHAT COUNTS. Prove the row's statement (the work); the ties are given (YtaadfppfjjkgbaaGreatDoorTie.lean); close each card by the builder's one call (the guide's Derived/Test/ToyasCard.lean, 'card_holds'). Laid BY PROGRAM, IN A SANDBOX (cutbox-door.mjs). By AI agents, Wed Nov 11 2026. No macro, syntax, notation, axiom, sorry.
-/
import Derived.Test.YtaadfppfjjkgbaaGreatDoorRows
import GoSem.ClaimSeven
namespace Go.Proofs.YtaadfppfjjkgbaaGreatDoor
namespace Rows

/-- THE TIED CARD OF 'sextantlaw30.BuffersKnown'. -/
def buffersKnownCard : Claim7 := { stood := { row := buffersKnownRow, standIns := [], harness := (true, "e2f5cadbb136e3294a00ec45363b2cf1e6e7e053694d10f64ae5cd6285c864fe"), looks := false }, kinds := [], alts := [], laidByText := true, laidKinds := [.data], laidTests := true, laidLooks := .later }
def BuffersKnownCardSaid : Prop := Claim7.holds Tryz.pinned (.plain (OpenSpec.ofChange buffersKnownSpec)) buffersKnownCard

/-- THE SECOND FORM's CARD OF 'sextantlaw30.BuffersKnown'. -/
def buffersKnownUptoCard : Claim7 := { stood := { row := buffersKnownUptoRow, standIns := [], harness := (true, "e2f5cadbb136e3294a00ec45363b2cf1e6e7e053694d10f64ae5cd6285c864fe"), looks := false }, kinds := [], alts := [], laidByText := true, laidKinds := [.data], laidTests := true, laidLooks := .later }
def BuffersKnownUptoCardSaid : Prop := Claim7.holds Tryz.pinned (.plain (OpenSpec.upto buffersKnownSpec)) buffersKnownUptoCard
end Rows
end Go.Proofs.YtaadfppfjjkgbaaGreatDoor
