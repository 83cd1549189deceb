/-
  DERIVED. GIVEN WITH THE SEED: THE CARDS: each row of YtkcdehffcddciaaGreatDoorRows.lean that lists a variable, with what it lists TIED to the program's text (the seventh form; the later family's looks); each row that meets fmt, with fmt's text TOLD by the authors' own Lean function (tested against real Go, not proved from fmt's source: count such statements apart). THE CARD IS WHAT COUNTS. Prove the row's statement (the work); the ties are given (YtkcdehffcddciaaGreatDoorTie.lean); close each card by the builder's one call (the guide's Derived/Test/ToyasCard.lean, 'card_holds'). Laid BY PROGRAM, IN A SANDBOX (cutbox-door.mjs). By AI agents, Wed Nov 11 2026. No macro, syntax, notation, axiom, sorry.
-/
import Derived.Test.YtkcdehffcddciaaGreatDoorRows
import GoSem.ClaimSeven
namespace Go.Proofs.YtkcdehffcddciaaGreatDoor
namespace Rows

/-- THE TIED CARD OF 'sextantlaw30.BuffersPlays'. -/
def buffersPlaysCard : Claim7 := { stood := { row := buffersPlaysRow, standIns := [], harness := (true, "673abb768f0ca545ca8e422494ec2c272e64256b6d03d9d691c79033a71f1165"), looks := false }, kinds := [], alts := [], laidByText := true, laidKinds := [.data], laidTests := true, laidLooks := .later }
def BuffersPlaysCardSaid : Prop := Claim7.holds Tryz.pinned (.plain (OpenSpec.ofChange buffersPlaysSpec)) buffersPlaysCard

/-- THE TIED CARD OF 'sextantlaw30.BuffersPicks'. -/
def buffersPicksCard : Claim7 := { stood := { row := buffersPicksRow, standIns := [], harness := (true, "673abb768f0ca545ca8e422494ec2c272e64256b6d03d9d691c79033a71f1165"), looks := false }, kinds := [], alts := [], laidByText := true, laidKinds := [.data], laidTests := true, laidLooks := .later }
def BuffersPicksCardSaid : Prop := Claim7.holds Tryz.pinned (.plain (OpenSpec.ofChange buffersPicksSpec)) buffersPicksCard

/-- THE TIED CARD OF 'sextantlaw30.BuffersRuns'. -/
def buffersRunsCard : Claim7 := { stood := { row := buffersRunsRow, standIns := [], harness := (true, "673abb768f0ca545ca8e422494ec2c272e64256b6d03d9d691c79033a71f1165"), looks := false }, kinds := [], alts := [], laidByText := true, laidKinds := [.data], laidTests := true, laidLooks := .later }
def BuffersRunsCardSaid : Prop := Claim7.holds Tryz.pinned (.plain (OpenSpec.ofChange buffersRunsSpec)) buffersRunsCard

/-- THE TIED CARD OF 'sextantlaw30.BuffersAllowed'. -/
def buffersAllowedCard : Claim7 := { stood := { row := buffersAllowedRow, standIns := [], harness := (true, "673abb768f0ca545ca8e422494ec2c272e64256b6d03d9d691c79033a71f1165"), looks := false }, kinds := [], alts := [], laidByText := true, laidKinds := [.data], laidTests := true, laidLooks := .later }
def BuffersAllowedCardSaid : Prop := Claim7.holds Tryz.pinned (.plain (OpenSpec.ofChange buffersAllowedSpec)) buffersAllowedCard

/-- THE TIED CARD OF 'sextantlaw30.BuffersAll'. -/
def buffersAllCard : Claim7 := { stood := { row := buffersAllRow, standIns := [], harness := (true, "673abb768f0ca545ca8e422494ec2c272e64256b6d03d9d691c79033a71f1165"), looks := false }, kinds := [], alts := [], laidByText := true, laidKinds := [.data], laidTests := true, laidLooks := .later }
def BuffersAllCardSaid : Prop := Claim7.holds Tryz.pinned (.plain (OpenSpec.ofChange buffersAllSpec)) buffersAllCard

/-- THE TIED CARD OF 'sextantlaw30.BuffersRight'. -/
def buffersRightCard : Claim7 := { stood := { row := buffersRightRow, standIns := [], harness := (true, "673abb768f0ca545ca8e422494ec2c272e64256b6d03d9d691c79033a71f1165"), looks := false }, kinds := [], alts := [], laidByText := true, laidKinds := [.data], laidTests := true, laidLooks := .later }
def BuffersRightCardSaid : Prop := Claim7.holds Tryz.pinned (.plain (OpenSpec.ofChange buffersRightSpec)) buffersRightCard

/-- THE SECOND FORM's CARD OF 'sextantlaw30.BuffersPlays'. -/
def buffersPlaysUptoCard : Claim7 := { stood := { row := buffersPlaysUptoRow, standIns := [], harness := (true, "673abb768f0ca545ca8e422494ec2c272e64256b6d03d9d691c79033a71f1165"), looks := false }, kinds := [], alts := [], laidByText := true, laidKinds := [.data], laidTests := true, laidLooks := .later }
def BuffersPlaysUptoCardSaid : Prop := Claim7.holds Tryz.pinned (.plain (OpenSpec.upto buffersPlaysSpec)) buffersPlaysUptoCard

/-- THE SECOND FORM's CARD OF 'sextantlaw30.BuffersPicks'. -/
def buffersPicksUptoCard : Claim7 := { stood := { row := buffersPicksUptoRow, standIns := [], harness := (true, "673abb768f0ca545ca8e422494ec2c272e64256b6d03d9d691c79033a71f1165"), looks := false }, kinds := [], alts := [], laidByText := true, laidKinds := [.data], laidTests := true, laidLooks := .later }
def BuffersPicksUptoCardSaid : Prop := Claim7.holds Tryz.pinned (.plain (OpenSpec.upto buffersPicksSpec)) buffersPicksUptoCard

/-- THE SECOND FORM's CARD OF 'sextantlaw30.BuffersRuns'. -/
def buffersRunsUptoCard : Claim7 := { stood := { row := buffersRunsUptoRow, standIns := [], harness := (true, "673abb768f0ca545ca8e422494ec2c272e64256b6d03d9d691c79033a71f1165"), looks := false }, kinds := [], alts := [], laidByText := true, laidKinds := [.data], laidTests := true, laidLooks := .later }
def BuffersRunsUptoCardSaid : Prop := Claim7.holds Tryz.pinned (.plain (OpenSpec.upto buffersRunsSpec)) buffersRunsUptoCard

/-- THE SECOND FORM's CARD OF 'sextantlaw30.BuffersAllowed'. -/
def buffersAllowedUptoCard : Claim7 := { stood := { row := buffersAllowedUptoRow, standIns := [], harness := (true, "673abb768f0ca545ca8e422494ec2c272e64256b6d03d9d691c79033a71f1165"), looks := false }, kinds := [], alts := [], laidByText := true, laidKinds := [.data], laidTests := true, laidLooks := .later }
def BuffersAllowedUptoCardSaid : Prop := Claim7.holds Tryz.pinned (.plain (OpenSpec.upto buffersAllowedSpec)) buffersAllowedUptoCard

/-- THE SECOND FORM's CARD OF 'sextantlaw30.BuffersAll'. -/
def buffersAllUptoCard : Claim7 := { stood := { row := buffersAllUptoRow, standIns := [], harness := (true, "673abb768f0ca545ca8e422494ec2c272e64256b6d03d9d691c79033a71f1165"), looks := false }, kinds := [], alts := [], laidByText := true, laidKinds := [.data], laidTests := true, laidLooks := .later }
def BuffersAllUptoCardSaid : Prop := Claim7.holds Tryz.pinned (.plain (OpenSpec.upto buffersAllSpec)) buffersAllUptoCard

/-- THE SECOND FORM's CARD OF 'sextantlaw30.BuffersRight'. -/
def buffersRightUptoCard : Claim7 := { stood := { row := buffersRightUptoRow, standIns := [], harness := (true, "673abb768f0ca545ca8e422494ec2c272e64256b6d03d9d691c79033a71f1165"), looks := false }, kinds := [], alts := [], laidByText := true, laidKinds := [.data], laidTests := true, laidLooks := .later }
def BuffersRightUptoCardSaid : Prop := Claim7.holds Tryz.pinned (.plain (OpenSpec.upto buffersRightSpec)) buffersRightUptoCard
end Rows
end Go.Proofs.YtkcdehffcddciaaGreatDoor
