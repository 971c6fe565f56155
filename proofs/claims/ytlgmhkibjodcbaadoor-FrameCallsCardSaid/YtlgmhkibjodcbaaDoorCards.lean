/-
  DERIVED. GIVEN WITH THE SEED: THE CARDS: each row of YtlgmhkibjodcbaaDoorRows.lean that lists a variable, with what it lists TIED to the program's text (the seventh form; the later family's looks); each row that meets fmt, with fmt's text TOLD by the authors' own Lean function (tested against real Go, not proved from fmt's source: count such statements apart). THE CARD IS WHAT COUNTS. Prove the row's statement (the work); the ties are given (YtlgmhkibjodcbaaDoorTie.lean); close each card by the builder's one call (the guide's Derived/Test/ToyasCard.lean, 'card_holds'). Laid BY PROGRAM, IN A SANDBOX (cutbox-door.mjs). By AI agents, Wed Nov 11 2026. No macro, syntax, notation, axiom, sorry.
-/
import Derived.Test.YtlgmhkibjodcbaaDoorRows
import GoSem.ClaimSeven
namespace Go.Proofs.YtlgmhkibjodcbaaDoor
namespace Rows

/-- THE TIED CARD OF 'hatchwaylaw13.FrameEncodes'. -/
def frameEncodesCard : Claim7 := { stood := { row := frameEncodesRow, standIns := [], harness := (true, "178b5d1f8562572b9ccc15289a6013ec3cb089be6f100bb02f3353f299c4c81b"), looks := false }, kinds := [], alts := [], laidByText := true, laidKinds := [.data], laidTests := true, laidLooks := .later }
def FrameEncodesCardSaid : Prop := Claim7.holds Tryd.pinned (.plain (OpenSpec.ofChange frameEncodesSpec)) frameEncodesCard

/-- THE TIED CARD OF 'hatchwaylaw13.FrameDecodes'. -/
def frameDecodesCard : Claim7 := { stood := { row := frameDecodesRow, standIns := [], harness := (true, "178b5d1f8562572b9ccc15289a6013ec3cb089be6f100bb02f3353f299c4c81b"), looks := false }, kinds := [], alts := [], laidByText := true, laidKinds := [.data], laidTests := true, laidLooks := .later }
def FrameDecodesCardSaid : Prop := Claim7.holds Tryd.pinned (.plain (OpenSpec.ofChange frameDecodesSpec)) frameDecodesCard

/-- THE TIED CARD OF 'hatchwaylaw13.FrameBack'. -/
def frameBackCard : Claim7 := { stood := { row := frameBackRow, standIns := [], harness := (true, "178b5d1f8562572b9ccc15289a6013ec3cb089be6f100bb02f3353f299c4c81b"), looks := false }, kinds := [], alts := [], laidByText := true, laidKinds := [.data], laidTests := true, laidLooks := .later }
def FrameBackCardSaid : Prop := Claim7.holds Tryd.pinned (.plain (OpenSpec.ofChange frameBackSpec)) frameBackCard

/-- THE TIED CARD OF 'hatchwaylaw13.FrameText'. -/
def frameTextCard : Claim7 := { stood := { row := frameTextRow, standIns := [], harness := (true, "178b5d1f8562572b9ccc15289a6013ec3cb089be6f100bb02f3353f299c4c81b"), looks := false }, kinds := [], alts := [], laidByText := true, laidKinds := [.data], laidTests := true, laidLooks := .later }
def FrameTextCardSaid : Prop := Claim7.holds Tryd.pinned (.plain (OpenSpec.ofChange frameTextSpec)) frameTextCard

/-- THE TIED CARD OF 'hatchwaylaw13.FrameSizes'. -/
def frameSizesCard : Claim7 := { stood := { row := frameSizesRow, standIns := [], harness := (true, "178b5d1f8562572b9ccc15289a6013ec3cb089be6f100bb02f3353f299c4c81b"), looks := false }, kinds := [], alts := [], laidByText := true, laidKinds := [.data], laidTests := true, laidLooks := .later }
def FrameSizesCardSaid : Prop := Claim7.holds Tryd.pinned (.plain (OpenSpec.ofChange frameSizesSpec)) frameSizesCard

/-- THE TIED CARD OF 'hatchwaylaw13.FrameKinds'. -/
def frameKindsCard : Claim7 := { stood := { row := frameKindsRow, standIns := [], harness := (true, "178b5d1f8562572b9ccc15289a6013ec3cb089be6f100bb02f3353f299c4c81b"), looks := false }, kinds := [], alts := [], laidByText := true, laidKinds := [.data], laidTests := true, laidLooks := .later }
def FrameKindsCardSaid : Prop := Claim7.holds Tryd.pinned (.plain (OpenSpec.ofChange frameKindsSpec)) frameKindsCard

/-- THE TIED CARD OF 'hatchwaylaw13.FrameCalls'. -/
def frameCallsCard : Claim7 := { stood := { row := frameCallsRow, standIns := [], harness := (true, "178b5d1f8562572b9ccc15289a6013ec3cb089be6f100bb02f3353f299c4c81b"), looks := false }, kinds := [], alts := [], laidByText := true, laidKinds := [.data], laidTests := true, laidLooks := .later }
def FrameCallsCardSaid : Prop := Claim7.holds Tryd.pinned (.plain (OpenSpec.ofChange frameCallsSpec)) frameCallsCard

/-- THE SECOND FORM's CARD OF 'hatchwaylaw13.FrameEncodes'. -/
def frameEncodesUptoCard : Claim7 := { stood := { row := frameEncodesUptoRow, standIns := [], harness := (true, "178b5d1f8562572b9ccc15289a6013ec3cb089be6f100bb02f3353f299c4c81b"), looks := false }, kinds := [], alts := [], laidByText := true, laidKinds := [.data], laidTests := true, laidLooks := .later }
def FrameEncodesUptoCardSaid : Prop := Claim7.holds Tryd.pinned (.plain (OpenSpec.upto frameEncodesSpec)) frameEncodesUptoCard

/-- THE SECOND FORM's CARD OF 'hatchwaylaw13.FrameDecodes'. -/
def frameDecodesUptoCard : Claim7 := { stood := { row := frameDecodesUptoRow, standIns := [], harness := (true, "178b5d1f8562572b9ccc15289a6013ec3cb089be6f100bb02f3353f299c4c81b"), looks := false }, kinds := [], alts := [], laidByText := true, laidKinds := [.data], laidTests := true, laidLooks := .later }
def FrameDecodesUptoCardSaid : Prop := Claim7.holds Tryd.pinned (.plain (OpenSpec.upto frameDecodesSpec)) frameDecodesUptoCard

/-- THE SECOND FORM's CARD OF 'hatchwaylaw13.FrameBack'. -/
def frameBackUptoCard : Claim7 := { stood := { row := frameBackUptoRow, standIns := [], harness := (true, "178b5d1f8562572b9ccc15289a6013ec3cb089be6f100bb02f3353f299c4c81b"), looks := false }, kinds := [], alts := [], laidByText := true, laidKinds := [.data], laidTests := true, laidLooks := .later }
def FrameBackUptoCardSaid : Prop := Claim7.holds Tryd.pinned (.plain (OpenSpec.upto frameBackSpec)) frameBackUptoCard

/-- THE SECOND FORM's CARD OF 'hatchwaylaw13.FrameText'. -/
def frameTextUptoCard : Claim7 := { stood := { row := frameTextUptoRow, standIns := [], harness := (true, "178b5d1f8562572b9ccc15289a6013ec3cb089be6f100bb02f3353f299c4c81b"), looks := false }, kinds := [], alts := [], laidByText := true, laidKinds := [.data], laidTests := true, laidLooks := .later }
def FrameTextUptoCardSaid : Prop := Claim7.holds Tryd.pinned (.plain (OpenSpec.upto frameTextSpec)) frameTextUptoCard

/-- THE SECOND FORM's CARD OF 'hatchwaylaw13.FrameSizes'. -/
def frameSizesUptoCard : Claim7 := { stood := { row := frameSizesUptoRow, standIns := [], harness := (true, "178b5d1f8562572b9ccc15289a6013ec3cb089be6f100bb02f3353f299c4c81b"), looks := false }, kinds := [], alts := [], laidByText := true, laidKinds := [.data], laidTests := true, laidLooks := .later }
def FrameSizesUptoCardSaid : Prop := Claim7.holds Tryd.pinned (.plain (OpenSpec.upto frameSizesSpec)) frameSizesUptoCard

/-- THE SECOND FORM's CARD OF 'hatchwaylaw13.FrameKinds'. -/
def frameKindsUptoCard : Claim7 := { stood := { row := frameKindsUptoRow, standIns := [], harness := (true, "178b5d1f8562572b9ccc15289a6013ec3cb089be6f100bb02f3353f299c4c81b"), looks := false }, kinds := [], alts := [], laidByText := true, laidKinds := [.data], laidTests := true, laidLooks := .later }
def FrameKindsUptoCardSaid : Prop := Claim7.holds Tryd.pinned (.plain (OpenSpec.upto frameKindsSpec)) frameKindsUptoCard

/-- THE SECOND FORM's CARD OF 'hatchwaylaw13.FrameCalls'. -/
def frameCallsUptoCard : Claim7 := { stood := { row := frameCallsUptoRow, standIns := [], harness := (true, "178b5d1f8562572b9ccc15289a6013ec3cb089be6f100bb02f3353f299c4c81b"), looks := false }, kinds := [], alts := [], laidByText := true, laidKinds := [.data], laidTests := true, laidLooks := .later }
def FrameCallsUptoCardSaid : Prop := Claim7.holds Tryd.pinned (.plain (OpenSpec.upto frameCallsSpec)) frameCallsUptoCard
end Rows
end Go.Proofs.YtlgmhkibjodcbaaDoor
