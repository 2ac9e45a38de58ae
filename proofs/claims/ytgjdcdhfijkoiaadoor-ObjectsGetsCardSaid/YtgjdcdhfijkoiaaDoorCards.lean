/-
  DERIVED. GIVEN WITH THE SEED: THE CARDS: each row of YtgjdcdhfijkoiaaDoorRows.lean that lists a variable, with what it lists TIED to the program's text (the seventh form; the later family's looks); each row that meets fmt, with fmt's text TOLD by the authors' own Lean function (tested against real Go, not proved from fmt's source: count such statements apart). THE CARD IS WHAT COUNTS. Prove the row's statement (the work); the ties are given (YtgjdcdhfijkoiaaDoorTie.lean); close each card by the builder's one call (the guide's Derived/Test/ToyasCard.lean, 'card_holds'). Laid BY PROGRAM, IN A SANDBOX (cutbox-door.mjs). By AI agents, Wed Nov 11 2026. No macro, syntax, notation, axiom, sorry.
-/
import Derived.Test.YtgjdcdhfijkoiaaDoorRows
import GoSem.ClaimSeven
namespace Go.Proofs.YtgjdcdhfijkoiaaDoor
namespace Rows

/-- THE TIED CARD OF 'baileelaw11.FilesChecks'. -/
def filesChecksCard : Claim7 := { stood := { row := filesChecksRow, standIns := [], harness := (true, "bd1df3fcfb2f813f5946a497f4787675200c5a046ad8c12a4df937ae3f63f1b3"), looks := false }, kinds := [], alts := [], laidByText := true, laidKinds := [.data, .pinned], laidTests := true, laidLooks := .later }
def FilesChecksCardSaid : Prop := Claim7.holds Tryd.pinned (.plain (OpenSpec.ofChange filesChecksSpec)) filesChecksCard

/-- THE TIED CARD OF 'baileelaw11.FilesGets'. -/
def filesGetsCard : Claim7 := { stood := { row := filesGetsRow, standIns := [], harness := (true, "bd1df3fcfb2f813f5946a497f4787675200c5a046ad8c12a4df937ae3f63f1b3"), looks := false }, kinds := [], alts := [], laidByText := true, laidKinds := [.data, .pinned], laidTests := true, laidLooks := .later }
def FilesGetsCardSaid : Prop := Claim7.holds Tryd.pinned (.plain (OpenSpec.ofChange filesGetsSpec)) filesGetsCard

/-- THE TIED CARD OF 'baileelaw11.FilesUnder'. -/
def filesUnderCard : Claim7 := { stood := { row := filesUnderRow, standIns := [], harness := (true, "bd1df3fcfb2f813f5946a497f4787675200c5a046ad8c12a4df937ae3f63f1b3"), looks := false }, kinds := [], alts := [], laidByText := true, laidKinds := [.data, .pinned], laidTests := true, laidLooks := .later }
def FilesUnderCardSaid : Prop := Claim7.holds Tryd.pinned (.plain (OpenSpec.ofChange filesUnderSpec)) filesUnderCard

/-- THE TIED CARD OF 'baileelaw11.FilesSame'. -/
def filesSameCard : Claim7 := { stood := { row := filesSameRow, standIns := [], harness := (true, "bd1df3fcfb2f813f5946a497f4787675200c5a046ad8c12a4df937ae3f63f1b3"), looks := false }, kinds := [], alts := [], laidByText := true, laidKinds := [.data, .pinned], laidTests := true, laidLooks := .later }
def FilesSameCardSaid : Prop := Claim7.holds Tryd.pinned (.plain (OpenSpec.ofChange filesSameSpec)) filesSameCard

/-- THE TIED CARD OF 'baileelaw11.FilesPaths'. -/
def filesPathsCard : Claim7 := { stood := { row := filesPathsRow, standIns := [], harness := (true, "bd1df3fcfb2f813f5946a497f4787675200c5a046ad8c12a4df937ae3f63f1b3"), looks := false }, kinds := [], alts := [], laidByText := true, laidKinds := [.data, .pinned], laidTests := true, laidLooks := .later }
def FilesPathsCardSaid : Prop := Claim7.holds Tryd.pinned (.plain (OpenSpec.ofChange filesPathsSpec)) filesPathsCard

/-- THE TIED CARD OF 'baileelaw11.FilesFront'. -/
def filesFrontCard : Claim7 := { stood := { row := filesFrontRow, standIns := [], harness := (true, "bd1df3fcfb2f813f5946a497f4787675200c5a046ad8c12a4df937ae3f63f1b3"), looks := false }, kinds := [], alts := [], laidByText := true, laidKinds := [.data, .pinned], laidTests := true, laidLooks := .later }
def FilesFrontCardSaid : Prop := Claim7.holds Tryd.pinned (.plain (OpenSpec.ofChange filesFrontSpec)) filesFrontCard

/-- THE TIED CARD OF 'baileelaw12.ObjectsPuts'. -/
def objectsPutsCard : Claim7 := { stood := { row := objectsPutsRow, standIns := [], harness := (true, "bd1df3fcfb2f813f5946a497f4787675200c5a046ad8c12a4df937ae3f63f1b3"), looks := false }, kinds := [], alts := [], laidByText := true, laidKinds := [.data, .pinned], laidTests := true, laidLooks := .later }
def ObjectsPutsCardSaid : Prop := Claim7.holds Tryd.pinned (.plain (OpenSpec.ofChange objectsPutsSpec)) objectsPutsCard

/-- THE TIED CARD OF 'baileelaw12.ObjectsGets'. -/
def objectsGetsCard : Claim7 := { stood := { row := objectsGetsRow, standIns := [], harness := (true, "bd1df3fcfb2f813f5946a497f4787675200c5a046ad8c12a4df937ae3f63f1b3"), looks := false }, kinds := [], alts := [], laidByText := true, laidKinds := [.data, .pinned], laidTests := true, laidLooks := .later }
def ObjectsGetsCardSaid : Prop := Claim7.holds Tryd.pinned (.plain (OpenSpec.ofChange objectsGetsSpec)) objectsGetsCard

/-- THE TIED CARD OF 'baileelaw12.ObjectsBelow'. -/
def objectsBelowCard : Claim7 := { stood := { row := objectsBelowRow, standIns := [], harness := (true, "bd1df3fcfb2f813f5946a497f4787675200c5a046ad8c12a4df937ae3f63f1b3"), looks := false }, kinds := [], alts := [], laidByText := true, laidKinds := [.data, .pinned], laidTests := true, laidLooks := .later }
def ObjectsBelowCardSaid : Prop := Claim7.holds Tryd.pinned (.plain (OpenSpec.ofChange objectsBelowSpec)) objectsBelowCard

/-- THE TIED CARD OF 'baileelaw12.ObjectsLimits'. -/
def objectsLimitsCard : Claim7 := { stood := { row := objectsLimitsRow, standIns := [], harness := (true, "bd1df3fcfb2f813f5946a497f4787675200c5a046ad8c12a4df937ae3f63f1b3"), looks := false }, kinds := [], alts := [], laidByText := true, laidKinds := [.data, .pinned], laidTests := true, laidLooks := .later }
def ObjectsLimitsCardSaid : Prop := Claim7.holds Tryd.pinned (.plain (OpenSpec.ofChange objectsLimitsSpec)) objectsLimitsCard

/-- THE SECOND FORM's CARD OF 'baileelaw11.FilesChecks'. -/
def filesChecksUptoCard : Claim7 := { stood := { row := filesChecksUptoRow, standIns := [], harness := (true, "bd1df3fcfb2f813f5946a497f4787675200c5a046ad8c12a4df937ae3f63f1b3"), looks := false }, kinds := [], alts := [], laidByText := true, laidKinds := [.data, .pinned], laidTests := true, laidLooks := .later }
def FilesChecksUptoCardSaid : Prop := Claim7.holds Tryd.pinned (.plain (OpenSpec.upto filesChecksSpec)) filesChecksUptoCard

/-- THE SECOND FORM's CARD OF 'baileelaw11.FilesGets'. -/
def filesGetsUptoCard : Claim7 := { stood := { row := filesGetsUptoRow, standIns := [], harness := (true, "bd1df3fcfb2f813f5946a497f4787675200c5a046ad8c12a4df937ae3f63f1b3"), looks := false }, kinds := [], alts := [], laidByText := true, laidKinds := [.data, .pinned], laidTests := true, laidLooks := .later }
def FilesGetsUptoCardSaid : Prop := Claim7.holds Tryd.pinned (.plain (OpenSpec.upto filesGetsSpec)) filesGetsUptoCard

/-- THE SECOND FORM's CARD OF 'baileelaw11.FilesUnder'. -/
def filesUnderUptoCard : Claim7 := { stood := { row := filesUnderUptoRow, standIns := [], harness := (true, "bd1df3fcfb2f813f5946a497f4787675200c5a046ad8c12a4df937ae3f63f1b3"), looks := false }, kinds := [], alts := [], laidByText := true, laidKinds := [.data, .pinned], laidTests := true, laidLooks := .later }
def FilesUnderUptoCardSaid : Prop := Claim7.holds Tryd.pinned (.plain (OpenSpec.upto filesUnderSpec)) filesUnderUptoCard

/-- THE SECOND FORM's CARD OF 'baileelaw11.FilesSame'. -/
def filesSameUptoCard : Claim7 := { stood := { row := filesSameUptoRow, standIns := [], harness := (true, "bd1df3fcfb2f813f5946a497f4787675200c5a046ad8c12a4df937ae3f63f1b3"), looks := false }, kinds := [], alts := [], laidByText := true, laidKinds := [.data, .pinned], laidTests := true, laidLooks := .later }
def FilesSameUptoCardSaid : Prop := Claim7.holds Tryd.pinned (.plain (OpenSpec.upto filesSameSpec)) filesSameUptoCard

/-- THE SECOND FORM's CARD OF 'baileelaw11.FilesPaths'. -/
def filesPathsUptoCard : Claim7 := { stood := { row := filesPathsUptoRow, standIns := [], harness := (true, "bd1df3fcfb2f813f5946a497f4787675200c5a046ad8c12a4df937ae3f63f1b3"), looks := false }, kinds := [], alts := [], laidByText := true, laidKinds := [.data, .pinned], laidTests := true, laidLooks := .later }
def FilesPathsUptoCardSaid : Prop := Claim7.holds Tryd.pinned (.plain (OpenSpec.upto filesPathsSpec)) filesPathsUptoCard

/-- THE SECOND FORM's CARD OF 'baileelaw11.FilesFront'. -/
def filesFrontUptoCard : Claim7 := { stood := { row := filesFrontUptoRow, standIns := [], harness := (true, "bd1df3fcfb2f813f5946a497f4787675200c5a046ad8c12a4df937ae3f63f1b3"), looks := false }, kinds := [], alts := [], laidByText := true, laidKinds := [.data, .pinned], laidTests := true, laidLooks := .later }
def FilesFrontUptoCardSaid : Prop := Claim7.holds Tryd.pinned (.plain (OpenSpec.upto filesFrontSpec)) filesFrontUptoCard

/-- THE SECOND FORM's CARD OF 'baileelaw12.ObjectsPuts'. -/
def objectsPutsUptoCard : Claim7 := { stood := { row := objectsPutsUptoRow, standIns := [], harness := (true, "bd1df3fcfb2f813f5946a497f4787675200c5a046ad8c12a4df937ae3f63f1b3"), looks := false }, kinds := [], alts := [], laidByText := true, laidKinds := [.data, .pinned], laidTests := true, laidLooks := .later }
def ObjectsPutsUptoCardSaid : Prop := Claim7.holds Tryd.pinned (.plain (OpenSpec.upto objectsPutsSpec)) objectsPutsUptoCard

/-- THE SECOND FORM's CARD OF 'baileelaw12.ObjectsGets'. -/
def objectsGetsUptoCard : Claim7 := { stood := { row := objectsGetsUptoRow, standIns := [], harness := (true, "bd1df3fcfb2f813f5946a497f4787675200c5a046ad8c12a4df937ae3f63f1b3"), looks := false }, kinds := [], alts := [], laidByText := true, laidKinds := [.data, .pinned], laidTests := true, laidLooks := .later }
def ObjectsGetsUptoCardSaid : Prop := Claim7.holds Tryd.pinned (.plain (OpenSpec.upto objectsGetsSpec)) objectsGetsUptoCard

/-- THE SECOND FORM's CARD OF 'baileelaw12.ObjectsBelow'. -/
def objectsBelowUptoCard : Claim7 := { stood := { row := objectsBelowUptoRow, standIns := [], harness := (true, "bd1df3fcfb2f813f5946a497f4787675200c5a046ad8c12a4df937ae3f63f1b3"), looks := false }, kinds := [], alts := [], laidByText := true, laidKinds := [.data, .pinned], laidTests := true, laidLooks := .later }
def ObjectsBelowUptoCardSaid : Prop := Claim7.holds Tryd.pinned (.plain (OpenSpec.upto objectsBelowSpec)) objectsBelowUptoCard

/-- THE SECOND FORM's CARD OF 'baileelaw12.ObjectsLimits'. -/
def objectsLimitsUptoCard : Claim7 := { stood := { row := objectsLimitsUptoRow, standIns := [], harness := (true, "bd1df3fcfb2f813f5946a497f4787675200c5a046ad8c12a4df937ae3f63f1b3"), looks := false }, kinds := [], alts := [], laidByText := true, laidKinds := [.data, .pinned], laidTests := true, laidLooks := .later }
def ObjectsLimitsUptoCardSaid : Prop := Claim7.holds Tryd.pinned (.plain (OpenSpec.upto objectsLimitsSpec)) objectsLimitsUptoCard
end Rows
end Go.Proofs.YtgjdcdhfijkoiaaDoor
