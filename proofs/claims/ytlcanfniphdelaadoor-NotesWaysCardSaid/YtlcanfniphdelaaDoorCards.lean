/-
  DERIVED. GIVEN WITH THE SEED: THE CARDS: each row of YtlcanfniphdelaaDoorRows.lean that lists a variable, with what it lists TIED to the program's text (the seventh form; the later family's looks); each row that meets fmt, with fmt's text TOLD by the authors' own Lean function (tested against real Go, not proved from fmt's source: count such statements apart). THE CARD IS WHAT COUNTS. Prove the row's statement (the work); the ties are given (YtlcanfniphdelaaDoorTie.lean); close each card by the builder's one call (the guide's Derived/Test/ToyasCard.lean, 'card_holds'). Laid BY PROGRAM, IN A SANDBOX (cutbox-door.mjs). By AI agents, Wed Nov 11 2026. No macro, syntax, notation, axiom, sorry.
-/
import Derived.Test.YtlcanfniphdelaaDoorRows
import GoSem.ClaimSeven
namespace Go.Proofs.YtlcanfniphdelaaDoor
namespace Rows

/-- THE TIED CARD OF 'baileelaw20.NotesPuts'. -/
def notesPutsCard : Claim7 := { stood := { row := notesPutsRow, standIns := [], harness := (true, "46e0273e1c46ff665e2fe33f28b149c97c2f78e3441f13f859b437c4d3e1064a"), looks := false }, kinds := [], alts := [], laidByText := true, laidKinds := [.data], laidTests := true, laidLooks := .later }
def NotesPutsCardSaid : Prop := Claim7.holds Tryd.pinned (.plain (OpenSpec.ofChange notesPutsSpec)) notesPutsCard

/-- THE TIED CARD OF 'baileelaw20.NotesGets'. -/
def notesGetsCard : Claim7 := { stood := { row := notesGetsRow, standIns := [], harness := (true, "46e0273e1c46ff665e2fe33f28b149c97c2f78e3441f13f859b437c4d3e1064a"), looks := false }, kinds := [], alts := [], laidByText := true, laidKinds := [.data], laidTests := true, laidLooks := .later }
def NotesGetsCardSaid : Prop := Claim7.holds Tryd.pinned (.plain (OpenSpec.ofChange notesGetsSpec)) notesGetsCard

/-- THE TIED CARD OF 'baileelaw20.NotesKinds'. -/
def notesKindsCard : Claim7 := { stood := { row := notesKindsRow, standIns := [], harness := (true, "46e0273e1c46ff665e2fe33f28b149c97c2f78e3441f13f859b437c4d3e1064a"), looks := false }, kinds := [], alts := [], laidByText := true, laidKinds := [.data], laidTests := true, laidLooks := .later }
def NotesKindsCardSaid : Prop := Claim7.holds Tryd.pinned (.plain (OpenSpec.ofChange notesKindsSpec)) notesKindsCard

/-- THE TIED CARD OF 'baileelaw20.NotesWays'. -/
def notesWaysCard : Claim7 := { stood := { row := notesWaysRow, standIns := [], harness := (true, "46e0273e1c46ff665e2fe33f28b149c97c2f78e3441f13f859b437c4d3e1064a"), looks := false }, kinds := [], alts := [], laidByText := true, laidKinds := [.data], laidTests := true, laidLooks := .later }
def NotesWaysCardSaid : Prop := Claim7.holds Tryd.pinned (.plain (OpenSpec.ofChange notesWaysSpec)) notesWaysCard

/-- THE SECOND FORM's CARD OF 'baileelaw20.NotesPuts'. -/
def notesPutsUptoCard : Claim7 := { stood := { row := notesPutsUptoRow, standIns := [], harness := (true, "46e0273e1c46ff665e2fe33f28b149c97c2f78e3441f13f859b437c4d3e1064a"), looks := false }, kinds := [], alts := [], laidByText := true, laidKinds := [.data], laidTests := true, laidLooks := .later }
def NotesPutsUptoCardSaid : Prop := Claim7.holds Tryd.pinned (.plain (OpenSpec.upto notesPutsSpec)) notesPutsUptoCard

/-- THE SECOND FORM's CARD OF 'baileelaw20.NotesGets'. -/
def notesGetsUptoCard : Claim7 := { stood := { row := notesGetsUptoRow, standIns := [], harness := (true, "46e0273e1c46ff665e2fe33f28b149c97c2f78e3441f13f859b437c4d3e1064a"), looks := false }, kinds := [], alts := [], laidByText := true, laidKinds := [.data], laidTests := true, laidLooks := .later }
def NotesGetsUptoCardSaid : Prop := Claim7.holds Tryd.pinned (.plain (OpenSpec.upto notesGetsSpec)) notesGetsUptoCard

/-- THE SECOND FORM's CARD OF 'baileelaw20.NotesKinds'. -/
def notesKindsUptoCard : Claim7 := { stood := { row := notesKindsUptoRow, standIns := [], harness := (true, "46e0273e1c46ff665e2fe33f28b149c97c2f78e3441f13f859b437c4d3e1064a"), looks := false }, kinds := [], alts := [], laidByText := true, laidKinds := [.data], laidTests := true, laidLooks := .later }
def NotesKindsUptoCardSaid : Prop := Claim7.holds Tryd.pinned (.plain (OpenSpec.upto notesKindsSpec)) notesKindsUptoCard

/-- THE SECOND FORM's CARD OF 'baileelaw20.NotesWays'. -/
def notesWaysUptoCard : Claim7 := { stood := { row := notesWaysUptoRow, standIns := [], harness := (true, "46e0273e1c46ff665e2fe33f28b149c97c2f78e3441f13f859b437c4d3e1064a"), looks := false }, kinds := [], alts := [], laidByText := true, laidKinds := [.data], laidTests := true, laidLooks := .later }
def NotesWaysUptoCardSaid : Prop := Claim7.holds Tryd.pinned (.plain (OpenSpec.upto notesWaysSpec)) notesWaysUptoCard
end Rows
end Go.Proofs.YtlcanfniphdelaaDoor
