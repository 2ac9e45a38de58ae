/-
  NARROWER THAN 'FOR EVERY INPUT', by the rows' own cells (each row's printed sentence says how): NotesPuts: laid · NotesGets: laid · NotesKinds: laid · NotesWays: laid.
  DERIVED. THE GIVEN ROWS OF THIS SEAT. 4 by the template 'for every input the law returns true; each argument reads behind the call as it read before'; 0 by the template 'total and deterministic' (their statements: YtlcanfniphdelaaDoorTotals.lean).
  GIVEN WITH THE SEED: the statements are not yours to turn. If you find one false, say at which input.
  Laid BY PROGRAM, IN A SANDBOX (cutbox-rows.mjs): the forced cells as the released guide's own fill.sh prints them over the translation a4550fcec26db02b… (all of the seat's roots in one cut). By AI agents, Wed Nov 11 2026. No macro, syntax, notation, axiom, sorry.
-/
import Derived.Test.YtlcanfniphdelaaDoorChecked
import GoSem.Claim
import GoSem.ClaimJoined
import GoSem.ClaimMapViews
import Derived.JoinedTies
import Derived.KernelRfl
namespace Go.Proofs.YtlcanfniphdelaaDoor
/- THE CELL 'sum', in the pinned program and in every row, IS THE sha256 OF THE DUMP (.gsa) THAT YtlcanfniphdelaaDoorProg.lean LOADS. Nothing in Lean hashes anything: it is a label: what it is worth is what the hold of that sum in a sandbox is worth. -/
noncomputable def Tryd.pinned : Pinned := { name := "ytlcanfniphdelaadoor", sum := "a4550fcec26db02be6dcd87a6cdfa7482de4b7b1d1010521ec0a5d3b3b8b325c", checked := Tryd.checked }
namespace Rows
def none {H : Type} : Left H := { results := [], args := [] }

/- WHAT THE LISTED PACKAGE-LEVEL VARIABLES READ AS WHEN THE CALL BEGINS. Each datum BY PROGRAM (the guide's laid-datum.mjs) off the statement by which the dump's own 'gosem.cut.vars' lays the variable. In a bare row this is a premise. The card (YtlcanfniphdelaaDoorCards.lean) ties it to the program's text. -/
def laid_bailee_notes_fields {H : Type} : DataW H := .agg [.lit (.int .i64 0), .lit (.int .i64 3), .lit (.int .i64 1), .lit (.int .i64 3), .lit (.int .i64 9), .lit (.int .i64 1), .lit (.int .i64 7), .lit (.int .i64 31), .lit (.int .i64 1), .lit (.int .i64 9), .lit (.int .i64 1), .lit (.int .i64 10), .lit (.int .i64 2), .lit (.int .i64 0), .lit (.int .i64 10)]

/-- 'baileelaw20.NotesPuts': WHATEVER THE INPUT: true; the input reads as it did. -/
def notesPutsSpec : ChangeSpec := { name := "notesPuts", fn := fun _ => fun
  | [d] => { results := [.lit (.bool true)], args := [d] }
  | _ => none }
def notesPutsRow : OpenClaim := { program := "ytlcanfniphdelaadoor", sum := "a4550fcec26db02be6dcd87a6cdfa7482de4b7b1d1010521ec0a5d3b3b8b325c", func := "bailee/baileelaw20.NotesPuts", spec := "notesPuts", recurses := true, named := ["bailee/notes.fields"], apart := false, laid := [("bailee/notes.fields", laid_bailee_notes_fields)] }
def NotesPutsSaid : Prop := notesPutsRow.holds Tryd.pinned (OpenSpec.ofChange notesPutsSpec)

/-- ITS FALSE NEIGHBOUR: 'it returns false'. Refute it at one input. -/
def notesPutsWrong : ChangeSpec := { name := "notesPuts", fn := fun _ => fun
  | [d] => { results := [.lit (.bool false)], args := [d] }
  | _ => none }
def NotesPutsWrongFalsely : Prop := notesPutsRow.holds Tryd.pinned (OpenSpec.ofChange notesPutsWrong)

/-- 'baileelaw20.NotesGets': WHATEVER THE INPUT: true; the input reads as it did. -/
def notesGetsSpec : ChangeSpec := { name := "notesGets", fn := fun _ => fun
  | [d] => { results := [.lit (.bool true)], args := [d] }
  | _ => none }
def notesGetsRow : OpenClaim := { program := "ytlcanfniphdelaadoor", sum := "a4550fcec26db02be6dcd87a6cdfa7482de4b7b1d1010521ec0a5d3b3b8b325c", func := "bailee/baileelaw20.NotesGets", spec := "notesGets", named := ["bailee/notes.fields"], apart := false, laid := [("bailee/notes.fields", laid_bailee_notes_fields)] }
def NotesGetsSaid : Prop := notesGetsRow.holds Tryd.pinned (OpenSpec.ofChange notesGetsSpec)

/-- ITS FALSE NEIGHBOUR: 'it returns false'. Refute it at one input. -/
def notesGetsWrong : ChangeSpec := { name := "notesGets", fn := fun _ => fun
  | [d] => { results := [.lit (.bool false)], args := [d] }
  | _ => none }
def NotesGetsWrongFalsely : Prop := notesGetsRow.holds Tryd.pinned (OpenSpec.ofChange notesGetsWrong)

/-- 'baileelaw20.NotesKinds': WHATEVER THE INPUT: true; the input reads as it did. -/
def notesKindsSpec : ChangeSpec := { name := "notesKinds", fn := fun _ => fun
  | [d1, d2] => { results := [.lit (.bool true)], args := [d1, d2] }
  | _ => none }
def notesKindsRow : OpenClaim := { program := "ytlcanfniphdelaadoor", sum := "a4550fcec26db02be6dcd87a6cdfa7482de4b7b1d1010521ec0a5d3b3b8b325c", func := "bailee/baileelaw20.NotesKinds", spec := "notesKinds", named := ["bailee/notes.fields"], apart := false, laid := [("bailee/notes.fields", laid_bailee_notes_fields)] }
def NotesKindsSaid : Prop := notesKindsRow.holds Tryd.pinned (OpenSpec.ofChange notesKindsSpec)

/-- ITS FALSE NEIGHBOUR: 'it returns false'. Refute it at one input. -/
def notesKindsWrong : ChangeSpec := { name := "notesKinds", fn := fun _ => fun
  | [d1, d2] => { results := [.lit (.bool false)], args := [d1, d2] }
  | _ => none }
def NotesKindsWrongFalsely : Prop := notesKindsRow.holds Tryd.pinned (OpenSpec.ofChange notesKindsWrong)

/-- 'baileelaw20.NotesWays': WHATEVER THE INPUT: true; the input reads as it did. -/
def notesWaysSpec : ChangeSpec := { name := "notesWays", fn := fun _ => fun
  | [d1, d2, d3] => { results := [.lit (.bool true)], args := [d1, d2, d3] }
  | _ => none }
def notesWaysRow : OpenClaim := { program := "ytlcanfniphdelaadoor", sum := "a4550fcec26db02be6dcd87a6cdfa7482de4b7b1d1010521ec0a5d3b3b8b325c", func := "bailee/baileelaw20.NotesWays", spec := "notesWays", named := ["bailee/notes.fields"], apart := false, laid := [("bailee/notes.fields", laid_bailee_notes_fields)] }
def NotesWaysSaid : Prop := notesWaysRow.holds Tryd.pinned (OpenSpec.ofChange notesWaysSpec)

/-- ITS FALSE NEIGHBOUR: 'it returns false'. Refute it at one input. -/
def notesWaysWrong : ChangeSpec := { name := "notesWays", fn := fun _ => fun
  | [d1, d2, d3] => { results := [.lit (.bool false)], args := [d1, d2, d3] }
  | _ => none }
def NotesWaysWrongFalsely : Prop := notesWaysRow.holds Tryd.pinned (OpenSpec.ofChange notesWaysWrong)

/- THE SECOND FORM. 'bulk': how many values and letters a reading holds, each counted each time it is reached (what is shared counts as often as it is met; a slice's spare places count too). A statement '..UptoSaid' is the law's where the arguments, and the package variables that the reading takes, are together of bulk at most 1048576: NARROWER than '..Said'. Prove '..Said' where nothing that the law and all that it calls make is longer than what came in: it says more and counts as full. Else prove '..UptoSaid'. A law counts once. -/
mutual
def uptoBulk {H : Type} : DataW H → Nat
  | .lit (.string bytes) => bytes.length + 1
  | .lit _ => 1
  | .nil => 1
  | .ptr d => uptoBulk d + 1
  | .slice elems spare => uptoBulkAll elems + uptoBulkAll spare + 1
  | .agg parts => uptoBulkAll parts + 1
  | .iface _ d => uptoBulk d + 1
  | .map entries => uptoBulkEntries entries + 1
  | .held _ => 1
def uptoBulkAll {H : Type} : List (DataW H) → Nat
  | [] => 0
  | d :: r => uptoBulk d + uptoBulkAll r
def uptoBulkEntries {H : Type} : List (Lit × DataW H) → Nat
  | [] => 0
  | x :: r => uptoBulkEntry x + uptoBulkEntries r
def uptoBulkEntry {H : Type} : Lit × DataW H → Nat
  | (.string bytes, d) => bytes.length + uptoBulk d + 1
  | (_, d) => uptoBulk d + 1
 end
def uptoSmall : (H : Type) → List (DataW H) → Bool := fun _ ds => decide (uptoBulkAll ds ≤ 1048576)
def OpenSpec.upto (s : _root_.Go.ChangeSpec) : _root_.Go.OpenSpec := { _root_.Go.OpenSpec.ofChange s with cond := some uptoSmall }

/-- 'baileelaw20.NotesPuts', WHERE WHAT IT READS IS OF BULK AT MOST 1048576: true; the input reads as it did. -/
def notesPutsUptoRow : OpenClaim := { program := "ytlcanfniphdelaadoor", sum := "a4550fcec26db02be6dcd87a6cdfa7482de4b7b1d1010521ec0a5d3b3b8b325c", func := "bailee/baileelaw20.NotesPuts", spec := "notesPuts", recurses := true, named := ["bailee/notes.fields"], apart := false, laid := [("bailee/notes.fields", laid_bailee_notes_fields)], narrowed := true }
def NotesPutsUptoSaid : Prop := notesPutsUptoRow.holds Tryd.pinned (OpenSpec.upto notesPutsSpec)

/-- 'baileelaw20.NotesGets', WHERE WHAT IT READS IS OF BULK AT MOST 1048576: true; the input reads as it did. -/
def notesGetsUptoRow : OpenClaim := { program := "ytlcanfniphdelaadoor", sum := "a4550fcec26db02be6dcd87a6cdfa7482de4b7b1d1010521ec0a5d3b3b8b325c", func := "bailee/baileelaw20.NotesGets", spec := "notesGets", named := ["bailee/notes.fields"], apart := false, laid := [("bailee/notes.fields", laid_bailee_notes_fields)], narrowed := true }
def NotesGetsUptoSaid : Prop := notesGetsUptoRow.holds Tryd.pinned (OpenSpec.upto notesGetsSpec)

/-- 'baileelaw20.NotesKinds', WHERE WHAT IT READS IS OF BULK AT MOST 1048576: true; the input reads as it did. -/
def notesKindsUptoRow : OpenClaim := { program := "ytlcanfniphdelaadoor", sum := "a4550fcec26db02be6dcd87a6cdfa7482de4b7b1d1010521ec0a5d3b3b8b325c", func := "bailee/baileelaw20.NotesKinds", spec := "notesKinds", named := ["bailee/notes.fields"], apart := false, laid := [("bailee/notes.fields", laid_bailee_notes_fields)], narrowed := true }
def NotesKindsUptoSaid : Prop := notesKindsUptoRow.holds Tryd.pinned (OpenSpec.upto notesKindsSpec)

/-- 'baileelaw20.NotesWays', WHERE WHAT IT READS IS OF BULK AT MOST 1048576: true; the input reads as it did. -/
def notesWaysUptoRow : OpenClaim := { program := "ytlcanfniphdelaadoor", sum := "a4550fcec26db02be6dcd87a6cdfa7482de4b7b1d1010521ec0a5d3b3b8b325c", func := "bailee/baileelaw20.NotesWays", spec := "notesWays", named := ["bailee/notes.fields"], apart := false, laid := [("bailee/notes.fields", laid_bailee_notes_fields)], narrowed := true }
def NotesWaysUptoSaid : Prop := notesWaysUptoRow.holds Tryd.pinned (OpenSpec.upto notesWaysSpec)

end Rows
end Go.Proofs.YtlcanfniphdelaaDoor
