/-
  NARROWER THAN 'FOR EVERY INPUT', by the rows' own cells (each row's printed sentence says how): FilesChecks: laid · FilesGets: laid · FilesUnder: laid · FilesSame: laid · FilesPaths: laid · FilesFront: laid · ObjectsPuts: laid · ObjectsGets: laid · ObjectsBelow: laid · ObjectsLimits: laid.
  DERIVED. THE GIVEN ROWS OF THIS SEAT. 10 by the template 'for every input the law returns true; each argument reads behind the call as it read before'; 0 by the template 'total and deterministic' (their statements: YtgjdcdhfijkoiaaDoorTotals.lean).
  GIVEN WITH THE SEED: the statements are not yours to turn. If you find one false, say at which input.
  Laid BY PROGRAM, IN A SANDBOX (cutbox-rows.mjs): the forced cells as the released guide's own fill.sh prints them over the translation af28b0a4c7f71ce2… (all of the seat's roots in one cut). By AI agents, Wed Nov 11 2026. No macro, syntax, notation, axiom, sorry.
-/
import Derived.Test.YtgjdcdhfijkoiaaDoorChecked
import GoSem.PinnedTables
import GoSem.Claim
import GoSem.ClaimJoined
import GoSem.ClaimMapViews
import Derived.JoinedTies
import Derived.KernelRfl
namespace Go.Proofs.YtgjdcdhfijkoiaaDoor
/- THE CELL 'sum', in the pinned program and in every row, IS THE sha256 OF THE DUMP (.gsa) THAT YtgjdcdhfijkoiaaDoorProg.lean LOADS. Nothing in Lean hashes anything: it is a label: what it is worth is what the hold of that sum in a sandbox is worth. -/
noncomputable def Tryd.pinned : Pinned := { name := "ytgjdcdhfijkoiaadoor", sum := "af28b0a4c7f71ce254356da49126aff87a10651b4b54cae388477e8a6c12cc8d", checked := Tryd.checked }
namespace Rows
def none {H : Type} : Left H := { results := [], args := [] }

/- WHAT THE LISTED PACKAGE-LEVEL VARIABLES READ AS WHEN THE CALL BEGINS. Each datum BY PROGRAM (the guide's laid-datum.mjs) off the statement by which the dump's own 'gosem.cut.vars' lays the variable. In a bare row this is a premise. The card (YtgjdcdhfijkoiaaDoorCards.lean) ties it to the program's text. -/
def laid_unicode_utf8_acceptRanges {H : Type} : DataW H := .agg [.agg [.lit (.int .u8 128), .lit (.int .u8 191)], .agg [.lit (.int .u8 160), .lit (.int .u8 191)], .agg [.lit (.int .u8 128), .lit (.int .u8 159)], .agg [.lit (.int .u8 144), .lit (.int .u8 191)], .agg [.lit (.int .u8 128), .lit (.int .u8 143)], .agg [.lit (.int .u8 0), .lit (.int .u8 0)], .agg [.lit (.int .u8 0), .lit (.int .u8 0)], .agg [.lit (.int .u8 0), .lit (.int .u8 0)], .agg [.lit (.int .u8 0), .lit (.int .u8 0)], .agg [.lit (.int .u8 0), .lit (.int .u8 0)], .agg [.lit (.int .u8 0), .lit (.int .u8 0)], .agg [.lit (.int .u8 0), .lit (.int .u8 0)], .agg [.lit (.int .u8 0), .lit (.int .u8 0)], .agg [.lit (.int .u8 0), .lit (.int .u8 0)], .agg [.lit (.int .u8 0), .lit (.int .u8 0)], .agg [.lit (.int .u8 0), .lit (.int .u8 0)]]
/-- One of Go's own tables, pinned by name: the form's constant. -/
def laid_unicode_utf8_first : DataW Unit := Go.Pinned.utf8First

/-- 'baileelaw11.FilesChecks': WHATEVER THE INPUT: true; the input reads as it did. -/
def filesChecksSpec : ChangeSpec := { name := "filesChecks", fn := fun _ => fun
  | [d1, d2] => { results := [.lit (.bool true)], args := [d1, d2] }
  | _ => none }
def filesChecksRow : OpenClaim := { program := "ytgjdcdhfijkoiaadoor", sum := "af28b0a4c7f71ce254356da49126aff87a10651b4b54cae388477e8a6c12cc8d", func := "bailee/baileelaw11.FilesChecks", spec := "filesChecks", inPlace := ["internal/bytealg.IndexByteString", "internal/bytealg.IndexString"], unfollowed := true, recurses := true, named := ["internal/bytealg.MaxLen", "unicode/utf8.first", "unicode/utf8.acceptRanges"], apart := false, laid := [("unicode/utf8.acceptRanges", laid_unicode_utf8_acceptRanges), ("unicode/utf8.first", laid_unicode_utf8_first)] }
def FilesChecksSaid : Prop := filesChecksRow.holds Tryd.pinned (OpenSpec.ofChange filesChecksSpec)

/-- ITS FALSE NEIGHBOUR: 'it returns false'. Refute it at one input. -/
def filesChecksWrong : ChangeSpec := { name := "filesChecks", fn := fun _ => fun
  | [d1, d2] => { results := [.lit (.bool false)], args := [d1, d2] }
  | _ => none }
def FilesChecksWrongFalsely : Prop := filesChecksRow.holds Tryd.pinned (OpenSpec.ofChange filesChecksWrong)

/-- 'baileelaw11.FilesGets': WHATEVER THE INPUT: true; the input reads as it did. -/
def filesGetsSpec : ChangeSpec := { name := "filesGets", fn := fun _ => fun
  | [d] => { results := [.lit (.bool true)], args := [d] }
  | _ => none }
def filesGetsRow : OpenClaim := { program := "ytgjdcdhfijkoiaadoor", sum := "af28b0a4c7f71ce254356da49126aff87a10651b4b54cae388477e8a6c12cc8d", func := "bailee/baileelaw11.FilesGets", spec := "filesGets", inPlace := ["internal/bytealg.IndexByteString", "internal/bytealg.IndexString"], unfollowed := true, recurses := true, named := ["internal/bytealg.MaxLen", "unicode/utf8.first", "unicode/utf8.acceptRanges"], apart := false, laid := [("unicode/utf8.acceptRanges", laid_unicode_utf8_acceptRanges), ("unicode/utf8.first", laid_unicode_utf8_first)] }
def FilesGetsSaid : Prop := filesGetsRow.holds Tryd.pinned (OpenSpec.ofChange filesGetsSpec)

/-- ITS FALSE NEIGHBOUR: 'it returns false'. Refute it at one input. -/
def filesGetsWrong : ChangeSpec := { name := "filesGets", fn := fun _ => fun
  | [d] => { results := [.lit (.bool false)], args := [d] }
  | _ => none }
def FilesGetsWrongFalsely : Prop := filesGetsRow.holds Tryd.pinned (OpenSpec.ofChange filesGetsWrong)

/-- 'baileelaw11.FilesUnder': WHATEVER THE INPUT: true; the input reads as it did. -/
def filesUnderSpec : ChangeSpec := { name := "filesUnder", fn := fun _ => fun
  | [d1, d2] => { results := [.lit (.bool true)], args := [d1, d2] }
  | _ => none }
def filesUnderRow : OpenClaim := { program := "ytgjdcdhfijkoiaadoor", sum := "af28b0a4c7f71ce254356da49126aff87a10651b4b54cae388477e8a6c12cc8d", func := "bailee/baileelaw11.FilesUnder", spec := "filesUnder", inPlace := ["internal/bytealg.IndexByteString", "internal/bytealg.IndexString"], unfollowed := true, recurses := true, named := ["internal/bytealg.MaxLen", "unicode/utf8.first", "unicode/utf8.acceptRanges"], apart := false, laid := [("unicode/utf8.acceptRanges", laid_unicode_utf8_acceptRanges), ("unicode/utf8.first", laid_unicode_utf8_first)] }
def FilesUnderSaid : Prop := filesUnderRow.holds Tryd.pinned (OpenSpec.ofChange filesUnderSpec)

/-- ITS FALSE NEIGHBOUR: 'it returns false'. Refute it at one input. -/
def filesUnderWrong : ChangeSpec := { name := "filesUnder", fn := fun _ => fun
  | [d1, d2] => { results := [.lit (.bool false)], args := [d1, d2] }
  | _ => none }
def FilesUnderWrongFalsely : Prop := filesUnderRow.holds Tryd.pinned (OpenSpec.ofChange filesUnderWrong)

/-- 'baileelaw11.FilesSame': WHATEVER THE INPUT: true; the input reads as it did. -/
def filesSameSpec : ChangeSpec := { name := "filesSame", fn := fun _ => fun
  | [d1, d2, d3] => { results := [.lit (.bool true)], args := [d1, d2, d3] }
  | _ => none }
def filesSameRow : OpenClaim := { program := "ytgjdcdhfijkoiaadoor", sum := "af28b0a4c7f71ce254356da49126aff87a10651b4b54cae388477e8a6c12cc8d", func := "bailee/baileelaw11.FilesSame", spec := "filesSame", inPlace := ["internal/bytealg.IndexByteString", "internal/bytealg.IndexString"], unfollowed := true, recurses := true, named := ["internal/bytealg.MaxLen", "unicode/utf8.first", "unicode/utf8.acceptRanges"], apart := false, laid := [("unicode/utf8.acceptRanges", laid_unicode_utf8_acceptRanges), ("unicode/utf8.first", laid_unicode_utf8_first)] }
def FilesSameSaid : Prop := filesSameRow.holds Tryd.pinned (OpenSpec.ofChange filesSameSpec)

/-- ITS FALSE NEIGHBOUR: 'it returns false'. Refute it at one input. -/
def filesSameWrong : ChangeSpec := { name := "filesSame", fn := fun _ => fun
  | [d1, d2, d3] => { results := [.lit (.bool false)], args := [d1, d2, d3] }
  | _ => none }
def FilesSameWrongFalsely : Prop := filesSameRow.holds Tryd.pinned (OpenSpec.ofChange filesSameWrong)

/-- 'baileelaw11.FilesPaths': WHATEVER THE INPUT: true; the input reads as it did. -/
def filesPathsSpec : ChangeSpec := { name := "filesPaths", fn := fun _ => fun
  | [d1, d2] => { results := [.lit (.bool true)], args := [d1, d2] }
  | _ => none }
def filesPathsRow : OpenClaim := { program := "ytgjdcdhfijkoiaadoor", sum := "af28b0a4c7f71ce254356da49126aff87a10651b4b54cae388477e8a6c12cc8d", func := "bailee/baileelaw11.FilesPaths", spec := "filesPaths", inPlace := ["internal/bytealg.IndexByteString", "internal/bytealg.IndexString"], unfollowed := true, recurses := true, named := ["internal/bytealg.MaxLen", "unicode/utf8.first", "unicode/utf8.acceptRanges"], apart := false, laid := [("unicode/utf8.acceptRanges", laid_unicode_utf8_acceptRanges), ("unicode/utf8.first", laid_unicode_utf8_first)] }
def FilesPathsSaid : Prop := filesPathsRow.holds Tryd.pinned (OpenSpec.ofChange filesPathsSpec)

/-- ITS FALSE NEIGHBOUR: 'it returns false'. Refute it at one input. -/
def filesPathsWrong : ChangeSpec := { name := "filesPaths", fn := fun _ => fun
  | [d1, d2] => { results := [.lit (.bool false)], args := [d1, d2] }
  | _ => none }
def FilesPathsWrongFalsely : Prop := filesPathsRow.holds Tryd.pinned (OpenSpec.ofChange filesPathsWrong)

/-- 'baileelaw11.FilesFront': WHATEVER THE INPUT: true; the input reads as it did. -/
def filesFrontSpec : ChangeSpec := { name := "filesFront", fn := fun _ => fun
  | [d1, d2] => { results := [.lit (.bool true)], args := [d1, d2] }
  | _ => none }
def filesFrontRow : OpenClaim := { program := "ytgjdcdhfijkoiaadoor", sum := "af28b0a4c7f71ce254356da49126aff87a10651b4b54cae388477e8a6c12cc8d", func := "bailee/baileelaw11.FilesFront", spec := "filesFront", inPlace := ["internal/bytealg.IndexByteString", "internal/bytealg.IndexString"], unfollowed := true, recurses := true, named := ["internal/bytealg.MaxLen", "unicode/utf8.first", "unicode/utf8.acceptRanges"], apart := false, laid := [("unicode/utf8.acceptRanges", laid_unicode_utf8_acceptRanges), ("unicode/utf8.first", laid_unicode_utf8_first)] }
def FilesFrontSaid : Prop := filesFrontRow.holds Tryd.pinned (OpenSpec.ofChange filesFrontSpec)

/-- ITS FALSE NEIGHBOUR: 'it returns false'. Refute it at one input. -/
def filesFrontWrong : ChangeSpec := { name := "filesFront", fn := fun _ => fun
  | [d1, d2] => { results := [.lit (.bool false)], args := [d1, d2] }
  | _ => none }
def FilesFrontWrongFalsely : Prop := filesFrontRow.holds Tryd.pinned (OpenSpec.ofChange filesFrontWrong)

/-- 'baileelaw12.ObjectsPuts': WHATEVER THE INPUT: true; the input reads as it did. -/
def objectsPutsSpec : ChangeSpec := { name := "objectsPuts", fn := fun _ => fun
  | [d] => { results := [.lit (.bool true)], args := [d] }
  | _ => none }
def objectsPutsRow : OpenClaim := { program := "ytgjdcdhfijkoiaadoor", sum := "af28b0a4c7f71ce254356da49126aff87a10651b4b54cae388477e8a6c12cc8d", func := "bailee/baileelaw12.ObjectsPuts", spec := "objectsPuts", inPlace := ["internal/bytealg.IndexByteString", "internal/bytealg.IndexString"], unfollowed := true, recurses := true, named := ["unicode/utf8.first", "unicode/utf8.acceptRanges", "internal/bytealg.MaxLen"], apart := false, laid := [("unicode/utf8.acceptRanges", laid_unicode_utf8_acceptRanges), ("unicode/utf8.first", laid_unicode_utf8_first)] }
def ObjectsPutsSaid : Prop := objectsPutsRow.holds Tryd.pinned (OpenSpec.ofChange objectsPutsSpec)

/-- ITS FALSE NEIGHBOUR: 'it returns false'. Refute it at one input. -/
def objectsPutsWrong : ChangeSpec := { name := "objectsPuts", fn := fun _ => fun
  | [d] => { results := [.lit (.bool false)], args := [d] }
  | _ => none }
def ObjectsPutsWrongFalsely : Prop := objectsPutsRow.holds Tryd.pinned (OpenSpec.ofChange objectsPutsWrong)

/-- 'baileelaw12.ObjectsGets': WHATEVER THE INPUT: true; the input reads as it did. -/
def objectsGetsSpec : ChangeSpec := { name := "objectsGets", fn := fun _ => fun
  | [d] => { results := [.lit (.bool true)], args := [d] }
  | _ => none }
def objectsGetsRow : OpenClaim := { program := "ytgjdcdhfijkoiaadoor", sum := "af28b0a4c7f71ce254356da49126aff87a10651b4b54cae388477e8a6c12cc8d", func := "bailee/baileelaw12.ObjectsGets", spec := "objectsGets", inPlace := ["internal/bytealg.IndexByteString", "internal/bytealg.IndexString"], unfollowed := true, recurses := true, named := ["unicode/utf8.first", "unicode/utf8.acceptRanges", "internal/bytealg.MaxLen"], apart := false, laid := [("unicode/utf8.acceptRanges", laid_unicode_utf8_acceptRanges), ("unicode/utf8.first", laid_unicode_utf8_first)] }
def ObjectsGetsSaid : Prop := objectsGetsRow.holds Tryd.pinned (OpenSpec.ofChange objectsGetsSpec)

/-- ITS FALSE NEIGHBOUR: 'it returns false'. Refute it at one input. -/
def objectsGetsWrong : ChangeSpec := { name := "objectsGets", fn := fun _ => fun
  | [d] => { results := [.lit (.bool false)], args := [d] }
  | _ => none }
def ObjectsGetsWrongFalsely : Prop := objectsGetsRow.holds Tryd.pinned (OpenSpec.ofChange objectsGetsWrong)

/-- 'baileelaw12.ObjectsBelow': WHATEVER THE INPUT: true; the input reads as it did. -/
def objectsBelowSpec : ChangeSpec := { name := "objectsBelow", fn := fun _ => fun
  | [d] => { results := [.lit (.bool true)], args := [d] }
  | _ => none }
def objectsBelowRow : OpenClaim := { program := "ytgjdcdhfijkoiaadoor", sum := "af28b0a4c7f71ce254356da49126aff87a10651b4b54cae388477e8a6c12cc8d", func := "bailee/baileelaw12.ObjectsBelow", spec := "objectsBelow", inPlace := ["internal/bytealg.IndexByteString", "internal/bytealg.IndexString"], unfollowed := true, recurses := true, named := ["unicode/utf8.first", "unicode/utf8.acceptRanges", "internal/bytealg.MaxLen"], apart := false, laid := [("unicode/utf8.acceptRanges", laid_unicode_utf8_acceptRanges), ("unicode/utf8.first", laid_unicode_utf8_first)] }
def ObjectsBelowSaid : Prop := objectsBelowRow.holds Tryd.pinned (OpenSpec.ofChange objectsBelowSpec)

/-- ITS FALSE NEIGHBOUR: 'it returns false'. Refute it at one input. -/
def objectsBelowWrong : ChangeSpec := { name := "objectsBelow", fn := fun _ => fun
  | [d] => { results := [.lit (.bool false)], args := [d] }
  | _ => none }
def ObjectsBelowWrongFalsely : Prop := objectsBelowRow.holds Tryd.pinned (OpenSpec.ofChange objectsBelowWrong)

/-- 'baileelaw12.ObjectsLimits': WHATEVER THE INPUT: true; the input reads as it did. -/
def objectsLimitsSpec : ChangeSpec := { name := "objectsLimits", fn := fun _ => fun
  | [d1, d2, d3, d4] => { results := [.lit (.bool true)], args := [d1, d2, d3, d4] }
  | _ => none }
def objectsLimitsRow : OpenClaim := { program := "ytgjdcdhfijkoiaadoor", sum := "af28b0a4c7f71ce254356da49126aff87a10651b4b54cae388477e8a6c12cc8d", func := "bailee/baileelaw12.ObjectsLimits", spec := "objectsLimits", inPlace := ["internal/bytealg.IndexByteString", "internal/bytealg.IndexString"], unfollowed := true, recurses := true, named := ["unicode/utf8.first", "unicode/utf8.acceptRanges", "internal/bytealg.MaxLen"], apart := false, laid := [("unicode/utf8.acceptRanges", laid_unicode_utf8_acceptRanges), ("unicode/utf8.first", laid_unicode_utf8_first)] }
def ObjectsLimitsSaid : Prop := objectsLimitsRow.holds Tryd.pinned (OpenSpec.ofChange objectsLimitsSpec)

/-- ITS FALSE NEIGHBOUR: 'it returns false'. Refute it at one input. -/
def objectsLimitsWrong : ChangeSpec := { name := "objectsLimits", fn := fun _ => fun
  | [d1, d2, d3, d4] => { results := [.lit (.bool false)], args := [d1, d2, d3, d4] }
  | _ => none }
def ObjectsLimitsWrongFalsely : Prop := objectsLimitsRow.holds Tryd.pinned (OpenSpec.ofChange objectsLimitsWrong)

/- THE SECOND FORM. 'bulk': how many values and letters a reading holds, each counted each time it is reached (what is shared counts as often as it is met; a slice's spare places count too). A statement '..UptoSaid' is the law's where the arguments, and the package variables that the reading takes, are together of bulk at most 1048576: NARROWER than '..Said'. Prove '..Said' where nothing that the law and all that it calls make is longer than what came in: it says more and counts as full. Else prove '..UptoSaid'. A law counts once. -/
mutual
def uptoBulk {H : Type} : DataW H → Nat
  | .lit (.string bytes) => bytes.length + 1
  | .lit _ => 1
  | .nil => 1
  | .ptr d => uptoBulk d + 1
  | .slice elems spare => uptoBulkAll elems + uptoBulkAll spare + 1
  | .agg parts => uptoBulkAll parts + 1
  | .iface _ d => uptoBulk d + 1
  | .map entries => uptoBulkEntries entries + 1
  | .held _ => 1
def uptoBulkAll {H : Type} : List (DataW H) → Nat
  | [] => 0
  | d :: r => uptoBulk d + uptoBulkAll r
def uptoBulkEntries {H : Type} : List (Lit × DataW H) → Nat
  | [] => 0
  | x :: r => uptoBulkEntry x + uptoBulkEntries r
def uptoBulkEntry {H : Type} : Lit × DataW H → Nat
  | (.string bytes, d) => bytes.length + uptoBulk d + 1
  | (_, d) => uptoBulk d + 1
 end
def uptoSmall : (H : Type) → List (DataW H) → Bool := fun _ ds => decide (uptoBulkAll ds ≤ 1048576)
def OpenSpec.upto (s : _root_.Go.ChangeSpec) : _root_.Go.OpenSpec := { _root_.Go.OpenSpec.ofChange s with cond := some uptoSmall }

/-- 'baileelaw11.FilesChecks', WHERE WHAT IT READS IS OF BULK AT MOST 1048576: true; the input reads as it did. -/
def filesChecksUptoRow : OpenClaim := { program := "ytgjdcdhfijkoiaadoor", sum := "af28b0a4c7f71ce254356da49126aff87a10651b4b54cae388477e8a6c12cc8d", func := "bailee/baileelaw11.FilesChecks", spec := "filesChecks", inPlace := ["internal/bytealg.IndexByteString", "internal/bytealg.IndexString"], unfollowed := true, recurses := true, named := ["internal/bytealg.MaxLen", "unicode/utf8.first", "unicode/utf8.acceptRanges"], apart := false, laid := [("unicode/utf8.acceptRanges", laid_unicode_utf8_acceptRanges), ("unicode/utf8.first", laid_unicode_utf8_first)], narrowed := true }
def FilesChecksUptoSaid : Prop := filesChecksUptoRow.holds Tryd.pinned (OpenSpec.upto filesChecksSpec)

/-- 'baileelaw11.FilesGets', WHERE WHAT IT READS IS OF BULK AT MOST 1048576: true; the input reads as it did. -/
def filesGetsUptoRow : OpenClaim := { program := "ytgjdcdhfijkoiaadoor", sum := "af28b0a4c7f71ce254356da49126aff87a10651b4b54cae388477e8a6c12cc8d", func := "bailee/baileelaw11.FilesGets", spec := "filesGets", inPlace := ["internal/bytealg.IndexByteString", "internal/bytealg.IndexString"], unfollowed := true, recurses := true, named := ["internal/bytealg.MaxLen", "unicode/utf8.first", "unicode/utf8.acceptRanges"], apart := false, laid := [("unicode/utf8.acceptRanges", laid_unicode_utf8_acceptRanges), ("unicode/utf8.first", laid_unicode_utf8_first)], narrowed := true }
def FilesGetsUptoSaid : Prop := filesGetsUptoRow.holds Tryd.pinned (OpenSpec.upto filesGetsSpec)

/-- 'baileelaw11.FilesUnder', WHERE WHAT IT READS IS OF BULK AT MOST 1048576: true; the input reads as it did. -/
def filesUnderUptoRow : OpenClaim := { program := "ytgjdcdhfijkoiaadoor", sum := "af28b0a4c7f71ce254356da49126aff87a10651b4b54cae388477e8a6c12cc8d", func := "bailee/baileelaw11.FilesUnder", spec := "filesUnder", inPlace := ["internal/bytealg.IndexByteString", "internal/bytealg.IndexString"], unfollowed := true, recurses := true, named := ["internal/bytealg.MaxLen", "unicode/utf8.first", "unicode/utf8.acceptRanges"], apart := false, laid := [("unicode/utf8.acceptRanges", laid_unicode_utf8_acceptRanges), ("unicode/utf8.first", laid_unicode_utf8_first)], narrowed := true }
def FilesUnderUptoSaid : Prop := filesUnderUptoRow.holds Tryd.pinned (OpenSpec.upto filesUnderSpec)

/-- 'baileelaw11.FilesSame', WHERE WHAT IT READS IS OF BULK AT MOST 1048576: true; the input reads as it did. -/
def filesSameUptoRow : OpenClaim := { program := "ytgjdcdhfijkoiaadoor", sum := "af28b0a4c7f71ce254356da49126aff87a10651b4b54cae388477e8a6c12cc8d", func := "bailee/baileelaw11.FilesSame", spec := "filesSame", inPlace := ["internal/bytealg.IndexByteString", "internal/bytealg.IndexString"], unfollowed := true, recurses := true, named := ["internal/bytealg.MaxLen", "unicode/utf8.first", "unicode/utf8.acceptRanges"], apart := false, laid := [("unicode/utf8.acceptRanges", laid_unicode_utf8_acceptRanges), ("unicode/utf8.first", laid_unicode_utf8_first)], narrowed := true }
def FilesSameUptoSaid : Prop := filesSameUptoRow.holds Tryd.pinned (OpenSpec.upto filesSameSpec)

/-- 'baileelaw11.FilesPaths', WHERE WHAT IT READS IS OF BULK AT MOST 1048576: true; the input reads as it did. -/
def filesPathsUptoRow : OpenClaim := { program := "ytgjdcdhfijkoiaadoor", sum := "af28b0a4c7f71ce254356da49126aff87a10651b4b54cae388477e8a6c12cc8d", func := "bailee/baileelaw11.FilesPaths", spec := "filesPaths", inPlace := ["internal/bytealg.IndexByteString", "internal/bytealg.IndexString"], unfollowed := true, recurses := true, named := ["internal/bytealg.MaxLen", "unicode/utf8.first", "unicode/utf8.acceptRanges"], apart := false, laid := [("unicode/utf8.acceptRanges", laid_unicode_utf8_acceptRanges), ("unicode/utf8.first", laid_unicode_utf8_first)], narrowed := true }
def FilesPathsUptoSaid : Prop := filesPathsUptoRow.holds Tryd.pinned (OpenSpec.upto filesPathsSpec)

/-- 'baileelaw11.FilesFront', WHERE WHAT IT READS IS OF BULK AT MOST 1048576: true; the input reads as it did. -/
def filesFrontUptoRow : OpenClaim := { program := "ytgjdcdhfijkoiaadoor", sum := "af28b0a4c7f71ce254356da49126aff87a10651b4b54cae388477e8a6c12cc8d", func := "bailee/baileelaw11.FilesFront", spec := "filesFront", inPlace := ["internal/bytealg.IndexByteString", "internal/bytealg.IndexString"], unfollowed := true, recurses := true, named := ["internal/bytealg.MaxLen", "unicode/utf8.first", "unicode/utf8.acceptRanges"], apart := false, laid := [("unicode/utf8.acceptRanges", laid_unicode_utf8_acceptRanges), ("unicode/utf8.first", laid_unicode_utf8_first)], narrowed := true }
def FilesFrontUptoSaid : Prop := filesFrontUptoRow.holds Tryd.pinned (OpenSpec.upto filesFrontSpec)

/-- 'baileelaw12.ObjectsPuts', WHERE WHAT IT READS IS OF BULK AT MOST 1048576: true; the input reads as it did. -/
def objectsPutsUptoRow : OpenClaim := { program := "ytgjdcdhfijkoiaadoor", sum := "af28b0a4c7f71ce254356da49126aff87a10651b4b54cae388477e8a6c12cc8d", func := "bailee/baileelaw12.ObjectsPuts", spec := "objectsPuts", inPlace := ["internal/bytealg.IndexByteString", "internal/bytealg.IndexString"], unfollowed := true, recurses := true, named := ["unicode/utf8.first", "unicode/utf8.acceptRanges", "internal/bytealg.MaxLen"], apart := false, laid := [("unicode/utf8.acceptRanges", laid_unicode_utf8_acceptRanges), ("unicode/utf8.first", laid_unicode_utf8_first)], narrowed := true }
def ObjectsPutsUptoSaid : Prop := objectsPutsUptoRow.holds Tryd.pinned (OpenSpec.upto objectsPutsSpec)

/-- 'baileelaw12.ObjectsGets', WHERE WHAT IT READS IS OF BULK AT MOST 1048576: true; the input reads as it did. -/
def objectsGetsUptoRow : OpenClaim := { program := "ytgjdcdhfijkoiaadoor", sum := "af28b0a4c7f71ce254356da49126aff87a10651b4b54cae388477e8a6c12cc8d", func := "bailee/baileelaw12.ObjectsGets", spec := "objectsGets", inPlace := ["internal/bytealg.IndexByteString", "internal/bytealg.IndexString"], unfollowed := true, recurses := true, named := ["unicode/utf8.first", "unicode/utf8.acceptRanges", "internal/bytealg.MaxLen"], apart := false, laid := [("unicode/utf8.acceptRanges", laid_unicode_utf8_acceptRanges), ("unicode/utf8.first", laid_unicode_utf8_first)], narrowed := true }
def ObjectsGetsUptoSaid : Prop := objectsGetsUptoRow.holds Tryd.pinned (OpenSpec.upto objectsGetsSpec)

/-- 'baileelaw12.ObjectsBelow', WHERE WHAT IT READS IS OF BULK AT MOST 1048576: true; the input reads as it did. -/
def objectsBelowUptoRow : OpenClaim := { program := "ytgjdcdhfijkoiaadoor", sum := "af28b0a4c7f71ce254356da49126aff87a10651b4b54cae388477e8a6c12cc8d", func := "bailee/baileelaw12.ObjectsBelow", spec := "objectsBelow", inPlace := ["internal/bytealg.IndexByteString", "internal/bytealg.IndexString"], unfollowed := true, recurses := true, named := ["unicode/utf8.first", "unicode/utf8.acceptRanges", "internal/bytealg.MaxLen"], apart := false, laid := [("unicode/utf8.acceptRanges", laid_unicode_utf8_acceptRanges), ("unicode/utf8.first", laid_unicode_utf8_first)], narrowed := true }
def ObjectsBelowUptoSaid : Prop := objectsBelowUptoRow.holds Tryd.pinned (OpenSpec.upto objectsBelowSpec)

/-- 'baileelaw12.ObjectsLimits', WHERE WHAT IT READS IS OF BULK AT MOST 1048576: true; the input reads as it did. -/
def objectsLimitsUptoRow : OpenClaim := { program := "ytgjdcdhfijkoiaadoor", sum := "af28b0a4c7f71ce254356da49126aff87a10651b4b54cae388477e8a6c12cc8d", func := "bailee/baileelaw12.ObjectsLimits", spec := "objectsLimits", inPlace := ["internal/bytealg.IndexByteString", "internal/bytealg.IndexString"], unfollowed := true, recurses := true, named := ["unicode/utf8.first", "unicode/utf8.acceptRanges", "internal/bytealg.MaxLen"], apart := false, laid := [("unicode/utf8.acceptRanges", laid_unicode_utf8_acceptRanges), ("unicode/utf8.first", laid_unicode_utf8_first)], narrowed := true }
def ObjectsLimitsUptoSaid : Prop := objectsLimitsUptoRow.holds Tryd.pinned (OpenSpec.upto objectsLimitsSpec)

end Rows
end Go.Proofs.YtgjdcdhfijkoiaaDoor
