/-
  No cell of these rows narrows 'for every input' (looked for: loops, veiled, ifaces, maps, wideKeys, modest, calm, conditions, laid).
  DERIVED. THE GIVEN ROWS OF THIS SEAT. 5 by the template 'for every input the law returns true; each argument reads behind the call as it read before'; 0 by the template 'total and deterministic' (their statements: YtogbalmfojkgnaaTotals.lean).
  GIVEN WITH THE SEED: the statements are not yours to turn. If you find one false, say at which input.
  Laid BY PROGRAM, IN A SANDBOX (cutbox-rows.mjs): the forced cells as the released guide's own fill.sh prints them over the translation 13ba9312d23f43c1… (all of the seat's roots in one cut). By AI agents, Wed Nov 11 2026. No macro, syntax, notation, axiom, sorry.
-/
import Derived.Test.YtogbalmfojkgnaaChecked
import GoSem.Claim
import GoSem.ClaimJoined
import GoSem.ClaimMapViews
import Derived.JoinedTies
import Derived.KernelRfl
namespace Go.Proofs.Ytogbalmfojkgnaa
/- THE CELL 'sum', in the pinned program and in every row, IS THE sha256 OF THE DUMP (.gsa) THAT YtogbalmfojkgnaaProg.lean LOADS. Nothing in Lean hashes anything: it is a label: what it is worth is what the hold of that sum in a sandbox is worth. -/
noncomputable def Try.pinned : Pinned := { name := "ytogbalmfojkgnaa", sum := "13ba9312d23f43c119df30c5587bd1c90ac31f7b53cb4fb4285d903373a159fa", checked := Try.checked }
namespace Rows
def none {H : Type} : Left H := { results := [], args := [] }

/-- 'baileelaw07.CutterEnds': WHATEVER THE INPUT: true; the input reads as it did. -/
def cutterEndsSpec : ChangeSpec := { name := "cutterEnds", fn := fun _ => fun
  | [d1, d2] => { results := [.lit (.bool true)], args := [d1, d2] }
  | _ => none }
def cutterEndsRow : OpenClaim := { program := "ytogbalmfojkgnaa", sum := "13ba9312d23f43c119df30c5587bd1c90ac31f7b53cb4fb4285d903373a159fa", func := "bailee/baileelaw07.CutterEnds", spec := "cutterEnds", apart := false }
def CutterEndsSaid : Prop := cutterEndsRow.holds Try.pinned (OpenSpec.ofChange cutterEndsSpec)

/-- ITS FALSE NEIGHBOUR: 'it returns false'. Refute it at one input. -/
def cutterEndsWrong : ChangeSpec := { name := "cutterEnds", fn := fun _ => fun
  | [d1, d2] => { results := [.lit (.bool false)], args := [d1, d2] }
  | _ => none }
def CutterEndsWrongFalsely : Prop := cutterEndsRow.holds Try.pinned (OpenSpec.ofChange cutterEndsWrong)

/-- 'baileelaw07.CutterAll': WHATEVER THE INPUT: true; the input reads as it did. -/
def cutterAllSpec : ChangeSpec := { name := "cutterAll", fn := fun _ => fun
  | [d1, d2, d3, d4] => { results := [.lit (.bool true)], args := [d1, d2, d3, d4] }
  | _ => none }
def cutterAllRow : OpenClaim := { program := "ytogbalmfojkgnaa", sum := "13ba9312d23f43c119df30c5587bd1c90ac31f7b53cb4fb4285d903373a159fa", func := "bailee/baileelaw07.CutterAll", spec := "cutterAll", apart := false }
def CutterAllSaid : Prop := cutterAllRow.holds Try.pinned (OpenSpec.ofChange cutterAllSpec)

/-- ITS FALSE NEIGHBOUR: 'it returns false'. Refute it at one input. -/
def cutterAllWrong : ChangeSpec := { name := "cutterAll", fn := fun _ => fun
  | [d1, d2, d3, d4] => { results := [.lit (.bool false)], args := [d1, d2, d3, d4] }
  | _ => none }
def CutterAllWrongFalsely : Prop := cutterAllRow.holds Try.pinned (OpenSpec.ofChange cutterAllWrong)

/-- 'baileelaw07.CutterAlike': WHATEVER THE INPUT: true; the input reads as it did. -/
def cutterAlikeSpec : ChangeSpec := { name := "cutterAlike", fn := fun _ => fun
  | [d1, d2, d3] => { results := [.lit (.bool true)], args := [d1, d2, d3] }
  | _ => none }
def cutterAlikeRow : OpenClaim := { program := "ytogbalmfojkgnaa", sum := "13ba9312d23f43c119df30c5587bd1c90ac31f7b53cb4fb4285d903373a159fa", func := "bailee/baileelaw07.CutterAlike", spec := "cutterAlike", apart := false }
def CutterAlikeSaid : Prop := cutterAlikeRow.holds Try.pinned (OpenSpec.ofChange cutterAlikeSpec)

/-- ITS FALSE NEIGHBOUR: 'it returns false'. Refute it at one input. -/
def cutterAlikeWrong : ChangeSpec := { name := "cutterAlike", fn := fun _ => fun
  | [d1, d2, d3] => { results := [.lit (.bool false)], args := [d1, d2, d3] }
  | _ => none }
def CutterAlikeWrongFalsely : Prop := cutterAlikeRow.holds Try.pinned (OpenSpec.ofChange cutterAlikeWrong)

/-- 'baileelaw07.CutterFront': WHATEVER THE INPUT: true; the input reads as it did. -/
def cutterFrontSpec : ChangeSpec := { name := "cutterFront", fn := fun _ => fun
  | [d1, d2, d3] => { results := [.lit (.bool true)], args := [d1, d2, d3] }
  | _ => none }
def cutterFrontRow : OpenClaim := { program := "ytogbalmfojkgnaa", sum := "13ba9312d23f43c119df30c5587bd1c90ac31f7b53cb4fb4285d903373a159fa", func := "bailee/baileelaw07.CutterFront", spec := "cutterFront", apart := false }
def CutterFrontSaid : Prop := cutterFrontRow.holds Try.pinned (OpenSpec.ofChange cutterFrontSpec)

/-- ITS FALSE NEIGHBOUR: 'it returns false'. Refute it at one input. -/
def cutterFrontWrong : ChangeSpec := { name := "cutterFront", fn := fun _ => fun
  | [d1, d2, d3] => { results := [.lit (.bool false)], args := [d1, d2, d3] }
  | _ => none }
def CutterFrontWrongFalsely : Prop := cutterFrontRow.holds Try.pinned (OpenSpec.ofChange cutterFrontWrong)

/-- 'baileelaw07.CutterAlone': WHATEVER THE INPUT: true; the input reads as it did. -/
def cutterAloneSpec : ChangeSpec := { name := "cutterAlone", fn := fun _ => fun
  | [d1, d2, d3] => { results := [.lit (.bool true)], args := [d1, d2, d3] }
  | _ => none }
def cutterAloneRow : OpenClaim := { program := "ytogbalmfojkgnaa", sum := "13ba9312d23f43c119df30c5587bd1c90ac31f7b53cb4fb4285d903373a159fa", func := "bailee/baileelaw07.CutterAlone", spec := "cutterAlone", apart := false }
def CutterAloneSaid : Prop := cutterAloneRow.holds Try.pinned (OpenSpec.ofChange cutterAloneSpec)

/-- ITS FALSE NEIGHBOUR: 'it returns false'. Refute it at one input. -/
def cutterAloneWrong : ChangeSpec := { name := "cutterAlone", fn := fun _ => fun
  | [d1, d2, d3] => { results := [.lit (.bool false)], args := [d1, d2, d3] }
  | _ => none }
def CutterAloneWrongFalsely : Prop := cutterAloneRow.holds Try.pinned (OpenSpec.ofChange cutterAloneWrong)

/- THE SECOND FORM. 'bulk': how many values and letters a reading holds, each counted each time it is reached (what is shared counts as often as it is met; a slice's spare places count too). A statement '..UptoSaid' is the law's where the arguments, and the package variables that the reading takes, are together of bulk at most 1048576: NARROWER than '..Said'. Prove '..Said' where nothing that the law and all that it calls make is longer than what came in: it says more and counts as full. Else prove '..UptoSaid'. A law counts once. -/
mutual
def uptoBulk {H : Type} : DataW H → Nat
  | .lit (.string bytes) => bytes.length + 1
  | .lit _ => 1
  | .nil => 1
  | .ptr d => uptoBulk d + 1
  | .slice elems spare => uptoBulkAll elems + uptoBulkAll spare + 1
  | .agg parts => uptoBulkAll parts + 1
  | .iface _ d => uptoBulk d + 1
  | .map entries => uptoBulkEntries entries + 1
  | .held _ => 1
def uptoBulkAll {H : Type} : List (DataW H) → Nat
  | [] => 0
  | d :: r => uptoBulk d + uptoBulkAll r
def uptoBulkEntries {H : Type} : List (Lit × DataW H) → Nat
  | [] => 0
  | x :: r => uptoBulkEntry x + uptoBulkEntries r
def uptoBulkEntry {H : Type} : Lit × DataW H → Nat
  | (.string bytes, d) => bytes.length + uptoBulk d + 1
  | (_, d) => uptoBulk d + 1
 end
def uptoSmall : (H : Type) → List (DataW H) → Bool := fun _ ds => decide (uptoBulkAll ds ≤ 1048576)
def OpenSpec.upto (s : _root_.Go.ChangeSpec) : _root_.Go.OpenSpec := { _root_.Go.OpenSpec.ofChange s with cond := some uptoSmall }

/-- 'baileelaw07.CutterEnds', WHERE WHAT IT READS IS OF BULK AT MOST 1048576: true; the input reads as it did. -/
def cutterEndsUptoRow : OpenClaim := { program := "ytogbalmfojkgnaa", sum := "13ba9312d23f43c119df30c5587bd1c90ac31f7b53cb4fb4285d903373a159fa", func := "bailee/baileelaw07.CutterEnds", spec := "cutterEnds", apart := false, narrowed := true }
def CutterEndsUptoSaid : Prop := cutterEndsUptoRow.holds Try.pinned (OpenSpec.upto cutterEndsSpec)

/-- 'baileelaw07.CutterAll', WHERE WHAT IT READS IS OF BULK AT MOST 1048576: true; the input reads as it did. -/
def cutterAllUptoRow : OpenClaim := { program := "ytogbalmfojkgnaa", sum := "13ba9312d23f43c119df30c5587bd1c90ac31f7b53cb4fb4285d903373a159fa", func := "bailee/baileelaw07.CutterAll", spec := "cutterAll", apart := false, narrowed := true }
def CutterAllUptoSaid : Prop := cutterAllUptoRow.holds Try.pinned (OpenSpec.upto cutterAllSpec)

/-- 'baileelaw07.CutterAlike', WHERE WHAT IT READS IS OF BULK AT MOST 1048576: true; the input reads as it did. -/
def cutterAlikeUptoRow : OpenClaim := { program := "ytogbalmfojkgnaa", sum := "13ba9312d23f43c119df30c5587bd1c90ac31f7b53cb4fb4285d903373a159fa", func := "bailee/baileelaw07.CutterAlike", spec := "cutterAlike", apart := false, narrowed := true }
def CutterAlikeUptoSaid : Prop := cutterAlikeUptoRow.holds Try.pinned (OpenSpec.upto cutterAlikeSpec)

/-- 'baileelaw07.CutterFront', WHERE WHAT IT READS IS OF BULK AT MOST 1048576: true; the input reads as it did. -/
def cutterFrontUptoRow : OpenClaim := { program := "ytogbalmfojkgnaa", sum := "13ba9312d23f43c119df30c5587bd1c90ac31f7b53cb4fb4285d903373a159fa", func := "bailee/baileelaw07.CutterFront", spec := "cutterFront", apart := false, narrowed := true }
def CutterFrontUptoSaid : Prop := cutterFrontUptoRow.holds Try.pinned (OpenSpec.upto cutterFrontSpec)

/-- 'baileelaw07.CutterAlone', WHERE WHAT IT READS IS OF BULK AT MOST 1048576: true; the input reads as it did. -/
def cutterAloneUptoRow : OpenClaim := { program := "ytogbalmfojkgnaa", sum := "13ba9312d23f43c119df30c5587bd1c90ac31f7b53cb4fb4285d903373a159fa", func := "bailee/baileelaw07.CutterAlone", spec := "cutterAlone", apart := false, narrowed := true }
def CutterAloneUptoSaid : Prop := cutterAloneUptoRow.holds Try.pinned (OpenSpec.upto cutterAloneSpec)

end Rows
end Go.Proofs.Ytogbalmfojkgnaa
