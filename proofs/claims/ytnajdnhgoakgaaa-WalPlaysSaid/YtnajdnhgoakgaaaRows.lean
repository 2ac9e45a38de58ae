/-
  No cell of these rows narrows 'for every input' (looked for: loops, veiled, ifaces, maps, wideKeys, modest, calm, conditions, laid).
  DERIVED. THE GIVEN ROWS OF THIS SEAT. 10 by the template 'for every input the law returns true; each argument reads behind the call as it read before'; 0 by the template 'total and deterministic' (their statements: YtnajdnhgoakgaaaTotals.lean).
  GIVEN WITH THE SEED: the statements are not yours to turn. If you find one false, say at which input.
  Laid BY PROGRAM, IN A SANDBOX (cutbox-rows.mjs): the forced cells as the released guide's own fill.sh prints them over the translation d90d939bca99d9de… (all of the seat's roots in one cut). By AI agents, Wed Nov 11 2026. No macro, syntax, notation, axiom, sorry.
-/
import Derived.Test.YtnajdnhgoakgaaaChecked
import GoSem.Claim
import GoSem.ClaimJoined
import GoSem.ClaimMapViews
import Derived.JoinedTies
import Derived.KernelRfl
namespace Go.Proofs.Ytnajdnhgoakgaaa
/- THE CELL 'sum', in the pinned program and in every row, IS THE sha256 OF THE DUMP (.gsa) THAT YtnajdnhgoakgaaaProg.lean LOADS. Nothing in Lean hashes anything: it is a label: what it is worth is what the hold of that sum in a sandbox is worth. -/
noncomputable def Try.pinned : Pinned := { name := "ytnajdnhgoakgaaa", sum := "d90d939bca99d9de41f0af04aca8ec25e4af88bd9d411cfcc154f9c38bb96a78", checked := Try.checked }
namespace Rows
def none {H : Type} : Left H := { results := [], args := [] }

/-- 'baileelaw08.BlocksPlays': WHATEVER THE INPUT: true; the input reads as it did. -/
def blocksPlaysSpec : ChangeSpec := { name := "blocksPlays", fn := fun _ => fun
  | [d1, d2] => { results := [.lit (.bool true)], args := [d1, d2] }
  | _ => none }
def blocksPlaysRow : OpenClaim := { program := "ytnajdnhgoakgaaa", sum := "d90d939bca99d9de41f0af04aca8ec25e4af88bd9d411cfcc154f9c38bb96a78", func := "bailee/baileelaw08.BlocksPlays", spec := "blocksPlays", apart := false }
def BlocksPlaysSaid : Prop := blocksPlaysRow.holds Try.pinned (OpenSpec.ofChange blocksPlaysSpec)

/-- ITS FALSE NEIGHBOUR: 'it returns false'. Refute it at one input. -/
def blocksPlaysWrong : ChangeSpec := { name := "blocksPlays", fn := fun _ => fun
  | [d1, d2] => { results := [.lit (.bool false)], args := [d1, d2] }
  | _ => none }
def BlocksPlaysWrongFalsely : Prop := blocksPlaysRow.holds Try.pinned (OpenSpec.ofChange blocksPlaysWrong)

/-- 'baileelaw08.BlocksTorn': WHATEVER THE INPUT: true; the input reads as it did. -/
def blocksTornSpec : ChangeSpec := { name := "blocksTorn", fn := fun _ => fun
  | [d1, d2, d3, d4] => { results := [.lit (.bool true)], args := [d1, d2, d3, d4] }
  | _ => none }
def blocksTornRow : OpenClaim := { program := "ytnajdnhgoakgaaa", sum := "d90d939bca99d9de41f0af04aca8ec25e4af88bd9d411cfcc154f9c38bb96a78", func := "bailee/baileelaw08.BlocksTorn", spec := "blocksTorn", apart := false }
def BlocksTornSaid : Prop := blocksTornRow.holds Try.pinned (OpenSpec.ofChange blocksTornSpec)

/-- ITS FALSE NEIGHBOUR: 'it returns false'. Refute it at one input. -/
def blocksTornWrong : ChangeSpec := { name := "blocksTorn", fn := fun _ => fun
  | [d1, d2, d3, d4] => { results := [.lit (.bool false)], args := [d1, d2, d3, d4] }
  | _ => none }
def BlocksTornWrongFalsely : Prop := blocksTornRow.holds Try.pinned (OpenSpec.ofChange blocksTornWrong)

/-- 'baileelaw08.BlocksOwn': WHATEVER THE INPUT: true; the input reads as it did. -/
def blocksOwnSpec : ChangeSpec := { name := "blocksOwn", fn := fun _ => fun
  | [d1, d2, d3, d4] => { results := [.lit (.bool true)], args := [d1, d2, d3, d4] }
  | _ => none }
def blocksOwnRow : OpenClaim := { program := "ytnajdnhgoakgaaa", sum := "d90d939bca99d9de41f0af04aca8ec25e4af88bd9d411cfcc154f9c38bb96a78", func := "bailee/baileelaw08.BlocksOwn", spec := "blocksOwn", apart := false }
def BlocksOwnSaid : Prop := blocksOwnRow.holds Try.pinned (OpenSpec.ofChange blocksOwnSpec)

/-- ITS FALSE NEIGHBOUR: 'it returns false'. Refute it at one input. -/
def blocksOwnWrong : ChangeSpec := { name := "blocksOwn", fn := fun _ => fun
  | [d1, d2, d3, d4] => { results := [.lit (.bool false)], args := [d1, d2, d3, d4] }
  | _ => none }
def BlocksOwnWrongFalsely : Prop := blocksOwnRow.holds Try.pinned (OpenSpec.ofChange blocksOwnWrong)

/-- 'baileelaw08.BlocksDown': WHATEVER THE INPUT: true; the input reads as it did. -/
def blocksDownSpec : ChangeSpec := { name := "blocksDown", fn := fun _ => fun
  | [d1, d2, d3, d4] => { results := [.lit (.bool true)], args := [d1, d2, d3, d4] }
  | _ => none }
def blocksDownRow : OpenClaim := { program := "ytnajdnhgoakgaaa", sum := "d90d939bca99d9de41f0af04aca8ec25e4af88bd9d411cfcc154f9c38bb96a78", func := "bailee/baileelaw08.BlocksDown", spec := "blocksDown", apart := false }
def BlocksDownSaid : Prop := blocksDownRow.holds Try.pinned (OpenSpec.ofChange blocksDownSpec)

/-- ITS FALSE NEIGHBOUR: 'it returns false'. Refute it at one input. -/
def blocksDownWrong : ChangeSpec := { name := "blocksDown", fn := fun _ => fun
  | [d1, d2, d3, d4] => { results := [.lit (.bool false)], args := [d1, d2, d3, d4] }
  | _ => none }
def BlocksDownWrongFalsely : Prop := blocksDownRow.holds Try.pinned (OpenSpec.ofChange blocksDownWrong)

/-- 'baileelaw09.WalNone': WHATEVER THE INPUT: true; the input reads as it did. -/
def walNoneSpec : ChangeSpec := { name := "walNone", fn := fun _ => fun
  | [d1, d2, d3] => { results := [.lit (.bool true)], args := [d1, d2, d3] }
  | _ => none }
def walNoneRow : OpenClaim := { program := "ytnajdnhgoakgaaa", sum := "d90d939bca99d9de41f0af04aca8ec25e4af88bd9d411cfcc154f9c38bb96a78", func := "bailee/baileelaw09.WalNone", spec := "walNone", unfollowed := true, recurses := true, apart := false }
def WalNoneSaid : Prop := walNoneRow.holds Try.pinned (OpenSpec.ofChange walNoneSpec)

/-- ITS FALSE NEIGHBOUR: 'it returns false'. Refute it at one input. -/
def walNoneWrong : ChangeSpec := { name := "walNone", fn := fun _ => fun
  | [d1, d2, d3] => { results := [.lit (.bool false)], args := [d1, d2, d3] }
  | _ => none }
def WalNoneWrongFalsely : Prop := walNoneRow.holds Try.pinned (OpenSpec.ofChange walNoneWrong)

/-- 'baileelaw09.WalRow': WHATEVER THE INPUT: true; the input reads as it did. -/
def walRowSpec : ChangeSpec := { name := "walRow", fn := fun _ => fun
  | [d1, d2] => { results := [.lit (.bool true)], args := [d1, d2] }
  | _ => none }
def walRowRow : OpenClaim := { program := "ytnajdnhgoakgaaa", sum := "d90d939bca99d9de41f0af04aca8ec25e4af88bd9d411cfcc154f9c38bb96a78", func := "bailee/baileelaw09.WalRow", spec := "walRow", unfollowed := true, recurses := true, apart := false }
def WalRowSaid : Prop := walRowRow.holds Try.pinned (OpenSpec.ofChange walRowSpec)

/-- ITS FALSE NEIGHBOUR: 'it returns false'. Refute it at one input. -/
def walRowWrong : ChangeSpec := { name := "walRow", fn := fun _ => fun
  | [d1, d2] => { results := [.lit (.bool false)], args := [d1, d2] }
  | _ => none }
def WalRowWrongFalsely : Prop := walRowRow.holds Try.pinned (OpenSpec.ofChange walRowWrong)

/-- 'baileelaw09.WalAgain': WHATEVER THE INPUT: true; the input reads as it did. -/
def walAgainSpec : ChangeSpec := { name := "walAgain", fn := fun _ => fun
  | [d1, d2, d3] => { results := [.lit (.bool true)], args := [d1, d2, d3] }
  | _ => none }
def walAgainRow : OpenClaim := { program := "ytnajdnhgoakgaaa", sum := "d90d939bca99d9de41f0af04aca8ec25e4af88bd9d411cfcc154f9c38bb96a78", func := "bailee/baileelaw09.WalAgain", spec := "walAgain", unfollowed := true, recurses := true, apart := false }
def WalAgainSaid : Prop := walAgainRow.holds Try.pinned (OpenSpec.ofChange walAgainSpec)

/-- ITS FALSE NEIGHBOUR: 'it returns false'. Refute it at one input. -/
def walAgainWrong : ChangeSpec := { name := "walAgain", fn := fun _ => fun
  | [d1, d2, d3] => { results := [.lit (.bool false)], args := [d1, d2, d3] }
  | _ => none }
def WalAgainWrongFalsely : Prop := walAgainRow.holds Try.pinned (OpenSpec.ofChange walAgainWrong)

/-- 'baileelaw09.WalBlocks': WHATEVER THE INPUT: true; the input reads as it did. -/
def walBlocksSpec : ChangeSpec := { name := "walBlocks", fn := fun _ => fun
  | [d1, d2, d3, d4, d5, d6, d7] => { results := [.lit (.bool true)], args := [d1, d2, d3, d4, d5, d6, d7] }
  | _ => none }
def walBlocksRow : OpenClaim := { program := "ytnajdnhgoakgaaa", sum := "d90d939bca99d9de41f0af04aca8ec25e4af88bd9d411cfcc154f9c38bb96a78", func := "bailee/baileelaw09.WalBlocks", spec := "walBlocks", unfollowed := true, recurses := true, apart := false }
def WalBlocksSaid : Prop := walBlocksRow.holds Try.pinned (OpenSpec.ofChange walBlocksSpec)

/-- ITS FALSE NEIGHBOUR: 'it returns false'. Refute it at one input. -/
def walBlocksWrong : ChangeSpec := { name := "walBlocks", fn := fun _ => fun
  | [d1, d2, d3, d4, d5, d6, d7] => { results := [.lit (.bool false)], args := [d1, d2, d3, d4, d5, d6, d7] }
  | _ => none }
def WalBlocksWrongFalsely : Prop := walBlocksRow.holds Try.pinned (OpenSpec.ofChange walBlocksWrong)

/-- 'baileelaw09.WalTorn': WHATEVER THE INPUT: true; the input reads as it did. -/
def walTornSpec : ChangeSpec := { name := "walTorn", fn := fun _ => fun
  | [d1, d2, d3] => { results := [.lit (.bool true)], args := [d1, d2, d3] }
  | _ => none }
def walTornRow : OpenClaim := { program := "ytnajdnhgoakgaaa", sum := "d90d939bca99d9de41f0af04aca8ec25e4af88bd9d411cfcc154f9c38bb96a78", func := "bailee/baileelaw09.WalTorn", spec := "walTorn", unfollowed := true, recurses := true, apart := false }
def WalTornSaid : Prop := walTornRow.holds Try.pinned (OpenSpec.ofChange walTornSpec)

/-- ITS FALSE NEIGHBOUR: 'it returns false'. Refute it at one input. -/
def walTornWrong : ChangeSpec := { name := "walTorn", fn := fun _ => fun
  | [d1, d2, d3] => { results := [.lit (.bool false)], args := [d1, d2, d3] }
  | _ => none }
def WalTornWrongFalsely : Prop := walTornRow.holds Try.pinned (OpenSpec.ofChange walTornWrong)

/-- 'baileelaw09.WalPlays': WHATEVER THE INPUT: true; the input reads as it did. -/
def walPlaysSpec : ChangeSpec := { name := "walPlays", fn := fun _ => fun
  | [d1, d2, d3, d4] => { results := [.lit (.bool true)], args := [d1, d2, d3, d4] }
  | _ => none }
def walPlaysRow : OpenClaim := { program := "ytnajdnhgoakgaaa", sum := "d90d939bca99d9de41f0af04aca8ec25e4af88bd9d411cfcc154f9c38bb96a78", func := "bailee/baileelaw09.WalPlays", spec := "walPlays", unfollowed := true, recurses := true, apart := false }
def WalPlaysSaid : Prop := walPlaysRow.holds Try.pinned (OpenSpec.ofChange walPlaysSpec)

/-- ITS FALSE NEIGHBOUR: 'it returns false'. Refute it at one input. -/
def walPlaysWrong : ChangeSpec := { name := "walPlays", fn := fun _ => fun
  | [d1, d2, d3, d4] => { results := [.lit (.bool false)], args := [d1, d2, d3, d4] }
  | _ => none }
def WalPlaysWrongFalsely : Prop := walPlaysRow.holds Try.pinned (OpenSpec.ofChange walPlaysWrong)

/- THE SECOND FORM. 'bulk': how many values and letters a reading holds, each counted each time it is reached (what is shared counts as often as it is met; a slice's spare places count too). A statement '..UptoSaid' is the law's where the arguments, and the package variables that the reading takes, are together of bulk at most 1048576: NARROWER than '..Said'. Prove '..Said' where nothing that the law and all that it calls make is longer than what came in: it says more and counts as full. Else prove '..UptoSaid'. A law counts once. -/
mutual
def uptoBulk {H : Type} : DataW H → Nat
  | .lit (.string bytes) => bytes.length + 1
  | .lit _ => 1
  | .nil => 1
  | .ptr d => uptoBulk d + 1
  | .slice elems spare => uptoBulkAll elems + uptoBulkAll spare + 1
  | .agg parts => uptoBulkAll parts + 1
  | .iface _ d => uptoBulk d + 1
  | .map entries => uptoBulkEntries entries + 1
  | .held _ => 1
def uptoBulkAll {H : Type} : List (DataW H) → Nat
  | [] => 0
  | d :: r => uptoBulk d + uptoBulkAll r
def uptoBulkEntries {H : Type} : List (Lit × DataW H) → Nat
  | [] => 0
  | x :: r => uptoBulkEntry x + uptoBulkEntries r
def uptoBulkEntry {H : Type} : Lit × DataW H → Nat
  | (.string bytes, d) => bytes.length + uptoBulk d + 1
  | (_, d) => uptoBulk d + 1
 end
def uptoSmall : (H : Type) → List (DataW H) → Bool := fun _ ds => decide (uptoBulkAll ds ≤ 1048576)
def OpenSpec.upto (s : _root_.Go.ChangeSpec) : _root_.Go.OpenSpec := { _root_.Go.OpenSpec.ofChange s with cond := some uptoSmall }

/-- 'baileelaw08.BlocksPlays', WHERE WHAT IT READS IS OF BULK AT MOST 1048576: true; the input reads as it did. -/
def blocksPlaysUptoRow : OpenClaim := { program := "ytnajdnhgoakgaaa", sum := "d90d939bca99d9de41f0af04aca8ec25e4af88bd9d411cfcc154f9c38bb96a78", func := "bailee/baileelaw08.BlocksPlays", spec := "blocksPlays", apart := false, narrowed := true }
def BlocksPlaysUptoSaid : Prop := blocksPlaysUptoRow.holds Try.pinned (OpenSpec.upto blocksPlaysSpec)

/-- 'baileelaw08.BlocksTorn', WHERE WHAT IT READS IS OF BULK AT MOST 1048576: true; the input reads as it did. -/
def blocksTornUptoRow : OpenClaim := { program := "ytnajdnhgoakgaaa", sum := "d90d939bca99d9de41f0af04aca8ec25e4af88bd9d411cfcc154f9c38bb96a78", func := "bailee/baileelaw08.BlocksTorn", spec := "blocksTorn", apart := false, narrowed := true }
def BlocksTornUptoSaid : Prop := blocksTornUptoRow.holds Try.pinned (OpenSpec.upto blocksTornSpec)

/-- 'baileelaw08.BlocksOwn', WHERE WHAT IT READS IS OF BULK AT MOST 1048576: true; the input reads as it did. -/
def blocksOwnUptoRow : OpenClaim := { program := "ytnajdnhgoakgaaa", sum := "d90d939bca99d9de41f0af04aca8ec25e4af88bd9d411cfcc154f9c38bb96a78", func := "bailee/baileelaw08.BlocksOwn", spec := "blocksOwn", apart := false, narrowed := true }
def BlocksOwnUptoSaid : Prop := blocksOwnUptoRow.holds Try.pinned (OpenSpec.upto blocksOwnSpec)

/-- 'baileelaw08.BlocksDown', WHERE WHAT IT READS IS OF BULK AT MOST 1048576: true; the input reads as it did. -/
def blocksDownUptoRow : OpenClaim := { program := "ytnajdnhgoakgaaa", sum := "d90d939bca99d9de41f0af04aca8ec25e4af88bd9d411cfcc154f9c38bb96a78", func := "bailee/baileelaw08.BlocksDown", spec := "blocksDown", apart := false, narrowed := true }
def BlocksDownUptoSaid : Prop := blocksDownUptoRow.holds Try.pinned (OpenSpec.upto blocksDownSpec)

/-- 'baileelaw09.WalNone', WHERE WHAT IT READS IS OF BULK AT MOST 1048576: true; the input reads as it did. -/
def walNoneUptoRow : OpenClaim := { program := "ytnajdnhgoakgaaa", sum := "d90d939bca99d9de41f0af04aca8ec25e4af88bd9d411cfcc154f9c38bb96a78", func := "bailee/baileelaw09.WalNone", spec := "walNone", unfollowed := true, recurses := true, apart := false, narrowed := true }
def WalNoneUptoSaid : Prop := walNoneUptoRow.holds Try.pinned (OpenSpec.upto walNoneSpec)

/-- 'baileelaw09.WalRow', WHERE WHAT IT READS IS OF BULK AT MOST 1048576: true; the input reads as it did. -/
def walRowUptoRow : OpenClaim := { program := "ytnajdnhgoakgaaa", sum := "d90d939bca99d9de41f0af04aca8ec25e4af88bd9d411cfcc154f9c38bb96a78", func := "bailee/baileelaw09.WalRow", spec := "walRow", unfollowed := true, recurses := true, apart := false, narrowed := true }
def WalRowUptoSaid : Prop := walRowUptoRow.holds Try.pinned (OpenSpec.upto walRowSpec)

/-- 'baileelaw09.WalAgain', WHERE WHAT IT READS IS OF BULK AT MOST 1048576: true; the input reads as it did. -/
def walAgainUptoRow : OpenClaim := { program := "ytnajdnhgoakgaaa", sum := "d90d939bca99d9de41f0af04aca8ec25e4af88bd9d411cfcc154f9c38bb96a78", func := "bailee/baileelaw09.WalAgain", spec := "walAgain", unfollowed := true, recurses := true, apart := false, narrowed := true }
def WalAgainUptoSaid : Prop := walAgainUptoRow.holds Try.pinned (OpenSpec.upto walAgainSpec)

/-- 'baileelaw09.WalBlocks', WHERE WHAT IT READS IS OF BULK AT MOST 1048576: true; the input reads as it did. -/
def walBlocksUptoRow : OpenClaim := { program := "ytnajdnhgoakgaaa", sum := "d90d939bca99d9de41f0af04aca8ec25e4af88bd9d411cfcc154f9c38bb96a78", func := "bailee/baileelaw09.WalBlocks", spec := "walBlocks", unfollowed := true, recurses := true, apart := false, narrowed := true }
def WalBlocksUptoSaid : Prop := walBlocksUptoRow.holds Try.pinned (OpenSpec.upto walBlocksSpec)

/-- 'baileelaw09.WalTorn', WHERE WHAT IT READS IS OF BULK AT MOST 1048576: true; the input reads as it did. -/
def walTornUptoRow : OpenClaim := { program := "ytnajdnhgoakgaaa", sum := "d90d939bca99d9de41f0af04aca8ec25e4af88bd9d411cfcc154f9c38bb96a78", func := "bailee/baileelaw09.WalTorn", spec := "walTorn", unfollowed := true, recurses := true, apart := false, narrowed := true }
def WalTornUptoSaid : Prop := walTornUptoRow.holds Try.pinned (OpenSpec.upto walTornSpec)

/-- 'baileelaw09.WalPlays', WHERE WHAT IT READS IS OF BULK AT MOST 1048576: true; the input reads as it did. -/
def walPlaysUptoRow : OpenClaim := { program := "ytnajdnhgoakgaaa", sum := "d90d939bca99d9de41f0af04aca8ec25e4af88bd9d411cfcc154f9c38bb96a78", func := "bailee/baileelaw09.WalPlays", spec := "walPlays", unfollowed := true, recurses := true, apart := false, narrowed := true }
def WalPlaysUptoSaid : Prop := walPlaysUptoRow.holds Try.pinned (OpenSpec.upto walPlaysSpec)

end Rows
end Go.Proofs.Ytnajdnhgoakgaaa
