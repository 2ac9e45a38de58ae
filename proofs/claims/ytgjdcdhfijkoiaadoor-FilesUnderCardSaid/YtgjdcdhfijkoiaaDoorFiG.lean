/- FilesChecks walked. -/
import Derived.Test.YtgjdcdhfijkoiaaDoorFiF
namespace Go.Proofs.YtgjdcdhfijkoiaaDoor.Str
open Go.RowKit Go.Proofs.YtgjdcdhfijkoiaaDoorW.PrintWords Go.Proofs.YtgjdcdhfijkoiaaDoorW.PrintLast Go.Proofs.YtgjdcdhfijkoiaaDoorW.PrintMore Go.Proofs.YtgjdcdhfijkoiaaDoor.Mem Go.Proofs.YtgjdcdhfijkoiaaDoor.PCod Go.Proofs.YtgjdcdhfijkoiaaDoor.Cod Go.Proofs.YtgjdcdhfijkoiaaDoor.Conv
set_option linter.unusedVariables false
set_option linter.unusedSimpArgs false
/-- The files, as the calls hand them on. -/
structure Ck (w : World) (A : Option Addr) (n c : Nat) (l : List FS) (ck : Int) (xs : List Int) : Prop where
  fo : ∀ W, Below w.heap.size w W → Calls Tryd.prog 15 #[.slice A n c] W fun e w' => ∃ v, e = .returned v ∧ Kd.R k80 80 w' W.heap.size (fun _ => True) v (l.map toF) ∧ Below W.heap.size W w'
  put : ∀ W, Below w.heap.size w W → Calls Tryd.prog 16 #[.slice A n c] W fun e w' => ∃ v, e = .returned (.tuple #[v, .int .i64 ck]) ∧ Kd.R (Kd.int .u8) 5 w' W.heap.size (fun _ => True) v xs ∧ Below W.heap.size W w'
  rput : ∀ W B d, Kd.C k80 W B n (l.map toF) → n ≤ d → Calls Tryd.prog 17 #[.slice B n d] W fun e w' => e = .returned (.tuple #[.string (S xs), .int .i64 ck]) ∧ Below W.heap.size W w'
  chk : ∀ W, Below w.heap.size w W → Calls Tryd.prog 20 #[.slice A n c] W fun e w' => e = .returned (.int .i64 ck) ∧ Below W.heap.size W w'
  rchk : ∀ W B d, Kd.C k80 W B n (l.map toF) → n ≤ d → Calls Tryd.prog 21 #[.slice B n d] W fun e w' => e = .returned (.int .i64 ck) ∧ Below W.heap.size W w'
  get : ck = 0 → ∀ W B d, Kd.C (Kd.int .u8) W B xs.length xs → xs.length ≤ d → Calls Tryd.prog 22 #[.slice B xs.length d] W fun e w' => ∃ v, e = .returned (.tuple #[v, .int .i64 0]) ∧ Kd.R k50 50 w' W.heap.size (fun _ => True) v l ∧ Below W.heap.size W w'
  same : ∀ W B d, Below w.heap.size w W → Kd.C k50 W B n l → n ≤ d → Calls Tryd.prog 23 #[.slice B n d, .slice A n c] W fun e w' => e = .returned (.bool true) ∧ Below W.heap.size W w'
section
variable {w : World} {A : Option Addr} {c : Nat} {l : List FS}
end
end Go.Proofs.YtgjdcdhfijkoiaaDoor.Str
