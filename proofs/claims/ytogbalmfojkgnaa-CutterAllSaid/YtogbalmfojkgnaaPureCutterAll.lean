/- The pure statement of the law CutterAll: proved by lists alone (CutLaws). -/
import Derived.Test.YtogbalmfojkgnaaCutLaws
namespace Go.Proofs.Ytogbalmfojkgnaa.Pure
open Go.Proofs.Ytogbalmfojkgnaa.PCut
theorem CutterAll : baileelaw07_CutterAll.Pure := CutPure.CutterAll
end Go.Proofs.Ytogbalmfojkgnaa.Pure
