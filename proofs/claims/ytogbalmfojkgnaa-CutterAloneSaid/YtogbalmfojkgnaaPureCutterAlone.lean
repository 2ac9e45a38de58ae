/- The pure statement of the law CutterAlone: proved by lists alone (CutLaws). -/
import Derived.Test.YtogbalmfojkgnaaCutLaws
namespace Go.Proofs.Ytogbalmfojkgnaa.Pure
open Go.Proofs.Ytogbalmfojkgnaa.PCut
theorem CutterAlone : baileelaw07_CutterAlone.Pure := CutPure.CutterAlone
end Go.Proofs.Ytogbalmfojkgnaa.Pure
