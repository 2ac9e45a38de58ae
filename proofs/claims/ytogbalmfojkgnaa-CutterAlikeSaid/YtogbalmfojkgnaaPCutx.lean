-- PRINTED anew over substituted functions by hook.py
import Derived.Test.YtogbalmfojkgnaaPCutx0
import Derived.Test.YtogbalmfojkgnaaPCutx1
import Derived.Test.YtogbalmfojkgnaaPCutx2
import Derived.Test.YtogbalmfojkgnaaPCutx3
import Derived.Test.YtogbalmfojkgnaaPCutx4
import Derived.Test.YtogbalmfojkgnaaPCutx5
import Derived.Test.YtogbalmfojkgnaaPCutx6
import Derived.Test.YtogbalmfojkgnaaPCutx7
import Derived.Test.YtogbalmfojkgnaaPCutx8
namespace Go.Proofs.Ytogbalmfojkgnaa.PCut
open Go.RowKit Go.Proofs.YtogbalmfojkgnaaW.PrintWords Go.Proofs.YtogbalmfojkgnaaW.PrintLast Go.Proofs.YtogbalmfojkgnaaW.PrintMore
attribute [local go_sem] max2_int min2_int max_two min_two max_three min_three max_four min_four   -- for this text's walks alone
set_option linter.unusedVariables false
set_option linter.unusedSimpArgs false

end Go.Proofs.Ytogbalmfojkgnaa.PCut
