-- PRINTED anew over substituted functions by hook.py
import Derived.Test.YtlcanfniphdelaaDoorPCodx0
import Derived.Test.YtlcanfniphdelaaDoorPCodx1
import Derived.Test.YtlcanfniphdelaaDoorPCodx2
namespace Go.Proofs.YtlcanfniphdelaaDoor.PCod
open Go.RowKit Go.Proofs.YtlcanfniphdelaaDoorW.PrintWords Go.Proofs.YtlcanfniphdelaaDoorW.PrintLast Go.Proofs.YtlcanfniphdelaaDoorW.PrintMore
attribute [local go_sem] max2_int min2_int max_two min_two max_three min_three max_four min_four   -- for this text's walks alone
set_option linter.unusedVariables false
set_option linter.unusedSimpArgs false

end Go.Proofs.YtlcanfniphdelaaDoor.PCod
