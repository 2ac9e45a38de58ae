-- PRINTED anew over substituted functions by hook.py
import Derived.Test.YtlcanfniphdelaaPCodx0
import Derived.Test.YtlcanfniphdelaaPCodx1
import Derived.Test.YtlcanfniphdelaaPCodx2
namespace Go.Proofs.Ytlcanfniphdelaa.PCod
open Go.RowKit Go.Proofs.YtlcanfniphdelaaW.PrintWords Go.Proofs.YtlcanfniphdelaaW.PrintLast Go.Proofs.YtlcanfniphdelaaW.PrintMore
attribute [local go_sem] max2_int min2_int max_two min_two max_three min_three max_four min_four   -- for this text's walks alone
set_option linter.unusedVariables false
set_option linter.unusedSimpArgs false

end Go.Proofs.Ytlcanfniphdelaa.PCod
