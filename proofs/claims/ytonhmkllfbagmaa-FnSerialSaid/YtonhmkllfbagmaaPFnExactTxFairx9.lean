-- Written by a program of this session (wip/print2.sh) out of the translation.
import Derived.Test.YtonhmkllfbagmaaPFnExactTxFairx0
import Derived.Test.YtonhmkllfbagmaaPFnExactTxFairx4
namespace Go.Proofs.Ytonhmkllfbagmaa.PFnExactTxFair
open Go.RowKit Go.Proofs.YtonhmkllfbagmaaW.PrintWords Go.Proofs.YtonhmkllfbagmaaW.PrintLast Go.Proofs.YtonhmkllfbagmaaW.PrintMore
attribute [local go_sem] max2_int min2_int max_two min_two max_three min_three max_four min_four   -- for this text's walks alone
set_option linter.unusedVariables false
set_option linter.unusedSimpArgs false

/-! ### laws_heldTxEventS: function 48 -/
/-! ### laws_heldTxLog: function 24 -/
-- NOT PRINTED: function 5 (laws_FnExactTxFair)

end Go.Proofs.Ytonhmkllfbagmaa.PFnExactTxFair
