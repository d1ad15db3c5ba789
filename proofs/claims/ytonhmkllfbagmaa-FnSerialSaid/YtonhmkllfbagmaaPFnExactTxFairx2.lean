-- Written by a program of this session (wip/print2.sh) out of the translation.
import Derived.Test.YtonhmkllfbagmaaPFnExactTxFairx0
import Derived.Test.YtonhmkllfbagmaaPFnExactTxFairx1
namespace Go.Proofs.Ytonhmkllfbagmaa.PFnExactTxFair
open Go.RowKit Go.Proofs.YtonhmkllfbagmaaW.PrintWords Go.Proofs.YtonhmkllfbagmaaW.PrintLast Go.Proofs.YtonhmkllfbagmaaW.PrintMore
attribute [local go_sem] max2_int min2_int max_two min_two max_three min_three max_four min_four   -- for this text's walks alone
set_option linter.unusedVariables false
set_option linter.unusedSimpArgs false

/-! ### laws_toTxOpSSS: function 33 -/
/-! ### laws_toTxProg: function 10 -/
/-! ### laws_eqIntS: function 16 -/
/-! ### laws_eqTxOp: function 76 -/
/-! ### laws_eqTxOpS: function 72 -/
end Go.Proofs.Ytonhmkllfbagmaa.PFnExactTxFair
