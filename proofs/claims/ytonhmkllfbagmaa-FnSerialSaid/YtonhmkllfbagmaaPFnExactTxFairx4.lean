-- Written by a program of this session (wip/print2.sh) out of the translation.
import Derived.Test.YtonhmkllfbagmaaPFnExactTxFairx0
namespace Go.Proofs.Ytonhmkllfbagmaa.PFnExactTxFair
open Go.RowKit Go.Proofs.YtonhmkllfbagmaaW.PrintWords Go.Proofs.YtonhmkllfbagmaaW.PrintLast Go.Proofs.YtonhmkllfbagmaaW.PrintMore
attribute [local go_sem] max2_int min2_int max_two min_two max_three min_three max_four min_four   -- for this text's walks alone
set_option linter.unusedVariables false
set_option linter.unusedSimpArgs false

/-! ### laws_markIntS: function 18 -/
/-! ### laws_markTxOpS: function 73 -/
-- NOT PRINTED: function 55 (laws_markTxOpSS)

-- NOT PRINTED: function 37 (laws_markTxOpSSS)

-- NOT PRINTED: function 17 (laws_markTxProg)

/-! ### laws_heldIntS: function 19 -/
end Go.Proofs.Ytonhmkllfbagmaa.PFnExactTxFair
