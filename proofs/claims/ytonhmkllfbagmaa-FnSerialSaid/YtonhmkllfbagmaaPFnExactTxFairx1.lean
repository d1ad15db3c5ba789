-- Written by a program of this session (wip/print2.sh) out of the translation.
import Derived.Test.YtonhmkllfbagmaaPFnExactTxFairx0
namespace Go.Proofs.Ytonhmkllfbagmaa.PFnExactTxFair
open Go.RowKit Go.Proofs.YtonhmkllfbagmaaW.PrintWords Go.Proofs.YtonhmkllfbagmaaW.PrintLast Go.Proofs.YtonhmkllfbagmaaW.PrintMore
attribute [local go_sem] max2_int min2_int max_two min_two max_three min_three max_four min_four   -- for this text's walks alone
set_option linter.unusedVariables false
set_option linter.unusedSimpArgs false

/-! ### laws_szIntS: function 31 -/
/-! ### laws_szTxOpS: function 70 -/
/-! ### laws_szTxOpSS: function 52 -/
/-! ### laws_szTxOpSSS: function 32 -/
/-! ### laws_szTxProg: function 8 -/
/-! ### laws_toIntS: function 14 -/
/-! ### laws_toTxOp: function 75 -/
/-! ### laws_toTxOpS: function 71 -/
/-! ### laws_toTxOpSS: function 53 -/
end Go.Proofs.Ytonhmkllfbagmaa.PFnExactTxFair
