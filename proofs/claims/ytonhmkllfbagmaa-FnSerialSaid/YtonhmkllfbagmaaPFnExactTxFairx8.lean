-- Written by a program of this session (wip/print2.sh) out of the translation.
import Derived.Test.YtonhmkllfbagmaaPFnExactTxFairx0
import Derived.Test.YtonhmkllfbagmaaPFnExactTxFairx2
import Derived.Test.YtonhmkllfbagmaaPFnExactTxFairx4
namespace Go.Proofs.Ytonhmkllfbagmaa.PFnExactTxFair
open Go.RowKit Go.Proofs.YtonhmkllfbagmaaW.PrintWords Go.Proofs.YtonhmkllfbagmaaW.PrintLast Go.Proofs.YtonhmkllfbagmaaW.PrintMore
attribute [local go_sem] max2_int min2_int max_two min_two max_three min_three max_four min_four   -- for this text's walks alone
set_option linter.unusedVariables false
set_option linter.unusedSimpArgs false

-- STUB: function 36 (slices_Clone_int_int): see YtonhmkllfbagmaaSFnExactTxFair

-- NOT PRINTED: function 62 (impl_attempt_again)

-- NOT PRINTED: function 42 (impl_ledgerOf)

-- NOT PRINTED: function 43 (impl_ledger_isDone)

-- NOT PRINTED: function 64 (impl_ledger_free)

-- NOT PRINTED: function 65 (impl_ledger_say)

-- NOT PRINTED: function 63 (impl_ledger_giveUp)

-- NOT PRINTED: function 66 (impl_ledger_own)

-- NOT PRINTED: function 67 (impl_ledger_read)

-- NOT PRINTED: function 44 (impl_ledger_goOn)

-- NOT PRINTED: function 45 (impl_ledger_log)

-- NOT PRINTED: function 21 (impl_TxFair)

/-! ### laws_eqTxEvent: function 68 -/
/-! ### laws_eqTxEventS: function 46 -/
/-! ### laws_eqTxLog: function 22 -/
/-! ### laws_markTxEventS: function 47 -/
/-! ### laws_markTxLog: function 23 -/
end Go.Proofs.Ytonhmkllfbagmaa.PFnExactTxFair
