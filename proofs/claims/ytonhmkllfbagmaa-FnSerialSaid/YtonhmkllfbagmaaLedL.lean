/- Transactions: the program's TxFair. -/
import Derived.Test.YtonhmkllfbagmaaLedK
import Derived.Test.YtonhmkllfbagmaaRunK
import Derived.Test.YtonhmkllfbagmaaPFnExactTxFairx7
namespace Go.Proofs.Ytonhmkllfbagmaa.Tx
open Go.RowKit Go.Proofs.YtonhmkllfbagmaaW.PrintWords Go.Proofs.YtonhmkllfbagmaaW.PrintLast Go.Proofs.YtonhmkllfbagmaaW.PrintMore Go.Proofs.Ytonhmkllfbagmaa.PFnExactTxFair
set_option linter.unusedVariables false
set_option linter.unusedSimpArgs false
theorem Led.kept {P : LPar} {w0 w w' : World} {D : LDyn} {S : St} (h : Led P w0 w D S) {v : Value} (hk : ∀ b, v.ownBlock = some b → OutL P D b) (hg : w.grownBy w' v.ownBlock) (hB : Below w0.heap.size w0 w') : Led P w0 w' D S :=
  ⟨fun j hj => atJ_move (h.at_ j hj) rfl (hg.block _ (h.lt j hj) (fun e => (hk _ e.symm).1 j hj rfl)) (by cases j <;> first | rfl | exact fun _ _ => rfl), h.ge, h.inj, Kd.R_reok rfl (Kd.R_step (ok := fun b => D.V.ownBlock = some b) (Kd.R_reok rfl h.ev (fun b hb => hb)) (fun b hb hlt => hg.block b hlt (fun e => (hk b e.symm).2 hb.symm))) (fun b hb => h.ev.1 b hb), h.sw, hB⟩
end Go.Proofs.Ytonhmkllfbagmaa.Tx
