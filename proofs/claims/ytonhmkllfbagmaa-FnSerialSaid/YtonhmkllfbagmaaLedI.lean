/- Transactions: the ledger's goOn as a go of the plain machine. -/
import Derived.Test.YtonhmkllfbagmaaLedH
namespace Go.Proofs.Ytonhmkllfbagmaa.Tx
open Go.RowKit Go.Proofs.YtonhmkllfbagmaaW.PrintWords Go.Proofs.YtonhmkllfbagmaaW.PrintLast Go.Proofs.YtonhmkllfbagmaaW.PrintMore Go.Proofs.Ytonhmkllfbagmaa.PFnExactTxFair
set_option linter.unusedVariables false
set_option linter.unusedSimpArgs false
theorem goOnL (P : LPar) (w0 w : World) (D : LDyn) (S : St) (T : List (List (List S63))) (i g : Nat) (hg : D.blk .g = g) (h : Led P w0 w D S) (hP : PrgL P w0 T) (hi : i < P.n) (hn : P.n ≤ 1000) (hnc : P.nc ≤ 1000) (hl : S.events.length ≤ 90000) (hman : 1 ≤ P.man ∧ P.man ≤ 4) (G : Good P.n T S) (ok : OpsOK P.n P.nc T) (htx : S.tx i < ((thr T i).length : Int)) (hv : ∀ c, S.vers c ≤ 1000000) :
    Calls Try.prog 44 #[.pointer (some ⟨g, 0, none⟩), .int .i64 (i : Int)] w fun e w' => e = .returned (.tuple #[]) ∧ ∃ D', D'.blk .g = g ∧ Led P w0 w' D' { stepS P.man P.nc T S i with goes := inc (stepS P.man P.nc T S i).goes } ∧ FrL P w w' D D' := by
  subst hg
  obtain ⟨SB, hSB⟩ : ∃ SB, SB = if S.begun i = true then S else begin_ S i := ⟨_, rfl⟩
  have hgo := (G.stepS ok P.man i hi htx hv).2.2.2
  have GB : Good P.n T SB := by
    rw [hSB]; split
    · exact G
    · exact G.begin_ i
  have hbB : SB.begun i = true := by
    rw [hSB]; split
    · assumption
    · exact up_self _ _ _
  have htB : SB.tx i < ((thr T i).length : Int) := by rw [hSB]; split <;> exact htx
  have e1 : step1 P.man P.nc T { SB with goes := inc S.goes } i = { stepS P.man P.nc T S i with goes := inc (stepS P.man P.nc T S i).goes } := by
    rw [step1_goes, hgo]
    unfold stepS
    rw [← hSB]
  rw [← e1]
  rcases hst : S.started i with _ | _
  · refine (goOn_fresh P w0 w D S SB T i h hP hi hn hnc hl hman hst hSB GB ok htB hbB (G.st i)).mono ?_
    rintro e w' ⟨he, D', kd, hL, hF⟩
    exact ⟨he, D', kd.1, hL, hF⟩
  · refine (goOn_started P w0 w D S SB T i h hP hi hn hnc hl hman hst hSB GB ok htB hbB (G.st i)).mono ?_
    rintro e w' ⟨he, D', kd, hL, hF⟩
    exact ⟨he, D', kd.1, hL, hF⟩
end Go.Proofs.Ytonhmkllfbagmaa.Tx
