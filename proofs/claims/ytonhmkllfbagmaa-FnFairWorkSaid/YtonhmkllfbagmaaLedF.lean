/- Transactions: the ledger's isDone. -/
import Derived.Test.YtonhmkllfbagmaaLedE
namespace Go.Proofs.Ytonhmkllfbagmaa.Tx
open Go.RowKit Go.Proofs.YtonhmkllfbagmaaW.PrintWords Go.Proofs.YtonhmkllfbagmaaW.PrintLast Go.Proofs.YtonhmkllfbagmaaW.PrintMore Go.Proofs.Ytonhmkllfbagmaa.PFnExactTxFair
set_option linter.unusedVariables false
set_option linter.unusedSimpArgs false
def PrgL (P : LPar) (w0 : World) (T : List (List (List S63))) : Prop := ∃ AV cV, P.vT = .slice AV T.length cV ∧ T.length ≤ cV ∧ Kd.C (Kd.slice 61 (Kd.slice 63 k63)) w0 AV T.length T ∧ T.length = P.n
theorem Led.thr {P : LPar} {w0 w : World} {D : LDyn} {S : St} {T : List (List (List S63))} (h : Led P w0 w D S) (hP : PrgL P w0 T) (i : Nat) (hi : i < P.n) : ∃ ad cV A0 c0, w.cell? ⟨D.blk .g, 2, none⟩ = some (.slice (some ad) P.n cV) ∧ w.cell? (ad.add i) = some (.slice A0 (thr T i).length c0) ∧ (thr T i).length ≤ c0 ∧ (Kd.slice 63 k63).C w A0 (thr T i).length (thr T i) := by
  obtain ⟨AV, cV, e, hc, hC, hn⟩ := hP
  obtain ⟨ad, A0, c0, rfl, h1, h2, h3⟩ := at_L6 (Kd.C_below hC h.below) (i : Int) (by omega) (by omega)
  have g2 := h.g 2 (by decide)
  simp only [gJ, e] at g2
  rw [hn] at g2
  exact ⟨ad, cV, A0, c0, g2, h1, h2, h3⟩
set_option maxHeartbeats 8000000 in
set_option maxRecDepth 100000 in
theorem isDoneL (P : LPar) (w0 w : World) (D : LDyn) (S : St) (T : List (List (List S63))) (i : Nat) (h : Led P w0 w D S) (hP : PrgL P w0 T) (hi : i < P.n) (hn : P.n ≤ 1000) :
    Calls Try.prog 43 #[.pointer (some ⟨D.blk .g, 0, none⟩), .int .i64 (i : Int)] w fun e w' => e = .returned (.bool (decide (S.tx i ≥ ((thr T i).length : Int)))) ∧ Led P w0 w' D S ∧ FrL P w w' D D := by
  have hin := eq_true (show (i : Int) < (P.n : Int) by omega)
  have hind := decide_eq_false (show ¬ (i : Int) ≥ (P.n : Int) by omega)
  have hi1 := decide_eq_false (show ¬ (i : Int) < 0 by omega)
  have g6 := h.g 6 (by decide)
  simp only [gJ] at g6
  have pi := h.p i hi
  have a0 := h.a i hi 0 (by decide)
  simp only [aJ] at a0
  obtain ⟨ad, cV, A0, c0, g2, l1, hl, hr⟩ := h.thr hP i hi
  obtain ⟨m, hm⟩ : ∃ m, (Tx.thr T i).length = m := ⟨_, rfl⟩
  rw [hm] at l1 ⊢
  have H := Lib.hid h
  clear h hr hl hm hP
  go_enter Try.func43, Try.ntmps43
  go_wp2_with fail
  go_quiet (fail)
  go_wp2_with fail
  go_ret
  refine ⟨?_, H.out.step (pw_below_drewN (Below.refl _ _) _), FrL.below D (pw_below_drewN (Below.refl _ _) _)⟩
  show Ending.returned (.bool (decide (P.n ≤ i) || decide ((m : Int) ≤ S.tx i))) = _
  rw [decide_eq_false (show ¬ P.n ≤ i by omega), Bool.false_or]
end Go.Proofs.Ytonhmkllfbagmaa.Tx
