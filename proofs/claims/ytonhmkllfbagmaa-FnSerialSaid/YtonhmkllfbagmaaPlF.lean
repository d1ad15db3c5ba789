/- Transactions: every schedule is serial, along a run. Plain. -/
import Derived.Test.YtonhmkllfbagmaaPlE
namespace Go.Proofs.Ytonhmkllfbagmaa.Tx
open Go.RowKit Go.Proofs.YtonhmkllfbagmaaW.PrintWords Go.Proofs.Ytonhmkllfbagmaa.PFnExactTxFair
set_option linter.unusedVariables false
set_option linter.unusedSimpArgs false
theorem ti0 (n nc : Nat) (T : List (List (List S63))) (C : List Int) : TI n nc T (fun k => C.getD k 0) (st0 C) :=
  ⟨rfl, fun _ => rfl, fun j h => absurd h (Nat.not_lt_zero j), fun t x y _ e he => (by cases he), fun t x y _ => ⟨rfl, 0, Nat.le_refl _, fun p hp => (by cases hp)⟩, fun t ht => (by cases ht), fun t => ⟨Int.le_refl _, Int.le_refl _⟩⟩
theorem TI.run {n nc : Nat} {T : List (List (List S63))} {man : Int} {C : List Int} {L : List Int} (h0 : RG n T 0 (st0 C)) (ok : OpsOK n nc T) (hL : Lg n man nc T (st0 C) L) (hl : L.length ≤ 1000) : ∀ k, k ≤ L.length → TI n nc T (fun k => C.getD k 0) (runN man nc T (st0 C) L k)
  | 0, _ => ti0 n nc T C
  | k + 1, hk => by
    have ih := TI.run h0 ok hL hl k (by omega)
    have hg := RG.run h0 ok hL hl k (by omega)
    obtain ⟨t, e, ht, htx⟩ := hL k (by omega)
    have hs : runN man nc T (st0 C) L (k + 1) = stepG man nc T (runN man nc T (st0 C) L k) t := by
      show stepG man nc T (runN man nc T (st0 C) L k) (L.getD k 0).toNat = _
      rw [e, Int.toNat_natCast]
    have hst := ih.stepS hg.g ok man t ht htx (fun c => by have := hg.vr c; omega) (by have := hg.ev; omega)
    rw [hs]
    exact ⟨hst.ser, hst.nxt, hst.ord, hst.ids, hst.tog, fun t ht => by obtain ⟨V, hV⟩ := hst.cur t ht; exact ⟨V, hV.rd, hV.sim, hV.at_, hV.wr, hV.pr⟩, hst.tr⟩
end Go.Proofs.Ytonhmkllfbagmaa.Tx
