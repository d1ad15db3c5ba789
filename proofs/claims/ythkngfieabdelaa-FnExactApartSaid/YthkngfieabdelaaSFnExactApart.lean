/- What impl.Apart answers: contracts over the translation. -/
import Derived.Test.YthkngfieabdelaaPFnExactApartx0
import Derived.Laws.EntriesVeiled
import Derived.Outline
namespace Go.Proofs.Ythkngfieabdelaa.PFnExactApart
open Go.RowKit Go.Proofs.YthkngfieabdelaaW.PrintWords Go.Proofs.YthkngfieabdelaaW.PrintLast Go.Proofs.YthkngfieabdelaaW.PrintMore
set_option linter.unusedSimpArgs false
set_option linter.unusedVariables false

theorem bcell {W w1 : World} (hb : Below W.heap.size W w1) : (∀ b o, b < W.heap.size → w1.cell? ⟨b, o, none⟩ = W.cell? ⟨b, o, none⟩) ∧ (∀ b o, b < W.heap.size → w1.frozen? ⟨b, o, none⟩ = W.frozen? ⟨b, o, none⟩) :=
  ⟨fun b o h => hb.cell (p := ⟨b, o, none⟩) h, fun b o h => hb.frozen (p := ⟨b, o, none⟩) h⟩

def onM (op : Int) : Bool := decide (1 ≤ op ∧ op ≤ 7)
def fenB (op : Int) : Bool := op == 7
def seqB (op order : Int) : Bool := order == 5 || fenB op
def rdB (op : Int) : Bool := op == 1 || op == 6

theorem c52 (op : Int) (w : World) : Calls Try.prog 52 #[.int .i64 op] w fun e w' => e = .returned (.bool (onM op)) ∧ w = w' := by
  by_cases h1 : 1 ≤ op
  · by_cases h2 : op ≤ 7
    · go_enter Try.func52, Try.ntmps52
      go_wp2
      go_ret
      exact ⟨by simp [onM, h1, h2], rfl⟩
    · have h2' : 7 < op := by omega
      go_enter Try.func52, Try.ntmps52
      go_wp2
      go_ret
      exact ⟨by simp [onM]; omega, rfl⟩
  · have h1' : op < 1 := by omega
    go_enter Try.func52, Try.ntmps52
    go_wp2
    go_ret
    exact ⟨by simp [onM]; omega, rfl⟩

theorem c53 (a0 a1 a2 a3 a4 a5 a6 a7 a8 a9 : Int) (w : World) : Calls Try.prog 53 #[.agg #[.int .i64 a0, .int .i64 a1, .int .i64 a2, .int .i64 a3, .int .i64 a4, .int .i64 a5, .int .i64 a6, .int .i64 a7, .int .i64 a8, .int .i64 a9]] w
    fun e w' => e = .returned (.bool (fenB a0)) ∧ Below w.heap.size w w' := by
  go_enter Try.func53, Try.ntmps53
  go_wp2
  go_ret
  exact ⟨by simp [fenB], (Below.refl _ w).alloc (Nat.le_refl _) _⟩

theorem c55 (a0 a1 a2 a3 a4 a5 a6 a7 a8 a9 : Int) (w : World) : Calls Try.prog 55 #[.agg #[.int .i64 a0, .int .i64 a1, .int .i64 a2, .int .i64 a3, .int .i64 a4, .int .i64 a5, .int .i64 a6, .int .i64 a7, .int .i64 a8, .int .i64 a9]] w
    fun e w' => e = .returned (.bool (rdB a0)) ∧ Below w.heap.size w w' := by
  cases h1 : (a0 == 1)
  all_goals
    go_enter Try.func55, Try.ntmps55
    go_wp2
    go_ret
    exact ⟨by simp [rdB, h1], (Below.refl _ w).alloc (Nat.le_refl _) _⟩

theorem c54 (a0 a1 a2 a3 a4 a5 a6 a7 a8 a9 : Int) (B : Nat) (w : World) (hB : B < w.heap.size) (hc : w.cell? ⟨B, 0, none⟩ = some (.func (.func 53) #[] #[])) :
    Calls Try.prog 54 #[.agg #[.int .i64 a0, .int .i64 a1, .int .i64 a2, .int .i64 a3, .int .i64 a4, .int .i64 a5, .int .i64 a6, .int .i64 a7, .int .i64 a8, .int .i64 a9], .pointer (some ⟨B, 0, none⟩)] w
    fun e w' => e = .returned (.bool (seqB a0 a7)) ∧ Below w.heap.size w w' := by
  have hne : B ≠ w.heap.size := by omega
  cases h1 : (a7 == 5)
  all_goals
    go_enter Try.func54, Try.ntmps54
    go_wp2_with (go_at_call 53; refine (c53 _ _ _ _ _ _ _ _ _ _ _).mono ?_; rintro e w' ⟨rfl, hb⟩)
    go_ret
    first | exact ⟨by simp [seqB, h1], ((Below.refl _ w).alloc (Nat.le_refl _) _).trans (hb.mono (by simp))⟩ | exact ⟨by simp [seqB, h1], (Below.refl _ w).alloc (Nat.le_refl _) _⟩
end Go.Proofs.Ythkngfieabdelaa.PFnExactApart
