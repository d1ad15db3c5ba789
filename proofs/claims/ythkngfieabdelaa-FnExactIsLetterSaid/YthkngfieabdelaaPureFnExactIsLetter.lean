/- The law FnExactIsLetter returns true for every number: the program's letters are the reference's. No condition. -/
import Derived.Test.YthkngfieabdelaaPFnExactIsLetterx1
namespace Go.Proofs.Ythkngfieabdelaa.Pure
open Go.Proofs.Ythkngfieabdelaa.PFnExactIsLetter

theorem letB_iff (a : Int) : letB a = true ↔ (97 ≤ a ∧ a ≤ 122) ∨ (65 ≤ a ∧ a ≤ 90) ∨ a = 95 ∨ (192 ≤ a ∧ a ≤ 591 ∧ a ≠ 215 ∧ a ≠ 247) ∨ (913 ≤ a ∧ a ≤ 937 ∧ a ≠ 930) ∨ (945 ≤ a ∧ a ≤ 969) ∨ (1040 ≤ a ∧ a ≤ 1103) := by
  simp [letB, inR]
  omega

theorem letB_yes {a : Int} (h : (97 ≤ a ∧ a ≤ 122) ∨ (65 ≤ a ∧ a ≤ 90) ∨ a = 95 ∨ (192 ≤ a ∧ a ≤ 591 ∧ a ≠ 215 ∧ a ≠ 247) ∨ (913 ≤ a ∧ a ≤ 937 ∧ a ≠ 930) ∨ (945 ≤ a ∧ a ≤ 969) ∨ (1040 ≤ a ∧ a ≤ 1103)) : letB a = true := (letB_iff a).2 h
theorem letB_no {a : Int} (h : ¬ ((97 ≤ a ∧ a ≤ 122) ∨ (65 ≤ a ∧ a ≤ 90) ∨ a = 95 ∨ (192 ≤ a ∧ a ≤ 591 ∧ a ≠ 215 ∧ a ≠ 247) ∨ (913 ≤ a ∧ a ≤ 937 ∧ a ≠ 930) ∨ (945 ≤ a ∧ a ≤ 969) ∨ (1040 ≤ a ∧ a ≤ 1103))) : letB a = false := by
  cases h' : letB a
  · rfl
  · exact absurd ((letB_iff a).1 h') h

theorem j1_eq (k : Nat) (a : Int) (h : ¬ (97 ≤ a ∧ a ≤ 122) ∧ ¬ (65 ≤ a ∧ a ≤ 90) ∧ a ≠ 95) : spec_IsLetter.j1 (k + 1) a (decide (192 ≤ a ∧ a ≤ 591)) = some (letB a) := by
  simp only [spec_IsLetter.j1]
  repeat' split
  all_goals simp only [decide_eq_true_eq] at *
  all_goals congr 1
  all_goals symm
  all_goals first
    | (refine letB_yes ?_; omega)
    | (refine letB_no ?_; omega)
    | skip
  · by_cases e : a = 247
    · subst e; rfl
    · rw [letB_yes (by omega)]; simp [e]
  all_goals first
    | (by_cases e : a = 930
       · subst e; rfl
       · rw [letB_yes (by omega)]; simp [e])
    | (by_cases e : a ≤ 1103
       · rw [letB_yes (by omega)]; simp [e]
       · rw [letB_no (by omega)]; simp [e])

theorem j0_eq (k : Nat) (a : Int) (b : Bool) (h : b = true ↔ ((97 ≤ a ∧ a ≤ 122) ∨ (65 ≤ a ∧ a ≤ 90) ∨ a = 95)) : spec_IsLetter.j0 (k + 2) a b = some (letB a) := by
  simp only [spec_IsLetter.j0]
  split
  · rename_i hb; rw [letB_yes (by have := h.1 hb; omega)]
  · rename_i hb
    have hn : ¬ ((97 ≤ a ∧ a ≤ 122) ∨ (65 ≤ a ∧ a ≤ 90) ∨ a = 95) := fun e => hb (h.2 e)
    have key := j1_eq k a (by omega)
    split
    · rename_i hg
      rw [← key]; congr 1
      by_cases e : a ≤ 591
      · simp [e]; omega
      · simp [e]
    · rename_i hg
      rw [← key]; congr 1
      simp; omega

theorem spec_eq (a : Int) : spec_IsLetter.f 3 a = some (letB a) := by
  unfold spec_IsLetter.f
  repeat' split
  all_goals refine j0_eq 1 a _ ?_
  all_goals simp
  all_goals omega

theorem FnExactIsLetter : laws_FnExactIsLetter.Pure := by
  intro a _
  refine ⟨3, ?_⟩
  unfold laws_FnExactIsLetter.f
  rw [spec_eq]
  simp [impl_IsLetter.f]

end Go.Proofs.Ythkngfieabdelaa.Pure
