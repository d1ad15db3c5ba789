/- The law FnExactApart answers true of every two instructions. No condition. -/
import Derived.Test.YthkngfieabdelaaPFnExactApartx2
namespace Go.Proofs.Ythkngfieabdelaa.Pure
open Go.Proofs.Ythkngfieabdelaa.PFnExactApart

theorem step_eq (a b c d e f g h i j : Int) : spec_l14Step.f a b c d e f g h i j = some (onM a) := by
  unfold spec_l14Step.f onM
  split <;> simp <;> omega
theorem seq_eq (a b c d e f g h i j : Int) : spec_l14Seq.f a b c d e f g h i j = some (seqB a h) := by
  unfold spec_l14Seq.f seqB fenB
  split <;> simp_all
theorem reads_eq (a b c d e f g h i j : Int) : spec_l14Reads.f a b c d e f g h i j = some (rdB a) := by
  unfold spec_l14Reads.f rdB
  split <;> simp_all

theorem FnExactApart (a0_0 a0_1 a0_2 a0_3 a0_4 a0_5 a0_6 a0_7 a0_8 a0_9 a1_0 a1_1 a1_2 a1_3 a1_4 a1_5 a1_6 a1_7 a1_8 a1_9 : Int) :
    laws_FnExactApart.f 1 a0_0 a0_1 a0_2 a0_3 a0_4 a0_5 a0_6 a0_7 a0_8 a0_9 a1_0 a1_1 a1_2 a1_3 a1_4 a1_5 a1_6 a1_7 a1_8 a1_9 = some true := by
  unfold laws_FnExactApart.f
  simp only [laws_toIns.f, laws_toVal.f, Option.bind_some, impl_Apart.f, spec_Apart.f, spec_Apart.j0, step_eq, seq_eq, reads_eq, apB]
  cases onM a0_0 <;> cases onM a1_0 <;> cases seqB a0_0 a0_7 <;> cases seqB a1_0 a1_7 <;> simp [fenB]
  all_goals
    by_cases e0 : a0_0 = 7 <;> by_cases e1 : a1_0 = 7 <;> by_cases e2 : a0_1 = a1_1 <;> cases rdB a0_0 <;> cases rdB a1_0 <;> simp [e0, e1, e2]
end Go.Proofs.Ythkngfieabdelaa.Pure
