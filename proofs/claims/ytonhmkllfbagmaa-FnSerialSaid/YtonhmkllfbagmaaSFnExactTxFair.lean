/- What slices.Clone answers of whole numbers: a contract over the translation. -/
import Derived.Test.YtonhmkllfbagmaaPFnExactTxFairx0
import Derived.Test.YtonhmkllfbagmaaShelf
import Derived.Lib.LaidU8
namespace Go.Proofs.Ytonhmkllfbagmaa.PFnExactTxFair
open Go.RowKit Go.Proofs.YtonhmkllfbagmaaW.PrintWords Go.Proofs.YtonhmkllfbagmaaW.PrintLast Go.Proofs.YtonhmkllfbagmaaW.PrintMore
set_option linter.unusedSimpArgs false
set_option linter.unusedVariables false

def slices_Clone_int_int.f (l0 : List Int) : Option (List Int) := if l0.length * 8 ≤ 140737488355328 then some l0 else none
theorem slices_Clone_int_int.calls (A0 : Option Addr) (c0 : Nat) (l0 : List Int) (r : List Int) (w : World) (hr0 : Kd.C (Kd.int .i64) w A0 l0.length l0) (hc0 : l0.length ≤ c0) (h : slices_Clone_int_int.f l0 = some r) :
    Calls Try.prog 36 #[.slice A0 l0.length c0] w fun e w' => ∃ v0_ : Value, e = .returned (v0_) ∧ Kd.R (Kd.int .i64) 3 w' w.heap.size (fun _ => True) v0_ r ∧ Below w.heap.size w w' := by
  unfold slices_Clone_int_int.f at h
  by_cases hb : l0.length * 8 ≤ 140737488355328
  · rw [if_pos hb] at h
    obtain rfl : l0 = r := Option.some.inj h
    clear h
    rcases A0 with _ | ad
    · have hl : l0 = [] := by
        rcases Nat.eq_zero_or_pos l0.length with h0 | h0
        · exact List.eq_nil_of_length_eq_zero h0
        · obtain ⟨ad, h1, _⟩ := Kd.at_int hr0 0 (Int.le_refl _) (by omega)
          cases h1
      subst hl
      refine (Try.slices_Clone_int_nil 0 c0 w).mono ?_
      rintro e w' ⟨rfl, rfl⟩
      exact ⟨_, rfl, Kd.R_nil (Kd.int .i64) 3 w' _ _, Below.refl _ _⟩
    · rcases Nat.eq_zero_or_pos l0.length with h0 | h0
      · obtain rfl : l0 = [] := List.eq_nil_of_length_eq_zero h0
        refine (Try.slices_Clone_int_zero ad c0 w).mono ?_
        rintro e w' ⟨v, rfl, ho, _, hB⟩
        exact ⟨v, rfl, Kd.R_of_own ho (fun _ _ => trivial), hB⟩
      · have hcell : ∀ j, j < l0.length → w.cell? (ad.add j) = some (.int .i64 (l0.getD j 0)) := by
          intro j hj
          obtain ⟨ad', h1, h2⟩ := Kd.at_int hr0 (j : Int) (by omega) (by omega)
          obtain rfl := Option.some.inj h1
          rw [Int.toNat_natCast] at h2
          rw [h2]
          rfl
        obtain ⟨b, off, sp⟩ := ad
        have h00 := hcell 0 h0
        rw [Addr.add_zero'] at h00
        obtain rfl : sp = none := cell_spot h00
        have hadd : ∀ j, (⟨b, off, none⟩ : Addr).add j = ⟨b, off + j, none⟩ := by
          intro j
          unfold Addr.add
          split <;> simp_all
        refine (Try.slices_Clone_int b off l0.length c0 l0 w (Nat.le_refl _) hb (fun j hj => by rw [← hadd]; exact hcell j hj)).mono ?_
        rintro e w' ⟨v, rfl, ho, _, hB⟩
        rw [List.take_length] at ho
        exact ⟨v, rfl, Kd.R_of_own ho (fun _ _ => trivial), hB⟩
  · rw [if_neg hb] at h; cases h
end Go.Proofs.Ytonhmkllfbagmaa.PFnExactTxFair
