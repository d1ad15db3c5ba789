/- What impl.IsLetter answers: a contract over the translation. -/
import Derived.Test.YthkngfieabdelaaPFnExactIsLetterx0
namespace Go.Proofs.Ythkngfieabdelaa.PFnExactIsLetter
open Go.RowKit Go.Proofs.YthkngfieabdelaaW.PrintWords Go.Proofs.YthkngfieabdelaaW.PrintLast Go.Proofs.YthkngfieabdelaaW.PrintMore
set_option linter.unusedSimpArgs false

/-- The closure 'in': is r from a to b? -/
theorem clos47 (a b r : Int) (B : Nat) (w : World) (hc : w.cell? ⟨B, 0, none⟩ = some (.int .i64 r)) :
    Calls Try.prog 47 #[.int .i64 a, .int .i64 b, .pointer (some ⟨B, 0, none⟩)] w fun e w' => e = .returned (.bool (decide (a ≤ r ∧ r ≤ b))) ∧ w = w' := by
  by_cases h1 : a ≤ r
  · by_cases h2 : r ≤ b
    · go_enter Try.func47, Try.ntmps47
      go_wp2
      go_ret
      exact ⟨by simp [h1, h2], rfl⟩
    · have h2' : b < r := by omega
      go_enter Try.func47, Try.ntmps47
      go_wp2
      go_ret
      exact ⟨by simp; omega, rfl⟩
  · have h1' : r < a := by omega
    go_enter Try.func47, Try.ntmps47
    go_wp2
    go_ret
    exact ⟨by simp; omega, rfl⟩

def inR (a b r : Int) : Bool := decide (a ≤ r ∧ r ≤ b)
theorem clos47' (a b r : Int) (B : Nat) (w : World) (hc : w.cell? ⟨B, 0, none⟩ = some (.int .i64 r)) :
    Calls Try.prog 47 #[.int .i64 a, .int .i64 b, .pointer (some ⟨B, 0, none⟩)] w fun e w' => e = .returned (.bool (inR a b r)) ∧ w = w' := clos47 a b r B w hc

def letB (r : Int) : Bool := inR 97 122 r || inR 65 90 r || (r == 95) || (inR 192 591 r && (r != 215) && (r != 247)) || (inR 913 937 r && (r != 930)) || inR 945 969 r || inR 1040 1103 r
def impl_IsLetter.f (a0 : Int) : Option (Bool) := some (letB a0)
theorem isl_95 (w : World) : Calls Try.prog 14 #[.int .i64 95] w fun e w' => e = .returned (.bool (letB 95)) ∧ Below w.heap.size w w' := by
  have hmf : ∀ (fn : Fn) (first cap : Array Value) (w : World), (Instr.makeFunc fn first cap).run Try.prog w = .ok (.func fn first cap) w := fun _ _ _ _ => rfl
  have e0 : inR 97 122 95 = false := rfl
  have e1 : inR 65 90 95 = false := rfl
  have e2 : inR 192 591 95 = false := rfl
  have e3 : inR 913 937 95 = false := rfl
  have e4 : inR 945 969 95 = false := rfl
  have e5 : inR 1040 1103 95 = false := rfl
  go_enter Try.func14, Try.ntmps14
  go_wp2_with (go_at_call 47; refine (clos47' _ _ 95 w.heap.size _ (by simp)).mono ?_; rintro e w' ⟨rfl, rfl⟩)
  go_ret
  exact ⟨rfl, (Below.refl _ w).alloc (Nat.le_refl _) _⟩
theorem isl_215 (w : World) : Calls Try.prog 14 #[.int .i64 215] w fun e w' => e = .returned (.bool (letB 215)) ∧ Below w.heap.size w w' := by
  have hmf : ∀ (fn : Fn) (first cap : Array Value) (w : World), (Instr.makeFunc fn first cap).run Try.prog w = .ok (.func fn first cap) w := fun _ _ _ _ => rfl
  have e0 : inR 97 122 215 = false := rfl
  have e1 : inR 65 90 215 = false := rfl
  have e2 : inR 192 591 215 = true := rfl
  have e3 : inR 913 937 215 = false := rfl
  have e4 : inR 945 969 215 = false := rfl
  have e5 : inR 1040 1103 215 = false := rfl
  go_enter Try.func14, Try.ntmps14
  go_wp2_with (go_at_call 47; refine (clos47' _ _ 215 w.heap.size _ (by simp)).mono ?_; rintro e w' ⟨rfl, rfl⟩)
  go_ret
  exact ⟨rfl, (Below.refl _ w).alloc (Nat.le_refl _) _⟩
theorem isl_247 (w : World) : Calls Try.prog 14 #[.int .i64 247] w fun e w' => e = .returned (.bool (letB 247)) ∧ Below w.heap.size w w' := by
  have hmf : ∀ (fn : Fn) (first cap : Array Value) (w : World), (Instr.makeFunc fn first cap).run Try.prog w = .ok (.func fn first cap) w := fun _ _ _ _ => rfl
  have e0 : inR 97 122 247 = false := rfl
  have e1 : inR 65 90 247 = false := rfl
  have e2 : inR 192 591 247 = true := rfl
  have e3 : inR 913 937 247 = false := rfl
  have e4 : inR 945 969 247 = false := rfl
  have e5 : inR 1040 1103 247 = false := rfl
  go_enter Try.func14, Try.ntmps14
  go_wp2_with (go_at_call 47; refine (clos47' _ _ 247 w.heap.size _ (by simp)).mono ?_; rintro e w' ⟨rfl, rfl⟩)
  go_ret
  exact ⟨rfl, (Below.refl _ w).alloc (Nat.le_refl _) _⟩
theorem isl_930 (w : World) : Calls Try.prog 14 #[.int .i64 930] w fun e w' => e = .returned (.bool (letB 930)) ∧ Below w.heap.size w w' := by
  have hmf : ∀ (fn : Fn) (first cap : Array Value) (w : World), (Instr.makeFunc fn first cap).run Try.prog w = .ok (.func fn first cap) w := fun _ _ _ _ => rfl
  have e0 : inR 97 122 930 = false := rfl
  have e1 : inR 65 90 930 = false := rfl
  have e2 : inR 192 591 930 = false := rfl
  have e3 : inR 913 937 930 = true := rfl
  have e4 : inR 945 969 930 = false := rfl
  have e5 : inR 1040 1103 930 = false := rfl
  go_enter Try.func14, Try.ntmps14
  go_wp2_with (go_at_call 47; refine (clos47' _ _ 930 w.heap.size _ (by simp)).mono ?_; rintro e w' ⟨rfl, rfl⟩)
  go_ret
  exact ⟨rfl, (Below.refl _ w).alloc (Nat.le_refl _) _⟩
theorem isl_any (a0 : Int) (w : World) (n1 : (a0 == 95) = false) (n2 : (a0 != 215) = true) (n3 : (a0 != 247) = true) (n4 : (a0 != 930) = true) :
    Calls Try.prog 14 #[.int .i64 a0] w fun e w' => e = .returned (.bool (letB a0)) ∧ Below w.heap.size w w' := by
  have hmf : ∀ (fn : Fn) (first cap : Array Value) (w : World), (Instr.makeFunc fn first cap).run Try.prog w = .ok (.func fn first cap) w := fun _ _ _ _ => rfl
  go_enter Try.func14, Try.ntmps14
  go_wp2_with (go_at_call 47; refine (clos47' _ _ a0 w.heap.size _ (by simp)).mono ?_; rintro e w' ⟨rfl, rfl⟩)
  all_goals go_ret
  all_goals exact ⟨by simp_all [letB], (Below.refl _ w).alloc (Nat.le_refl _) _⟩
theorem impl_IsLetter.calls (a0 : Int) (r : Bool) (w : World) (h : impl_IsLetter.f a0 = some r) :
    Calls Try.prog 14 #[.int .i64 a0] w fun e w' => e = .returned (.bool r) ∧ Below w.heap.size w w' := by
  obtain rfl := Option.some.inj h
  by_cases h1 : a0 = 95
  · subst h1; exact isl_95 w
  by_cases h2 : a0 = 215
  · subst h2; exact isl_215 w
  by_cases h3 : a0 = 247
  · subst h3; exact isl_247 w
  by_cases h4 : a0 = 930
  · subst h4; exact isl_930 w
  exact isl_any a0 w (by simp [h1]) (by simp [h2]) (by simp [h3]) (by simp [h4])
end Go.Proofs.Ythkngfieabdelaa.PFnExactIsLetter
