/- Tokens: letters, digits, hexadecimal digits, escapes. -/
import Derived.Test.YtgiaogocdihhhaaDoorTokC
import Derived.Test.YtgiaogocdihhhaaDoorPFnExactTokensx1
import Derived.Test.YtgiaogocdihhhaaDoorPFnExactTokensx2
import Derived.Test.YtgiaogocdihhhaaDoorPFnExactTokensx3
import Derived.Test.YtgiaogocdihhhaaDoorPFnExactTokensx4
namespace Go.Proofs.YtgiaogocdihhhaaDoor.Tex
open Go.RowKit Go.Proofs.YtgiaogocdihhhaaDoorW.PrintWords Go.Proofs.YtgiaogocdihhhaaDoorW.PrintLast Go.Proofs.YtgiaogocdihhhaaDoorW.PrintMore Go.Proofs.YtgiaogocdihhhaaDoor.PFnExactTokens
set_option linter.unusedVariables false
set_option linter.unusedSimpArgs false

/-- The closure 'in': is r from a to b? -/
theorem clos69 (a b r : Int) (B : Nat) (w : World) (hc : w.cell? ⟨B, 0, none⟩ = some (.int .i64 r)) :
    Calls Tryd.prog 69 #[.int .i64 a, .int .i64 b, .pointer (some ⟨B, 0, none⟩)] w fun e w' => e = .returned (.bool (decide (a ≤ r ∧ r ≤ b))) ∧ w = w' := by
  by_cases h1 : a ≤ r
  · by_cases h2 : r ≤ b
    · go_enter Tryd.func69, Tryd.ntmps69
      go_wp2
      go_ret
      exact ⟨by simp [h1, h2], rfl⟩
    · have h2' : b < r := by omega
      go_enter Tryd.func69, Tryd.ntmps69
      go_wp2
      go_ret
      exact ⟨by simp; omega, rfl⟩
  · have h1' : r < a := by omega
    go_enter Tryd.func69, Tryd.ntmps69
    go_wp2
    go_ret
    exact ⟨by simp; omega, rfl⟩

def inR (a b r : Int) : Bool := decide (a ≤ r ∧ r ≤ b)
theorem clos69' (a b r : Int) (B : Nat) (w : World) (hc : w.cell? ⟨B, 0, none⟩ = some (.int .i64 r)) :
    Calls Tryd.prog 69 #[.int .i64 a, .int .i64 b, .pointer (some ⟨B, 0, none⟩)] w fun e w' => e = .returned (.bool (inR a b r)) ∧ w = w' := clos69 a b r B w hc

def letB (r : Int) : Bool := inR 97 122 r || inR 65 90 r || (r == 95) || (inR 192 591 r && (r != 215) && (r != 247)) || (inR 913 937 r && (r != 930)) || inR 945 969 r || inR 1040 1103 r
theorem isl_95 (w : World) : Calls Tryd.prog 56 #[.int .i64 95] w fun e w' => e = .returned (.bool (letB 95)) ∧ Below w.heap.size w w' := by
  have hmf : ∀ (fn : Fn) (first cap : Array Value) (w : World), (Instr.makeFunc fn first cap).run Tryd.prog w = .ok (.func fn first cap) w := fun _ _ _ _ => rfl
  have e0 : inR 97 122 95 = false := rfl
  have e1 : inR 65 90 95 = false := rfl
  have e2 : inR 192 591 95 = false := rfl
  have e3 : inR 913 937 95 = false := rfl
  have e4 : inR 945 969 95 = false := rfl
  have e5 : inR 1040 1103 95 = false := rfl
  go_enter Tryd.func56, Tryd.ntmps56
  go_wp2_with (go_at_call 69; refine (clos69' _ _ 95 w.heap.size _ (by simp)).mono ?_; rintro e w' ⟨rfl, rfl⟩)
  go_ret
  exact ⟨rfl, (Below.refl _ w).alloc (Nat.le_refl _) _⟩
theorem isl_215 (w : World) : Calls Tryd.prog 56 #[.int .i64 215] w fun e w' => e = .returned (.bool (letB 215)) ∧ Below w.heap.size w w' := by
  have hmf : ∀ (fn : Fn) (first cap : Array Value) (w : World), (Instr.makeFunc fn first cap).run Tryd.prog w = .ok (.func fn first cap) w := fun _ _ _ _ => rfl
  have e0 : inR 97 122 215 = false := rfl
  have e1 : inR 65 90 215 = false := rfl
  have e2 : inR 192 591 215 = true := rfl
  have e3 : inR 913 937 215 = false := rfl
  have e4 : inR 945 969 215 = false := rfl
  have e5 : inR 1040 1103 215 = false := rfl
  go_enter Tryd.func56, Tryd.ntmps56
  go_wp2_with (go_at_call 69; refine (clos69' _ _ 215 w.heap.size _ (by simp)).mono ?_; rintro e w' ⟨rfl, rfl⟩)
  go_ret
  exact ⟨rfl, (Below.refl _ w).alloc (Nat.le_refl _) _⟩
theorem isl_247 (w : World) : Calls Tryd.prog 56 #[.int .i64 247] w fun e w' => e = .returned (.bool (letB 247)) ∧ Below w.heap.size w w' := by
  have hmf : ∀ (fn : Fn) (first cap : Array Value) (w : World), (Instr.makeFunc fn first cap).run Tryd.prog w = .ok (.func fn first cap) w := fun _ _ _ _ => rfl
  have e0 : inR 97 122 247 = false := rfl
  have e1 : inR 65 90 247 = false := rfl
  have e2 : inR 192 591 247 = true := rfl
  have e3 : inR 913 937 247 = false := rfl
  have e4 : inR 945 969 247 = false := rfl
  have e5 : inR 1040 1103 247 = false := rfl
  go_enter Tryd.func56, Tryd.ntmps56
  go_wp2_with (go_at_call 69; refine (clos69' _ _ 247 w.heap.size _ (by simp)).mono ?_; rintro e w' ⟨rfl, rfl⟩)
  go_ret
  exact ⟨rfl, (Below.refl _ w).alloc (Nat.le_refl _) _⟩
theorem isl_930 (w : World) : Calls Tryd.prog 56 #[.int .i64 930] w fun e w' => e = .returned (.bool (letB 930)) ∧ Below w.heap.size w w' := by
  have hmf : ∀ (fn : Fn) (first cap : Array Value) (w : World), (Instr.makeFunc fn first cap).run Tryd.prog w = .ok (.func fn first cap) w := fun _ _ _ _ => rfl
  have e0 : inR 97 122 930 = false := rfl
  have e1 : inR 65 90 930 = false := rfl
  have e2 : inR 192 591 930 = false := rfl
  have e3 : inR 913 937 930 = true := rfl
  have e4 : inR 945 969 930 = false := rfl
  have e5 : inR 1040 1103 930 = false := rfl
  go_enter Tryd.func56, Tryd.ntmps56
  go_wp2_with (go_at_call 69; refine (clos69' _ _ 930 w.heap.size _ (by simp)).mono ?_; rintro e w' ⟨rfl, rfl⟩)
  go_ret
  exact ⟨rfl, (Below.refl _ w).alloc (Nat.le_refl _) _⟩
theorem isl_any (a0 : Int) (w : World) (n1 : (a0 == 95) = false) (n2 : (a0 != 215) = true) (n3 : (a0 != 247) = true) (n4 : (a0 != 930) = true) :
    Calls Tryd.prog 56 #[.int .i64 a0] w fun e w' => e = .returned (.bool (letB a0)) ∧ Below w.heap.size w w' := by
  have hmf : ∀ (fn : Fn) (first cap : Array Value) (w : World), (Instr.makeFunc fn first cap).run Tryd.prog w = .ok (.func fn first cap) w := fun _ _ _ _ => rfl
  go_enter Tryd.func56, Tryd.ntmps56
  go_wp2_with (go_at_call 69; refine (clos69' _ _ a0 w.heap.size _ (by simp)).mono ?_; rintro e w' ⟨rfl, rfl⟩)
  all_goals go_ret
  all_goals exact ⟨by simp_all [letB], (Below.refl _ w).alloc (Nat.le_refl _) _⟩
theorem letterC (a0 : Int) (w : World) :
    Calls Tryd.prog 56 #[.int .i64 a0] w fun e w' => e = .returned (.bool (letB a0)) ∧ Below w.heap.size w w' := by
  by_cases h1 : a0 = 95
  · subst h1; exact isl_95 w
  by_cases h2 : a0 = 215
  · subst h2; exact isl_215 w
  by_cases h3 : a0 = 247
  · subst h3; exact isl_247 w
  by_cases h4 : a0 = 930
  · subst h4; exact isl_930 w
  exact isl_any a0 w (by simp [h1]) (by simp [h2]) (by simp [h3]) (by simp [h4])

theorem drawn_below {w w' : World} (h : Drawn0 w w') : Below w.heap.size w w' := by
  obtain ⟨n, rfl⟩ := h
  exact pw_below_drewN (Below.refl _ _) n
/-- The specification's IsLetter. -/
theorem sletterC (a0 : Int) (w : World) : Calls Tryd.prog 45 #[.int .i64 a0] w fun e w' => e = .returned (.bool (letB a0)) ∧ Below w.heap.size w w' := by
  have h : spec_IsLetter.f 3 a0 = some (letB a0) := by
    simp only [spec_IsLetter.f, spec_IsLetter.j0, spec_IsLetter.j1, letB, inR, if_true, Bool.false_eq_true, if_false, decide_eq_true_eq, beq_iff_eq]
    have hi : ∀ (c : Prop) [Decidable c] (x y : Bool), (if c then some x else some y) = some (if c then x else y) := fun c _ x y => by by_cases h : c <;> simp [h]
    simp only [hi]
    apply congrArg some
    rw [Bool.eq_iff_iff]
    by_cases k1 : a0 < 65
    · simp [show ¬ 97 ≤ a0 by omega, show ¬ 65 ≤ a0 by omega, show ¬ 192 ≤ a0 by omega, show ¬ 913 ≤ a0 by omega, show ¬ 945 ≤ a0 by omega, show ¬ 1040 ≤ a0 by omega]
    by_cases k2 : a0 < 192
    · simp [show 65 ≤ a0 by omega, show ¬ 192 ≤ a0 by omega, show ¬ 913 ≤ a0 by omega, show ¬ 945 ≤ a0 by omega, show ¬ 1040 ≤ a0 by omega]
      split <;> (try split) <;> omega
    by_cases k3 : a0 ≤ 591
    · simp [show 97 ≤ a0 by omega, show ¬ a0 ≤ 122 by omega, show 65 ≤ a0 by omega, show ¬ a0 ≤ 90 by omega, show ¬ a0 = 95 by omega, show 192 ≤ a0 by omega, k3, show ¬ 913 ≤ a0 by omega, show ¬ 945 ≤ a0 by omega, show ¬ 1040 ≤ a0 by omega]
      try (split <;> simp_all)
    by_cases k4 : a0 < 945
    · simp [show 97 ≤ a0 by omega, show ¬ a0 ≤ 122 by omega, show 65 ≤ a0 by omega, show ¬ a0 ≤ 90 by omega, show ¬ a0 = 95 by omega, show 192 ≤ a0 by omega, k3, show ¬ 945 ≤ a0 by omega, show ¬ 1040 ≤ a0 by omega]
      try omega
    · simp [show 97 ≤ a0 by omega, show ¬ a0 ≤ 122 by omega, show 65 ≤ a0 by omega, show ¬ a0 ≤ 90 by omega, show ¬ a0 = 95 by omega, show 192 ≤ a0 by omega, k3, show 913 ≤ a0 by omega, show ¬ a0 ≤ 937 by omega, show 945 ≤ a0 by omega]
      try omega
  exact (spec_IsLetter.calls 3 a0 _ w h).mono fun e w' ⟨h1, h2⟩ => ⟨h1, drawn_below h2⟩
def digB (r : Int) : Bool := decide (48 ≤ r ∧ r ≤ 57)
theorem digitC (a0 : Int) (w : World) : Calls Tryd.prog 57 #[.int .i64 a0] w fun e w' => e = .returned (.bool (digB a0)) ∧ Below w.heap.size w w' := by
  have h : impl_isDigit.f a0 = some (digB a0) := by
    unfold impl_isDigit.f digB
    by_cases h1 : a0 ≥ 48
    · rw [if_pos h1]; simp [h1]
    · rw [if_neg h1]; simp; omega
  exact (impl_isDigit.calls a0 _ w h).mono fun e w' ⟨h1, h2⟩ => ⟨h1, drawn_below h2⟩
theorem sdigitC (a0 : Int) (w : World) : Calls Tryd.prog 48 #[.int .i64 a0] w fun e w' => e = .returned (.bool (digB a0)) ∧ Below w.heap.size w w' := by
  have h : spec_l01Digit.f a0 = some (digB a0) := by
    unfold spec_l01Digit.f digB
    by_cases h1 : a0 ≥ 48
    · rw [if_pos h1]; simp [h1]
    · rw [if_neg h1]; simp; omega
  exact (spec_l01Digit.calls a0 _ w h).mono fun e w' ⟨h1, h2⟩ => ⟨h1, drawn_below h2⟩
/-- A hexadecimal digit's number, -1 of others. -/
def hx (b : Int) : Int := if 48 ≤ b ∧ b ≤ 57 then b - 48 else if 97 ≤ b ∧ b ≤ 102 then b - 87 else -1
theorem hex_step (u : ByteArray) (k : Nat) (v i : Int) (hv : 0 ≤ v ∧ v ≤ 1000) (h0 : 0 ≤ i) (h1 : i < (u.size : Int)) (h2 : i ≤ 1000) :
    impl_hexOf.l0 (k + 2) u v (u.size : Int) i = if 0 ≤ hx (bt u i) then impl_hexOf.l0 k u (16 * v + hx (bt u i)) (u.size : Int) (i + 1) else some (0, false) := by
  have hb := bt_range u i
  obtain ⟨b, hbe⟩ : ∃ b, bt u i = b := ⟨_, rfl⟩
  have w1 : wrap64 (i + 1) = i + 1 := wrap_ok (by omega) (by omega)
  have w2 : wrap64 (16 * v) = 16 * v := wrap_ok (by omega) (by omega)
  rw [hbe] at hb ⊢
  simp only [impl_hexOf.l0, if_pos h1, if_pos h0, hbe, w1, w2]
  unfold hx
  by_cases c1 : 48 ≤ b
  · by_cases c2 : b ≤ 57
    · simp only [impl_hexOf.j1, ge_iff_le, if_pos c1, decide_eq_true c2, if_true, w1, w2, if_pos (And.intro c1 c2), if_pos (show (0 : Int) ≤ b - 48 by omega)]
      rw [show (b - 48) % 256 = b - 48 by omega, show wrap64 (16 * v + (b - 48)) = 16 * v + (b - 48) from wrap_ok (by omega) (by omega)]
    · simp only [impl_hexOf.j1, ge_iff_le, if_pos c1, decide_eq_false c2, Bool.false_eq_true, if_false, w1, w2, if_neg (show ¬ (48 ≤ b ∧ b ≤ 57) by omega)]
      by_cases c3 : 97 ≤ b ∧ b ≤ 102
      · rw [if_pos c3.1, if_pos c3.2, if_pos c3, if_pos (by omega), show (b - 97) % 256 = b - 97 by omega, show wrap64 (16 * v + (b - 97)) = 16 * v + (b - 97) from wrap_ok (by omega) (by omega), show wrap64 (16 * v + (b - 97) + 10) = 16 * v + (b - 87) from (wrap_ok (by omega) (by omega)).trans (by omega)]
      · rw [if_neg c3]
        by_cases c4 : 97 ≤ b
        · rw [if_pos c4, if_neg (show ¬ b ≤ 102 by omega), if_neg (show ¬ (0 : Int) ≤ -1 by omega)]
        · rw [if_neg c4, if_neg (show ¬ (0 : Int) ≤ -1 by omega)]
  · simp only [impl_hexOf.j1, ge_iff_le, if_neg c1, Bool.false_eq_true, if_false, if_neg (show ¬ (48 ≤ b ∧ b ≤ 57) by omega), if_neg (show ¬ (97 ≤ b ∧ b ≤ 102) by omega), if_neg (show ¬ (0 : Int) ≤ -1 by omega), if_neg (show ¬ 97 ≤ b by omega)]
def hexB (u : ByteArray) : Bool := decide (u.size = 2) && decide (0 ≤ hx (bt u 0)) && decide (0 ≤ hx (bt u 1))
theorem hx_le (b : Int) (h : 0 ≤ b ∧ b ≤ 255) : hx b ≤ 15 := by
  unfold hx
  split
  · omega
  · split <;> omega
theorem hexOf_ok (u : ByteArray) (h : u.size ≤ 2) : ∃ v, impl_hexOf.f 6 u = some (v, hexB u) ∧ 0 ≤ v ∧ v ≤ 255 ∧ (hexB u = true → v = 16 * hx (bt u 0) + hx (bt u 1)) := by
  have l0 := hx_le _ (bt_range u 0)
  have l1 := hx_le _ (bt_range u 1)
  unfold impl_hexOf.f
  by_cases z0 : u.size = 0
  · refine ⟨0, ?_, by omega, by omega, by simp [hexB, z0]⟩
    simp [impl_hexOf.l0, z0, hexB]
  rw [hex_step u 4 0 0 (by omega) (by omega) (by omega) (by omega)]
  by_cases c0 : 0 ≤ hx (bt u 0)
  · rw [if_pos c0]
    by_cases z1 : u.size = 1
    · refine ⟨hx (bt u 0) % 256, ?_, by omega, by omega, by simp [hexB, z1]⟩
      simp [impl_hexOf.l0, z1, hexB]
    · have z2 : u.size = 2 := by omega
      rw [show (0 : Int) + 1 = 1 from rfl, hex_step u 2 _ 1 (by omega) (by omega) (by omega) (by omega)]
      by_cases c1 : 0 ≤ hx (bt u 1)
      · rw [if_pos c1]
        refine ⟨(16 * hx (bt u 0) + hx (bt u 1)), ?_, by omega, by omega, fun _ => rfl⟩
        have e1 : hexB u = true := by simp [hexB, z2, c0, c1]
        rw [e1]
        simp only [impl_hexOf.l0, z2]
        rw [if_neg (by omega)]
        rw [show (16 * (16 * 0 + hx (bt u 0)) + hx (bt u 1)) % 256 = 16 * hx (bt u 0) + hx (bt u 1) by omega]
        rfl
      · rw [if_neg c1]
        exact ⟨0, by simp [hexB, c1], by omega, by omega, by simp [hexB, c1]⟩
  · rw [if_neg c0]
    exact ⟨0, by simp [hexB, c0], by omega, by omega, by simp [hexB, c0]⟩
theorem hexOfC (u : ByteArray) (h : u.size ≤ 2) : ∃ v, (∀ w, Calls Tryd.prog 71 #[.string u] w fun e w' => e = .returned (.tuple #[.int .u8 v, .bool (hexB u)]) ∧ ∃ n, w' = w.drewN n) ∧ 0 ≤ v ∧ v ≤ 255 ∧ (hexB u = true → v = 16 * hx (bt u 0) + hx (bt u 1)) := by
  obtain ⟨v, h1, h2, h3, h4⟩ := hexOf_ok u h
  exact ⟨v, fun w => (impl_hexOf.calls 6 u v _ w h1).mono fun e w' ⟨a, b⟩ => ⟨a, by obtain ⟨n, rfl⟩ := b; exact ⟨n, rfl⟩⟩, h2, h3, h4⟩
theorem shexC (b : Int) (w : World) (hb : 0 ≤ b ∧ b ≤ 255) : Calls Tryd.prog 77 #[.int .u8 b] w fun e w' => e = .returned (.int .i64 (hx b)) ∧ ∃ n, w' = w.drewN n := by
  have h : spec_l01Hex.f 2 b = some (hx b) := by
    unfold hx
    have w0 : wrap64 b = b := wrap_ok (by omega) (by omega)
    have w1 : wrap64 (b - 48) = b - 48 := wrap_ok (by omega) (by omega)
    have w2 : wrap64 (b - 87) = b - 87 := wrap_ok (by omega) (by omega)
    by_cases c1 : 48 ≤ b
    · by_cases c2 : b ≤ 57
      · simp [spec_l01Hex.f, spec_l01Hex.j0, c1, c2, w0, w1]
      · by_cases c3 : 97 ≤ b <;> by_cases c4 : b ≤ 102 <;> simp [spec_l01Hex.f, spec_l01Hex.j0, c1, c2, c3, c4, w0, w2]
    · simp [spec_l01Hex.f, spec_l01Hex.j0, c1, show ¬ 97 ≤ b by omega]
  exact (spec_l01Hex.calls 2 b _ w h).mono fun e w' ⟨a, b⟩ => ⟨a, by obtain ⟨n, rfl⟩ := b; exact ⟨n, rfl⟩⟩
/-- The byte of an escape at a place, and how long it is; 0 if it is none. -/
def esc (s : ByteArray) (a : Int) : Int × Int :=
  if (s.size : Int) ≤ a + 1 then (0, 0) else if bt s (a + 1) = 110 then (10, 2) else if bt s (a + 1) = 34 ∨ bt s (a + 1) = 92 then (bt s (a + 1), 2)
  else if bt s (a + 1) = 120 ∧ a + 3 < (s.size : Int) ∧ 0 ≤ hx (bt s (a + 2)) ∧ 0 ≤ hx (bt s (a + 3)) then (16 * hx (bt s (a + 2)) + hx (bt s (a + 3)), 4) else (0, 0)
end Go.Proofs.YtgiaogocdihhhaaDoor.Tex
