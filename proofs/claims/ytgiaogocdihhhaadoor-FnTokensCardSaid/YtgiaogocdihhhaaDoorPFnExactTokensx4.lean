-- Written by a program of this session (wip/print2.sh) out of the translation.
import Derived.Test.YtgiaogocdihhhaaDoorPFnExactTokensx0
import Derived.Test.YtgiaogocdihhhaaDoorSFnExactTokens
namespace Go.Proofs.YtgiaogocdihhhaaDoor.PFnExactTokens
open Go.RowKit Go.Proofs.YtgiaogocdihhhaaDoorW.PrintWords Go.Proofs.YtgiaogocdihhhaaDoorW.PrintLast Go.Proofs.YtgiaogocdihhhaaDoorW.PrintMore
attribute [local go_sem] max2_int min2_int max_two min_two max_three min_three max_four min_four   -- for this text's walks alone
set_option linter.unusedVariables false
set_option linter.unusedSimpArgs false

/-! ### impl_numText: function 58 -/
mutual
def impl_numText.j0 : Nat → ByteArray → ByteArray → Bool → Option (Int × Bool)
  | 0, _, _, _ => none
  | k + 1, x0, x4, x31 => if x31 = true then (some (0, false)) else (impl_numText.l0 k x0 x4 0 (x4.size : Int) 0)
def impl_numText.l0 : Nat → ByteArray → ByteArray → Int → Int → Int → Option (Int × Bool)
  | 0, _, _, _, _, _ => none
  | k + 1, x0, x4, x5, x33, x34 => if x34 < x33 then (if 0 ≤ x34 then (if x34 < (x4.size : Int) then (if (bt x4 x34) < 48 then (some (0, false)) else (if (bt x4 x34) > 57 then (some (0, false)) else (impl_numText.l0 k x0 x4 (wrap64 ((wrap64 (10 * x5)) + (((bt x4 x34) - 48) % 256))) x33 (wrap64 (x34 + 1))))) else (none)) else (none)) else (if (x4.size : Int) < (x0.size : Int) then (some (wrap64 (-x5), true)) else (some (x5, true)))
end
def impl_numText.f (k : Nat) (a0 : ByteArray) : Option (Int × Bool) := (strings_TrimPrefix.f a0 (⟨#[45]⟩ : ByteArray)).bind fun t189 => (if (t189.size : Int) < 1 then (impl_numText.j0 k a0 t189 true) else (if (t189.size : Int) > 18 then (impl_numText.j0 k a0 t189 true) else (if 0 < (t189.size : Int) then (if (bt t189 0) = 48 then (if (t189.size : Int) > 1 then (impl_numText.j0 k a0 t189 true) else (impl_numText.j0 k a0 t189 (decide ((a0.size : Int) > 1)))) else (impl_numText.j0 k a0 t189 false)) else (none))))
set_option maxHeartbeats 8000000 in
set_option maxRecDepth 100000 in
theorem impl_numText.calls (k : Nat) (a0 : ByteArray) (r1 : Int) (r2 : Bool) (w : World) (h : impl_numText.f k a0 = some (r1, r2)) :
    Calls Tryd.prog 58 #[.string a0] w fun e w' => e = .returned (.tuple #[.int .i64 r1, .bool r2]) ∧ Below w.heap.size w w' := by
  have HB := Aside0.mk (Below.refl w.heap.size w)
  have H : ((strings_TrimPrefix.f a0 (⟨#[45]⟩ : ByteArray)).bind fun t189 => (if (t189.size : Int) < 1 then (impl_numText.j0 k a0 t189 true) else (if (t189.size : Int) > 18 then (impl_numText.j0 k a0 t189 true) else (if 0 < (t189.size : Int) then (if (bt t189 0) = 48 then (if (t189.size : Int) > 1 then (impl_numText.j0 k a0 t189 true) else (impl_numText.j0 k a0 t189 (decide ((a0.size : Int) > 1)))) else (impl_numText.j0 k a0 t189 false)) else (none))))) = some (r1, r2) := h
  clear h
  replace H := Option.bind_eq_some_iff.mp H
  obtain ⟨t189, A20, H⟩ := H
  replace H : (if (t189.size : Int) < 1 then (impl_numText.j0 k a0 t189 true) else (if (t189.size : Int) > 18 then (impl_numText.j0 k a0 t189 true) else (if 0 < (t189.size : Int) then (if (bt t189 0) = 48 then (if (t189.size : Int) > 1 then (impl_numText.j0 k a0 t189 true) else (impl_numText.j0 k a0 t189 (decide ((a0.size : Int) > 1)))) else (impl_numText.j0 k a0 t189 false)) else (none)))) = some (r1, r2) := H
  have A2 := Aside0.mk A20
  clear A20
  have HC3 := Aside0.mk H
  clear H
  go_enter Tryd.func58, Tryd.ntmps58
  go_upto_region 2 with (first | ((with_reducible refine gate_callee (f := 70) rfl ?_); refine goesL_ (some 8) rfl rfl Tryd.func70 (by kernel_rfl) rfl #[.string a0, .string (⟨#[45]⟩ : ByteArray)] rfl (by (try simp only [List.map_toArray, List.map_cons, List.map_nil]); first | done | rfl | (simp only [List.length_drop, List.length_take]; rfl)) ?_; (with_reducible refine (strings_TrimPrefix.calls a0 (⟨#[45]⟩ : ByteArray) t189 _ A2.out).mono ?_); rintro e w4 ⟨rfl, hb⟩; refine ⟨_, rfl, ?_⟩; have n0_ := Aside0.mk (below_step (by repeat (first | (with_reducible first | exact HB.out | apply below_alloc | apply pw_below_drewN | apply below_drew1) | exact HB.out)) hb); clear HB; have HB := n0_; clear n0_; (try clear hb); (try clear hb2); (try clear hk); (try clear hi)))
  (try simp only [Act.put, List.setIfInBounds_toArray, List.set_cons_zero, List.set_cons_succ])
  go_cut [31] (fun v31 wc => ∃ (kq : Nat) (x31_2 : Bool), v31 = .bool x31_2 ∧ Aside0 (impl_numText.j0 kq a0 t189 x31_2 = some (r1, r2)) ∧ Aside0 (kq ≤ k) ∧ Aside0 (Below w.heap.size w wc))
  case first =>
    have H := HC3.out
    clear HC3
    by_cases c5 : (t189.size : Int) < 1
    · rw [if_pos c5] at H
      have c5b0 : decide ((t189.size : Int) < 1) = true := decide_eq_true c5
      have c5b1 : decide (t189.size < 1) = true := decide_eq_true (by omega)
      clear c5
      (first | rw [c5b0] | (simp only [i64_w, i32_w]; rw [c5b0]) | skip)
      have H' := Aside0.mk H
      clear H
      go_wp2
      go_meet
      case rel => exact ⟨_, (true), (by first | rfl | (simp; done) | (simp [*]; done)), H', ⟨by first | omega | exact Nat.le_refl _⟩, ⟨by repeat (first | (with_reducible first | exact HB.out | apply below_alloc | apply pw_below_drewN | apply below_drew1) | exact HB.out)⟩⟩
    · rw [if_neg c5] at H
      have c5b0 : decide ((t189.size : Int) < 1) = false := decide_eq_false c5
      have c5b1 : decide (t189.size < 1) = false := decide_eq_false (by omega)
      clear c5
      (first | rw [c5b0] | (simp only [i64_w, i32_w]; rw [c5b0]) | skip)
      by_cases c6 : (t189.size : Int) > 18
      · rw [if_pos c6] at H
        have c6b0 : decide (18 < (t189.size : Int)) = true := decide_eq_true c6
        have c6b1 : decide (18 < t189.size) = true := decide_eq_true (by omega)
        clear c6
        have H' := Aside0.mk H
        clear H
        go_wp2
        go_meet
        case rel => exact ⟨_, (true), (by first | rfl | (simp; done) | (simp [*]; done)), H', ⟨by first | omega | exact Nat.le_refl _⟩, ⟨by repeat (first | (with_reducible first | exact HB.out | apply below_alloc | apply pw_below_drewN | apply below_drew1) | exact HB.out)⟩⟩
      · rw [if_neg c6] at H
        have c6b0 : decide (18 < (t189.size : Int)) = false := decide_eq_false c6
        have c6b1 : decide (18 < t189.size) = false := decide_eq_false (by omega)
        clear c6
        by_cases c7 : 0 < (t189.size : Int)
        · rw [if_pos c7] at H
          have c7b0 : decide (0 < (t189.size : Int)) = true := decide_eq_true c7
          have c7b1 : decide (0 < t189.size) = true := decide_eq_true (by omega)
          clear c7
          by_cases c9 : (bt t189 0) = 48
          · rw [if_pos c9] at H
            have c9b0 : ((bt t189 0) == 48) = true := beq_iff_eq.mpr c9
            have c9b1 : ((bt t189 0) != 48) = false := bne_eq_false_iff_eq.mpr c9
            clear c9
            by_cases c10 : (t189.size : Int) > 1
            · rw [if_pos c10] at H
              have c10b0 : decide (1 < (t189.size : Int)) = true := decide_eq_true c10
              have c10b1 : decide (1 < t189.size) = true := decide_eq_true (by omega)
              clear c10
              have H' := Aside0.mk H
              clear H
              have p8 : 0 ≤ (0 : Int) := (by omega)
              have q8 : 0 < t189.size := (by have : (0 : Int) < (t189.size : Int) := of_decide_eq_true (by first | (with_reducible assumption) | assumption); omega)
              have hx8 : ∀ h : 0 < t189.size, ((t189[0]'h).toNat : Int) = bt t189 0 := bt_at t189 0
              clear p8
              have qi8 : (0 < (t189.size : Int)) = True := eq_true (of_decide_eq_true (by first | (with_reducible assumption) | assumption))
              replace q8 := eq_true q8
              go_wp2
              go_meet
              case rel => exact ⟨_, (true), (by first | rfl | (simp; done) | (simp [*]; done)), H', ⟨by first | omega | exact Nat.le_refl _⟩, ⟨by repeat (first | (with_reducible first | exact HB.out | apply below_alloc | apply pw_below_drewN | apply below_drew1) | exact HB.out)⟩⟩
            · rw [if_neg c10] at H
              have c10b0 : decide (1 < (t189.size : Int)) = false := decide_eq_false c10
              have c10b1 : decide (1 < t189.size) = false := decide_eq_false (by omega)
              clear c10
              have H' := Aside0.mk H
              clear H
              have p8 : 0 ≤ (0 : Int) := (by omega)
              have q8 : 0 < t189.size := (by have : (0 : Int) < (t189.size : Int) := of_decide_eq_true (by first | (with_reducible assumption) | assumption); omega)
              have hx8 : ∀ h : 0 < t189.size, ((t189[0]'h).toNat : Int) = bt t189 0 := bt_at t189 0
              clear p8
              have qi8 : (0 < (t189.size : Int)) = True := eq_true (of_decide_eq_true (by first | (with_reducible assumption) | assumption))
              replace q8 := eq_true q8
              go_wp2
              go_meet
              case rel => exact ⟨_, (decide ((a0.size : Int) > 1)), (by first | rfl | (simp; done) | (simp [*]; done)), H', ⟨by first | omega | exact Nat.le_refl _⟩, ⟨by repeat (first | (with_reducible first | exact HB.out | apply below_alloc | apply pw_below_drewN | apply below_drew1) | exact HB.out)⟩⟩
          · rw [if_neg c9] at H
            have c9b0 : ((bt t189 0) == 48) = false := beq_eq_false_iff_ne.mpr c9
            have c9b1 : ((bt t189 0) != 48) = true := bne_iff_ne.mpr c9
            have H' := Aside0.mk H
            clear H
            have p8 : 0 ≤ (0 : Int) := (by omega)
            have q8 : 0 < t189.size := (by have : (0 : Int) < (t189.size : Int) := of_decide_eq_true (by first | (with_reducible assumption) | assumption); omega)
            have hx8 : ∀ h : 0 < t189.size, ((t189[0]'h).toNat : Int) = bt t189 0 := bt_at t189 0
            clear p8
            have qi8 : (0 < (t189.size : Int)) = True := eq_true (of_decide_eq_true (by first | (with_reducible assumption) | assumption))
            replace q8 := eq_true q8
            go_wp2
            go_meet
            case rel => exact ⟨_, (false), (by first | rfl | (simp; done) | (simp [*]; done)), H', ⟨by first | omega | exact Nat.le_refl _⟩, ⟨by repeat (first | (with_reducible first | exact HB.out | apply below_alloc | apply pw_below_drewN | apply below_drew1) | exact HB.out)⟩⟩
        · rw [if_neg c7] at H
          exact absurd H (by simp)
  case rest =>
    clear HC3
    try clear c1
    try clear p2
    try clear c5
    try clear c5b0
    try clear c5b1
    try clear c6
    try clear c6b0
    try clear c6b1
    try clear c7
    try clear c7b0
    try clear c7b1
    try clear p8
    try clear q8
    try clear hx8
    try clear qi8
    try clear c9
    try clear c9b0
    try clear c9b1
    try clear c10
    try clear c10b0
    try clear c10b1
    try clear p8
    try clear q8
    obtain ⟨kq, x31_2, rfl, HA, HJ2, HB⟩ := hcut
    cases kq with
    | zero => exact absurd HA.out (by simp [impl_numText.j0])
    | succ kj2 =>
      have H := HA.out
      clear HA
      simp only [impl_numText.j0] at H
      by_cases c11 : x31_2 = true
      · subst c11
        have H1 : (some (0, false)) = some (r1, r2) := by rw [if_pos rfl] at H; exact H
        clear H
        have H := H1
        clear H1
        simp only [Option.some.injEq, Prod.mk.injEq] at H
        obtain ⟨rfl, rfl⟩ := H
        go_wp2
        go_ret2
        exact ⟨by first | rfl | (simp [errW_none, errW_some] <;> rfl) | (simp [*, errW_none, errW_some] <;> rfl), by repeat (first | (with_reducible first | exact HB.out | apply below_alloc | apply pw_below_drewN | apply below_drew1) | exact HB.out)⟩
      · replace c11 := Bool.eq_false_iff.mpr c11
        subst c11
        have H1 : (impl_numText.l0 kj2 a0 t189 0 (t189.size : Int) 0) = some (r1, r2) := by rw [if_neg (show ¬ (false = true) by decide)] at H; exact H
        clear H
        have H := H1
        clear H1
        have H' := Aside0.mk H
        clear H
        go_wp2
        go_loopg [5, 34] kj2 (fun kq v5 v34 w' => ∃ (x5_2 : Int) (x34_2 : Int), v5 = .int .i64 x5_2 ∧ v34 = .int .i64 x34_2 ∧ Aside0 (impl_numText.l0 kq a0 t189 x5_2 (t189.size : Int) x34_2 = some (r1, r2)) ∧ Aside0 (kq ≤ kj2) ∧ Aside0 (Below w.heap.size w w'))
        case atStart => exact ⟨(0), (0), (by first | rfl | (simp; done) | (simp [*]; done)), (by first | rfl | (simp; done) | (simp [*]; done)), H', ⟨Nat.le_refl _⟩, ⟨by repeat (first | (with_reducible first | exact HB.out | apply below_alloc | apply pw_below_drewN | apply below_drew1) | exact HB.out)⟩⟩
        case round =>
          clear H'
          try clear c1
          try clear p2
          try clear c5
          try clear c5b0
          try clear c5b1
          try clear c6
          try clear c6b0
          try clear c6b1
          try clear c7
          try clear c7b0
          try clear c7b1
          try clear p8
          try clear q8
          try clear hx8
          try clear qi8
          try clear c9
          try clear c9b0
          try clear c9b1
          try clear c10
          try clear c10b0
          try clear c10b1
          try clear c11
          try clear p2
          try clear p8
          try clear q8
          obtain ⟨x5_2, x34_2, rfl, rfl, HA, HK2, HB⟩ := hrel
          cases gk with
          | zero => exact absurd HA.out (by simp [impl_numText.l0])
          | succ k2 =>
            have H := HA.out
            clear HA
            simp only [impl_numText.l0] at H
            by_cases c12 : x34_2 < (t189.size : Int)
            · rw [if_pos c12] at H
              have c12b0 : decide (x34_2 < (t189.size : Int)) = true := decide_eq_true c12
              clear c12
              by_cases c13 : 0 ≤ x34_2
              · rw [if_pos c13] at H
                have c13b0 : decide (0 ≤ x34_2) = true := decide_eq_true c13
                clear c13
                by_cases c14 : x34_2 < (t189.size : Int)
                · rw [if_pos c14] at H
                  have c14b0 : decide (x34_2 < (t189.size : Int)) = true := decide_eq_true c14
                  clear c14
                  by_cases c16 : (bt t189 x34_2) < 48
                  · rw [if_pos c16] at H
                    have c16b0 : decide ((bt t189 x34_2) < 48) = true := decide_eq_true c16
                    clear c16
                    simp only [Option.some.injEq, Prod.mk.injEq] at H
                    obtain ⟨rfl, rfl⟩ := H
                    have p15 : 0 ≤ (x34_2 : Int) := of_decide_eq_true (by first | (with_reducible assumption) | assumption)
                    have q15 : x34_2 < (t189.size : Int) := of_decide_eq_true (by first | (with_reducible assumption) | assumption)
                    have hx15 := bt_at t189 x34_2
                    replace p15 := eq_true p15
                    replace q15 := eq_true q15
                    go_wp2
                    go_ret2
                    exact ⟨by first | rfl | (simp [errW_none, errW_some] <;> rfl) | (simp [*, errW_none, errW_some] <;> rfl), by repeat (first | (with_reducible first | exact HB.out | apply below_alloc | apply pw_below_drewN | apply below_drew1) | exact HB.out)⟩
                  · rw [if_neg c16] at H
                    have c16b0 : decide ((bt t189 x34_2) < 48) = false := decide_eq_false c16
                    clear c16
                    by_cases c18 : (bt t189 x34_2) > 57
                    · rw [if_pos c18] at H
                      have c18b0 : decide (57 < (bt t189 x34_2)) = true := decide_eq_true c18
                      clear c18
                      simp only [Option.some.injEq, Prod.mk.injEq] at H
                      obtain ⟨rfl, rfl⟩ := H
                      have p15 : 0 ≤ (x34_2 : Int) := of_decide_eq_true (by first | (with_reducible assumption) | assumption)
                      have q15 : x34_2 < (t189.size : Int) := of_decide_eq_true (by first | (with_reducible assumption) | assumption)
                      have hx15 := bt_at t189 x34_2
                      replace p15 := eq_true p15
                      replace q15 := eq_true q15
                      have p17 : 0 ≤ (x34_2 : Int) := of_decide_eq_true (by first | (with_reducible assumption) | assumption)
                      have q17 : x34_2 < (t189.size : Int) := of_decide_eq_true (by first | (with_reducible assumption) | assumption)
                      have hx17 := bt_at t189 x34_2
                      replace p17 := eq_true p17
                      replace q17 := eq_true q17
                      go_wp2
                      go_ret2
                      exact ⟨by first | rfl | (simp [errW_none, errW_some] <;> rfl) | (simp [*, errW_none, errW_some] <;> rfl), by repeat (first | (with_reducible first | exact HB.out | apply below_alloc | apply pw_below_drewN | apply below_drew1) | exact HB.out)⟩
                    · rw [if_neg c18] at H
                      have c18b0 : decide (57 < (bt t189 x34_2)) = false := decide_eq_false c18
                      clear c18
                      have H' := Aside0.mk H
                      clear H
                      have p15 : 0 ≤ (x34_2 : Int) := of_decide_eq_true (by first | (with_reducible assumption) | assumption)
                      have q15 : x34_2 < (t189.size : Int) := of_decide_eq_true (by first | (with_reducible assumption) | assumption)
                      have hx15 := bt_at t189 x34_2
                      replace p15 := eq_true p15
                      replace q15 := eq_true q15
                      have p17 : 0 ≤ (x34_2 : Int) := of_decide_eq_true (by first | (with_reducible assumption) | assumption)
                      have q17 : x34_2 < (t189.size : Int) := of_decide_eq_true (by first | (with_reducible assumption) | assumption)
                      have hx17 := bt_at t189 x34_2
                      replace p17 := eq_true p17
                      replace q17 := eq_true q17
                      have p19 : 0 ≤ (x34_2 : Int) := of_decide_eq_true (by first | (with_reducible assumption) | assumption)
                      have q19 : x34_2 < (t189.size : Int) := of_decide_eq_true (by first | (with_reducible assumption) | assumption)
                      have hx19 := bt_at t189 x34_2
                      replace p19 := eq_true p19
                      replace q19 := eq_true q19
                      go_wp2
                      go_roundg k2
                      case measure => have := HJ2.out; have := HK2.out; omega
                      case rel => exact ⟨(wrap64 ((wrap64 (10 * x5_2)) + (((bt t189 x34_2) - 48) % 256))), (wrap64 (x34_2 + 1)), (by first | rfl | (simp; done) | (simp [*]; done)), (by first | rfl | (simp; done) | (simp [*]; done)), H', ⟨by have := HJ2.out; have := HK2.out; omega⟩, ⟨by repeat (first | (with_reducible first | exact HB.out | apply below_alloc | apply pw_below_drewN | apply below_drew1) | exact HB.out)⟩⟩
                · rw [if_neg c14] at H
                  exact absurd H (by simp)
              · rw [if_neg c13] at H
                exact absurd H (by simp)
            · rw [if_neg c12] at H
              have c12b0 : decide (x34_2 < (t189.size : Int)) = false := decide_eq_false c12
              clear c12
              by_cases c20 : (t189.size : Int) < (a0.size : Int)
              · rw [if_pos c20] at H
                have c20b0 : decide ((t189.size : Int) < (a0.size : Int)) = true := decide_eq_true c20
                have c20b1 : decide (t189.size < a0.size) = true := decide_eq_true (Int.ofNat_lt.mp c20)
                clear c20
                simp only [Option.some.injEq, Prod.mk.injEq] at H
                obtain ⟨rfl, rfl⟩ := H
                go_wp2
                go_ret2
                exact ⟨by first | rfl | (simp [errW_none, errW_some] <;> rfl) | (simp [*, errW_none, errW_some] <;> rfl), by repeat (first | (with_reducible first | exact HB.out | apply below_alloc | apply pw_below_drewN | apply below_drew1) | exact HB.out)⟩
              · rw [if_neg c20] at H
                have c20b0 : decide ((t189.size : Int) < (a0.size : Int)) = false := decide_eq_false c20
                have c20b1 : decide (t189.size < a0.size) = false := decide_eq_false (fun h => c20 (Int.ofNat_lt.mpr h))
                clear c20
                simp only [Option.some.injEq, Prod.mk.injEq] at H
                obtain ⟨rfl, rfl⟩ := H
                go_wp2
                go_ret2
                exact ⟨by first | rfl | (simp [errW_none, errW_some] <;> rfl) | (simp [*, errW_none, errW_some] <;> rfl), by repeat (first | (with_reducible first | exact HB.out | apply below_alloc | apply pw_below_drewN | apply below_drew1) | exact HB.out)⟩

/-! ### impl_hexOf: function 71 -/
mutual
def impl_hexOf.l0 : Nat → ByteArray → Int → Int → Int → Option (Int × Bool)
  | 0, _, _, _, _ => none
  | k + 1, x0, x4, x8, x9 => if x9 < x8 then (if 0 ≤ x9 then (if x9 < (x0.size : Int) then (if (bt x0 x9) ≥ 48 then (impl_hexOf.j1 k x0 x4 (bt x0 x9) x8 x9 (decide ((bt x0 x9) ≤ 57))) else (impl_hexOf.j1 k x0 x4 (bt x0 x9) x8 x9 false)) else (none)) else (none)) else (some ((x4) % 256, ((x0.size : Int) == 2)))
def impl_hexOf.j1 : Nat → ByteArray → Int → Int → Int → Int → Bool → Option (Int × Bool)
  | 0, _, _, _, _, _, _ => none
  | k + 1, x0, x4, x6, x8, x9, x15 => if x15 = true then (impl_hexOf.l0 k x0 (wrap64 ((wrap64 (16 * x4)) + ((x6 - 48) % 256))) x8 (wrap64 (x9 + 1))) else (if x6 ≥ 97 then (if x6 ≤ 102 then (impl_hexOf.l0 k x0 (wrap64 ((wrap64 ((wrap64 (16 * x4)) + ((x6 - 97) % 256))) + 10)) x8 (wrap64 (x9 + 1))) else (some (0, false))) else (some (0, false)))
end
def impl_hexOf.f (k : Nat) (a0 : ByteArray) : Option (Int × Bool) := impl_hexOf.l0 k a0 0 (a0.size : Int) 0
set_option maxHeartbeats 8000000 in
set_option maxRecDepth 100000 in
theorem impl_hexOf.calls (k : Nat) (a0 : ByteArray) (r1 : Int) (r2 : Bool) (w : World) (h : impl_hexOf.f k a0 = some (r1, r2)) :
    Calls Tryd.prog 71 #[.string a0] w fun e w' => e = .returned (.tuple #[.int .u8 r1, .bool r2]) ∧ Drawn0 w w' := by
  have H : (impl_hexOf.l0 k a0 0 (a0.size : Int) 0) = some (r1, r2) := h
  clear h
  have H' := Aside0.mk H
  clear H
  go_enter Tryd.func71, Tryd.ntmps71
  go_wp2
  go_loopg [4, 9] k (fun kq v4 v9 w' => ∃ (x4_1 : Int) (x9_1 : Int), v4 = .int .i64 x4_1 ∧ v9 = .int .i64 x9_1 ∧ Aside0 (impl_hexOf.l0 kq a0 x4_1 (a0.size : Int) x9_1 = some (r1, r2)) ∧ Aside0 (kq ≤ k) ∧ Drawn0 w w')
  case atStart => exact ⟨(0), (0), (by first | rfl | (simp; done) | (simp [*]; done)), (by first | rfl | (simp; done) | (simp [*]; done)), H', ⟨Nat.le_refl _⟩, by repeat (first | exact Drawn0.refl _ | apply Drawn0.step)⟩
  case round =>
    clear H'
    obtain ⟨x4_1, x9_1, rfl, rfl, HA, HK1, ⟨m1, rfl⟩⟩ := hrel
    cases gk with
    | zero => exact absurd HA.out (by simp [impl_hexOf.l0])
    | succ k1 =>
      have H := HA.out
      clear HA
      simp only [impl_hexOf.l0] at H
      by_cases c2 : x9_1 < (a0.size : Int)
      · rw [if_pos c2] at H
        have c2b0 : decide (x9_1 < (a0.size : Int)) = true := decide_eq_true c2
        clear c2
        by_cases c3 : 0 ≤ x9_1
        · rw [if_pos c3] at H
          have c3b0 : decide (0 ≤ x9_1) = true := decide_eq_true c3
          clear c3
          by_cases c4 : x9_1 < (a0.size : Int)
          · rw [if_pos c4] at H
            have c4b0 : decide (x9_1 < (a0.size : Int)) = true := decide_eq_true c4
            clear c4
            have HC6 := Aside0.mk H
            clear H
            have p5 : 0 ≤ (x9_1 : Int) := of_decide_eq_true (by first | (with_reducible assumption) | assumption)
            have q5 : x9_1 < (a0.size : Int) := of_decide_eq_true (by first | (with_reducible assumption) | assumption)
            have hx5 := bt_at a0 x9_1
            replace p5 := eq_true p5
            replace q5 := eq_true q5
            go_upto_region 7 with (fail)
            go_cut [15] (fun v15 wc => ∃ (kq : Nat) (x15_5 : Bool), v15 = .bool x15_5 ∧ Aside0 (impl_hexOf.j1 kq a0 x4_1 (bt a0 x9_1) (a0.size : Int) x9_1 x15_5 = some (r1, r2)) ∧ Aside0 (kq ≤ k1) ∧ Drawn0 w wc)
            case first =>
              have H := HC6.out
              clear HC6
              by_cases c7 : (bt a0 x9_1) ≥ 48
              · rw [if_pos c7] at H
                have c7b0 : decide (48 ≤ (bt a0 x9_1)) = true := decide_eq_true c7
                clear c7
                (first | rw [c7b0] | (simp only [i64_w, i32_w]; rw [c7b0]) | skip)
                have H' := Aside0.mk H
                clear H
                go_wp2
                go_meet
                case rel => exact ⟨_, (decide ((bt a0 x9_1) ≤ 57)), (by first | rfl | (simp; done) | (simp [*]; done)), H', ⟨by have := HK1.out; first | omega | exact Nat.le_refl _⟩, by repeat (first | exact Drawn0.refl _ | apply Drawn0.step)⟩
              · rw [if_neg c7] at H
                have c7b0 : decide (48 ≤ (bt a0 x9_1)) = false := decide_eq_false c7
                clear c7
                (first | rw [c7b0] | (simp only [i64_w, i32_w]; rw [c7b0]) | skip)
                have H' := Aside0.mk H
                clear H
                go_wp2
                go_meet
                case rel => exact ⟨_, (false), (by first | rfl | (simp; done) | (simp [*]; done)), H', ⟨by have := HK1.out; first | omega | exact Nat.le_refl _⟩, by repeat (first | exact Drawn0.refl _ | apply Drawn0.step)⟩
            case rest =>
              clear HC6
              try clear c2
              try clear c2b0
              try clear p2
              try clear c3
              try clear c3b0
              try clear c4
              try clear c4b0
              try clear p5
              try clear q5
              try clear hx5
              try clear c7
              try clear c7b0
              try clear p5
              try clear q5
              obtain ⟨kq, x15_5, rfl, HA, HJ5, ⟨mc5, rfl⟩⟩ := hcut
              cases kq with
              | zero => exact absurd HA.out (by simp [impl_hexOf.j1])
              | succ kj5 =>
                have H := HA.out
                clear HA
                simp only [impl_hexOf.j1] at H
                by_cases c8 : x15_5 = true
                · subst c8
                  have H1 : (impl_hexOf.l0 kj5 a0 (wrap64 ((wrap64 (16 * x4_1)) + (((bt a0 x9_1) - 48) % 256))) (a0.size : Int) (wrap64 (x9_1 + 1))) = some (r1, r2) := by rw [if_pos rfl] at H; exact H
                  clear H
                  have H := H1
                  clear H1
                  have H' := Aside0.mk H
                  clear H
                  go_wp2
                  go_roundg kj5
                  case measure => have := HK1.out; have := HJ5.out; omega
                  case rel => exact ⟨(wrap64 ((wrap64 (16 * x4_1)) + (((bt a0 x9_1) - 48) % 256))), (wrap64 (x9_1 + 1)), (by first | rfl | (simp; done) | (simp [*]; done)), (by first | rfl | (simp; done) | (simp [*]; done)), H', ⟨by have := HK1.out; have := HJ5.out; omega⟩, by repeat (first | exact Drawn0.refl _ | apply Drawn0.step)⟩
                · replace c8 := Bool.eq_false_iff.mpr c8
                  subst c8
                  have H1 : (if (bt a0 x9_1) ≥ 97 then (if (bt a0 x9_1) ≤ 102 then (impl_hexOf.l0 kj5 a0 (wrap64 ((wrap64 ((wrap64 (16 * x4_1)) + (((bt a0 x9_1) - 97) % 256))) + 10)) (a0.size : Int) (wrap64 (x9_1 + 1))) else (some (0, false))) else (some (0, false))) = some (r1, r2) := by rw [if_neg (show ¬ (false = true) by decide)] at H; exact H
                  clear H
                  have H := H1
                  clear H1
                  by_cases c9 : (bt a0 x9_1) ≥ 97
                  · rw [if_pos c9] at H
                    have c9b0 : decide (97 ≤ (bt a0 x9_1)) = true := decide_eq_true c9
                    clear c9
                    by_cases c10 : (bt a0 x9_1) ≤ 102
                    · rw [if_pos c10] at H
                      have c10b0 : decide ((bt a0 x9_1) ≤ 102) = true := decide_eq_true c10
                      clear c10
                      have H' := Aside0.mk H
                      clear H
                      go_wp2
                      go_roundg kj5
                      case measure => have := HK1.out; have := HJ5.out; omega
                      case rel => exact ⟨(wrap64 ((wrap64 ((wrap64 (16 * x4_1)) + (((bt a0 x9_1) - 97) % 256))) + 10)), (wrap64 (x9_1 + 1)), (by first | rfl | (simp; done) | (simp [*]; done)), (by first | rfl | (simp; done) | (simp [*]; done)), H', ⟨by have := HK1.out; have := HJ5.out; omega⟩, by repeat (first | exact Drawn0.refl _ | apply Drawn0.step)⟩
                    · rw [if_neg c10] at H
                      have c10b0 : decide ((bt a0 x9_1) ≤ 102) = false := decide_eq_false c10
                      clear c10
                      simp only [Option.some.injEq, Prod.mk.injEq] at H
                      obtain ⟨rfl, rfl⟩ := H
                      go_wp2
                      go_ret2
                      exact ⟨by first | rfl | (simp; done) | (simp [*]; done), by repeat (first | exact Drawn0.refl _ | apply Drawn0.step)⟩
                  · rw [if_neg c9] at H
                    have c9b0 : decide (97 ≤ (bt a0 x9_1)) = false := decide_eq_false c9
                    clear c9
                    simp only [Option.some.injEq, Prod.mk.injEq] at H
                    obtain ⟨rfl, rfl⟩ := H
                    go_wp2
                    go_ret2
                    exact ⟨by first | rfl | (simp; done) | (simp [*]; done), by repeat (first | exact Drawn0.refl _ | apply Drawn0.step)⟩
          · rw [if_neg c4] at H
            exact absurd H (by simp)
        · rw [if_neg c3] at H
          exact absurd H (by simp)
      · rw [if_neg c2] at H
        have c2b0 : decide (x9_1 < (a0.size : Int)) = false := decide_eq_false c2
        clear c2
        simp only [Option.some.injEq, Prod.mk.injEq] at H
        obtain ⟨rfl, rfl⟩ := H
        go_wp2
        go_ret2
        exact ⟨by first | rfl | (simp; done) | (simp [*]; done), by repeat (first | exact Drawn0.refl _ | apply Drawn0.step)⟩

-- NOT PRINTED: function 59 (impl_scanner_text)

-- STUB: function 60 (strings_Contains): see YtgiaogocdihhhaaDoorSFnExactTokens

-- NOT PRINTED: function 32 (impl_scanner_lexeme)

-- NOT PRINTED: function 15 (impl_Tokens)

/-! ### laws_eqToken: function 33 -/
end Go.Proofs.YtgiaogocdihhhaaDoor.PFnExactTokens
