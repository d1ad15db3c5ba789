-- Written by a program of this session (wip/print2.sh) out of the translation.
import Derived.Test.YthkngfieabdelaaPFnExactIsLetterx0
import Derived.Test.YthkngfieabdelaaSFnExactIsLetter
namespace Go.Proofs.Ythkngfieabdelaa.PFnExactIsLetter
open Go.RowKit Go.Proofs.YthkngfieabdelaaW.PrintWords Go.Proofs.YthkngfieabdelaaW.PrintLast Go.Proofs.YthkngfieabdelaaW.PrintMore
attribute [local go_sem] max2_int min2_int max_two min_two max_three min_three max_four min_four   -- for this text's walks alone
set_option linter.unusedVariables false
set_option linter.unusedSimpArgs false

/-! ### spec_IsLetter: function 13 -/
mutual
def spec_IsLetter.j0 : Nat → Int → Bool → Option (Bool)
  | 0, _, _ => none
  | k + 1, x0, x3 => if x3 = true then (some true) else (if x0 ≥ 192 then (spec_IsLetter.j1 k x0 (decide (x0 ≤ 591))) else (spec_IsLetter.j1 k x0 false))
def spec_IsLetter.j1 : Nat → Int → Bool → Option (Bool)
  | 0, _, _ => none
  | k + 1, x0, x22 => if x22 = true then (if x0 = 215 then (some false) else (some (x0 != 247))) else (if x0 ≥ 913 then (if x0 ≤ 937 then (some (x0 != 930)) else (if x0 ≥ 945 then (if x0 ≤ 969 then (some true) else (if x0 ≥ 1040 then (some (decide (x0 ≤ 1103))) else (some false))) else (if x0 ≥ 1040 then (some (decide (x0 ≤ 1103))) else (some false)))) else (if x0 ≥ 945 then (if x0 ≤ 969 then (some true) else (if x0 ≥ 1040 then (some (decide (x0 ≤ 1103))) else (some false))) else (if x0 ≥ 1040 then (some (decide (x0 ≤ 1103))) else (some false))))
end
def spec_IsLetter.f (k : Nat) (a0 : Int) : Option (Bool) := if a0 ≥ 97 then (if a0 ≤ 122 then (spec_IsLetter.j0 k a0 true) else (if a0 ≥ 65 then (if a0 ≤ 90 then (spec_IsLetter.j0 k a0 true) else (spec_IsLetter.j0 k a0 (a0 == 95))) else (spec_IsLetter.j0 k a0 (a0 == 95)))) else (if a0 ≥ 65 then (if a0 ≤ 90 then (spec_IsLetter.j0 k a0 true) else (spec_IsLetter.j0 k a0 (a0 == 95))) else (spec_IsLetter.j0 k a0 (a0 == 95)))
theorem spec_IsLetter.mono_l : ∀ k, (∀ y0 y1, LeO (spec_IsLetter.j0 k y0 y1) (spec_IsLetter.j0 (k + 1) y0 y1)) ∧ (∀ y0 y1, LeO (spec_IsLetter.j1 k y0 y1) (spec_IsLetter.j1 (k + 1) y0 y1))
  | 0 => ⟨fun _ _ r h => by simp [spec_IsLetter.j0] at h, fun _ _ r h => by simp [spec_IsLetter.j1] at h⟩
  | k + 1 => by
    obtain ⟨ih0, ih1⟩ := spec_IsLetter.mono_l k
    refine ⟨?_, ?_⟩
    · intro y0 y1
      unfold spec_IsLetter.j0
      repeat' first
      | (with_reducible exact ih0 _ _)
      | (with_reducible exact ih1 _ _)
      | (with_reducible exact LeO.refl _)
      | (with_reducible exact LeO.none _)
      | (with_reducible refine LeO.ite ?_ ?_)
      | (with_reducible refine LeO.bind ?_ (fun _ => ?_))
      | exact ih0 _ _
      | exact ih1 _ _
      | exact LeO.none _
      | refine LeO.ite ?_ ?_
      | refine LeO.bind ?_ (fun _ => ?_)
    · intro y0 y1
      unfold spec_IsLetter.j1
      repeat' first
      | (with_reducible exact ih0 _ _)
      | (with_reducible exact ih1 _ _)
      | (with_reducible exact LeO.refl _)
      | (with_reducible exact LeO.none _)
      | (with_reducible refine LeO.ite ?_ ?_)
      | (with_reducible refine LeO.bind ?_ (fun _ => ?_))
      | exact ih0 _ _
      | exact ih1 _ _
      | exact LeO.none _
      | refine LeO.ite ?_ ?_
      | refine LeO.bind ?_ (fun _ => ?_)
theorem spec_IsLetter.mono : ∀ a0 k, LeO (spec_IsLetter.f k a0) (spec_IsLetter.f (k + 1) a0) := by
  intro a0 k
  obtain ⟨ih0, ih1⟩ := spec_IsLetter.mono_l k
  unfold spec_IsLetter.f
  repeat' first
      | (with_reducible exact ih0 _ _)
      | (with_reducible exact ih1 _ _)
      | (with_reducible exact LeO.refl _)
      | (with_reducible exact LeO.none _)
      | (with_reducible refine LeO.ite ?_ ?_)
      | (with_reducible refine LeO.bind ?_ (fun _ => ?_))
      | exact ih0 _ _
      | exact ih1 _ _
      | exact LeO.none _
      | refine LeO.ite ?_ ?_
      | refine LeO.bind ?_ (fun _ => ?_)
set_option maxHeartbeats 8000000 in
set_option maxRecDepth 100000 in
theorem spec_IsLetter.calls (k : Nat) (a0 : Int) (r : Bool) (w : World) (h : spec_IsLetter.f k a0 = some r) :
    Calls Try.prog 13 #[.int .i64 a0] w fun e w' => e = .returned (.bool r) ∧ Drawn0 w w' := by
  have H : (if a0 ≥ 97 then (if a0 ≤ 122 then (spec_IsLetter.j0 k a0 true) else (if a0 ≥ 65 then (if a0 ≤ 90 then (spec_IsLetter.j0 k a0 true) else (spec_IsLetter.j0 k a0 (a0 == 95))) else (spec_IsLetter.j0 k a0 (a0 == 95)))) else (if a0 ≥ 65 then (if a0 ≤ 90 then (spec_IsLetter.j0 k a0 true) else (spec_IsLetter.j0 k a0 (a0 == 95))) else (spec_IsLetter.j0 k a0 (a0 == 95)))) = some r := h
  clear h
  have HC2 := Aside0.mk H
  clear H
  go_enter Try.func13, Try.ntmps13
  go_upto_region 1 with (fail)
  go_cut [3] (fun v3 wc => ∃ (kq : Nat) (x3_1 : Bool), v3 = .bool x3_1 ∧ Aside0 (spec_IsLetter.j0 kq a0 x3_1 = some r) ∧ Aside0 (kq ≤ k) ∧ Drawn0 w wc)
  case first =>
    have H := HC2.out
    clear HC2
    by_cases c3 : a0 ≥ 97
    · rw [if_pos c3] at H
      have c3b0 : decide (97 ≤ a0) = true := decide_eq_true c3
      clear c3
      (first | rw [c3b0] | (simp only [i64_w, i32_w]; rw [c3b0]) | skip)
      by_cases c4 : a0 ≤ 122
      · rw [if_pos c4] at H
        have c4b0 : decide (a0 ≤ 122) = true := decide_eq_true c4
        clear c4
        have H' := Aside0.mk H
        clear H
        go_wp2
        go_meet
        case rel => exact ⟨_, (true), (by first | rfl | (simp; done) | (simp [*]; done)), H', ⟨by first | omega | exact Nat.le_refl _⟩, by repeat (first | exact Drawn0.refl _ | apply Drawn0.step)⟩
      · rw [if_neg c4] at H
        have c4b0 : decide (a0 ≤ 122) = false := decide_eq_false c4
        clear c4
        by_cases c5 : a0 ≥ 65
        · rw [if_pos c5] at H
          have c5b0 : decide (65 ≤ a0) = true := decide_eq_true c5
          clear c5
          by_cases c6 : a0 ≤ 90
          · rw [if_pos c6] at H
            have c6b0 : decide (a0 ≤ 90) = true := decide_eq_true c6
            clear c6
            have H' := Aside0.mk H
            clear H
            go_wp2
            go_meet
            case rel => exact ⟨_, (true), (by first | rfl | (simp; done) | (simp [*]; done)), H', ⟨by first | omega | exact Nat.le_refl _⟩, by repeat (first | exact Drawn0.refl _ | apply Drawn0.step)⟩
          · rw [if_neg c6] at H
            have c6b0 : decide (a0 ≤ 90) = false := decide_eq_false c6
            clear c6
            have H' := Aside0.mk H
            clear H
            go_wp2
            go_meet
            case rel => exact ⟨_, ((a0 == 95)), (by first | rfl | (simp; done) | (simp [*]; done)), H', ⟨by first | omega | exact Nat.le_refl _⟩, by repeat (first | exact Drawn0.refl _ | apply Drawn0.step)⟩
        · rw [if_neg c5] at H
          have c5b0 : decide (65 ≤ a0) = false := decide_eq_false c5
          clear c5
          have H' := Aside0.mk H
          clear H
          go_wp2
          go_meet
          case rel => exact ⟨_, ((a0 == 95)), (by first | rfl | (simp; done) | (simp [*]; done)), H', ⟨by first | omega | exact Nat.le_refl _⟩, by repeat (first | exact Drawn0.refl _ | apply Drawn0.step)⟩
    · rw [if_neg c3] at H
      have c3b0 : decide (97 ≤ a0) = false := decide_eq_false c3
      clear c3
      (first | rw [c3b0] | (simp only [i64_w, i32_w]; rw [c3b0]) | skip)
      by_cases c7 : a0 ≥ 65
      · rw [if_pos c7] at H
        have c7b0 : decide (65 ≤ a0) = true := decide_eq_true c7
        clear c7
        by_cases c8 : a0 ≤ 90
        · rw [if_pos c8] at H
          have c8b0 : decide (a0 ≤ 90) = true := decide_eq_true c8
          clear c8
          have H' := Aside0.mk H
          clear H
          go_wp2
          go_meet
          case rel => exact ⟨_, (true), (by first | rfl | (simp; done) | (simp [*]; done)), H', ⟨by first | omega | exact Nat.le_refl _⟩, by repeat (first | exact Drawn0.refl _ | apply Drawn0.step)⟩
        · rw [if_neg c8] at H
          have c8b0 : decide (a0 ≤ 90) = false := decide_eq_false c8
          clear c8
          have H' := Aside0.mk H
          clear H
          go_wp2
          go_meet
          case rel => exact ⟨_, ((a0 == 95)), (by first | rfl | (simp; done) | (simp [*]; done)), H', ⟨by first | omega | exact Nat.le_refl _⟩, by repeat (first | exact Drawn0.refl _ | apply Drawn0.step)⟩
      · rw [if_neg c7] at H
        have c7b0 : decide (65 ≤ a0) = false := decide_eq_false c7
        clear c7
        have H' := Aside0.mk H
        clear H
        go_wp2
        go_meet
        case rel => exact ⟨_, ((a0 == 95)), (by first | rfl | (simp; done) | (simp [*]; done)), H', ⟨by first | omega | exact Nat.le_refl _⟩, by repeat (first | exact Drawn0.refl _ | apply Drawn0.step)⟩
  case rest =>
    clear HC2
    try clear c1
    try clear p2
    try clear c3
    try clear c3b0
    try clear c4
    try clear c4b0
    try clear c5
    try clear c5b0
    try clear c6
    try clear c6b0
    try clear c7
    try clear c7b0
    try clear c8
    try clear c8b0
    obtain ⟨kq, x3_1, rfl, HA, HJ1, ⟨mc1, rfl⟩⟩ := hcut
    cases kq with
    | zero => exact absurd HA.out (by simp [spec_IsLetter.j0])
    | succ kj1 =>
      have H := HA.out
      clear HA
      simp only [spec_IsLetter.j0] at H
      by_cases c9 : x3_1 = true
      · subst c9
        have H1 : (some true) = some r := by rw [if_pos rfl] at H; exact H
        clear H
        have H := H1
        clear H1
        obtain rfl := Option.some.inj H
        go_wp2
        go_ret
        exact ⟨by first | rfl | (simp; done) | (simp [*]; done), by repeat (first | exact Drawn0.refl _ | apply Drawn0.step)⟩
      · replace c9 := Bool.eq_false_iff.mpr c9
        subst c9
        have H1 : (if a0 ≥ 192 then (spec_IsLetter.j1 kj1 a0 (decide (a0 ≤ 591))) else (spec_IsLetter.j1 kj1 a0 false)) = some r := by rw [if_neg (show ¬ (false = true) by decide)] at H; exact H
        clear H
        have H := H1
        clear H1
        have HC10 := Aside0.mk H
        clear H
        go_upto_region 3 with (fail)
        go_cut [22] (fun v22 wc => ∃ (kq : Nat) (x22_9 : Bool), v22 = .bool x22_9 ∧ Aside0 (spec_IsLetter.j1 kq a0 x22_9 = some r) ∧ Aside0 (kq ≤ kj1) ∧ Drawn0 w wc)
        case first =>
          have H := HC10.out
          clear HC10
          by_cases c11 : a0 ≥ 192
          · rw [if_pos c11] at H
            have c11b0 : decide (192 ≤ a0) = true := decide_eq_true c11
            clear c11
            (first | rw [c11b0] | (simp only [i64_w, i32_w]; rw [c11b0]) | skip)
            have H' := Aside0.mk H
            clear H
            go_wp2
            go_meet
            case rel => exact ⟨_, (decide (a0 ≤ 591)), (by first | rfl | (simp; done) | (simp [*]; done)), H', ⟨by have := HJ1.out; first | omega | exact Nat.le_refl _⟩, by repeat (first | exact Drawn0.refl _ | apply Drawn0.step)⟩
          · rw [if_neg c11] at H
            have c11b0 : decide (192 ≤ a0) = false := decide_eq_false c11
            clear c11
            (first | rw [c11b0] | (simp only [i64_w, i32_w]; rw [c11b0]) | skip)
            have H' := Aside0.mk H
            clear H
            go_wp2
            go_meet
            case rel => exact ⟨_, (false), (by first | rfl | (simp; done) | (simp [*]; done)), H', ⟨by have := HJ1.out; first | omega | exact Nat.le_refl _⟩, by repeat (first | exact Drawn0.refl _ | apply Drawn0.step)⟩
        case rest =>
          clear HC10
          try clear c1
          try clear p2
          try clear c3
          try clear c3b0
          try clear c4
          try clear c4b0
          try clear c5
          try clear c5b0
          try clear c6
          try clear c6b0
          try clear c7
          try clear c7b0
          try clear c8
          try clear c8b0
          try clear c9
          try clear c11
          try clear c11b0
          try clear p2
          obtain ⟨kq, x22_9, rfl, HA, HJ9, ⟨mc9, rfl⟩⟩ := hcut
          cases kq with
          | zero => exact absurd HA.out (by simp [spec_IsLetter.j1])
          | succ kj9 =>
            have H := HA.out
            clear HA
            simp only [spec_IsLetter.j1] at H
            by_cases c12 : x22_9 = true
            · subst c12
              have H1 : (if a0 = 215 then (some false) else (some (a0 != 247))) = some r := by rw [if_pos rfl] at H; exact H
              clear H
              have H := H1
              clear H1
              by_cases c13 : a0 = 215
              · rw [if_pos c13] at H
                have c13b0 : (a0 == 215) = true := beq_iff_eq.mpr c13
                have c13b1 : (a0 != 215) = false := bne_eq_false_iff_eq.mpr c13
                clear c13
                obtain rfl := Option.some.inj H
                go_wp2
                go_ret
                exact ⟨by first | rfl | (simp; done) | (simp [*]; done), by repeat (first | exact Drawn0.refl _ | apply Drawn0.step)⟩
              · rw [if_neg c13] at H
                have c13b0 : (a0 == 215) = false := beq_eq_false_iff_ne.mpr c13
                have c13b1 : (a0 != 215) = true := bne_iff_ne.mpr c13
                obtain rfl := Option.some.inj H
                go_wp2
                go_ret
                exact ⟨by first | rfl | (simp; done) | (simp [*]; done), by repeat (first | exact Drawn0.refl _ | apply Drawn0.step)⟩
            · replace c12 := Bool.eq_false_iff.mpr c12
              subst c12
              have H1 : (if a0 ≥ 913 then (if a0 ≤ 937 then (some (a0 != 930)) else (if a0 ≥ 945 then (if a0 ≤ 969 then (some true) else (if a0 ≥ 1040 then (some (decide (a0 ≤ 1103))) else (some false))) else (if a0 ≥ 1040 then (some (decide (a0 ≤ 1103))) else (some false)))) else (if a0 ≥ 945 then (if a0 ≤ 969 then (some true) else (if a0 ≥ 1040 then (some (decide (a0 ≤ 1103))) else (some false))) else (if a0 ≥ 1040 then (some (decide (a0 ≤ 1103))) else (some false)))) = some r := by rw [if_neg (show ¬ (false = true) by decide)] at H; exact H
              clear H
              have H := H1
              clear H1
              by_cases c14 : a0 ≥ 913
              · rw [if_pos c14] at H
                have c14b0 : decide (913 ≤ a0) = true := decide_eq_true c14
                clear c14
                by_cases c15 : a0 ≤ 937
                · rw [if_pos c15] at H
                  have c15b0 : decide (a0 ≤ 937) = true := decide_eq_true c15
                  clear c15
                  obtain rfl := Option.some.inj H
                  go_wp2
                  go_ret
                  exact ⟨by first | rfl | (simp; done) | (simp [*]; done), by repeat (first | exact Drawn0.refl _ | apply Drawn0.step)⟩
                · rw [if_neg c15] at H
                  have c15b0 : decide (a0 ≤ 937) = false := decide_eq_false c15
                  clear c15
                  by_cases c16 : a0 ≥ 945
                  · rw [if_pos c16] at H
                    have c16b0 : decide (945 ≤ a0) = true := decide_eq_true c16
                    clear c16
                    by_cases c17 : a0 ≤ 969
                    · rw [if_pos c17] at H
                      have c17b0 : decide (a0 ≤ 969) = true := decide_eq_true c17
                      clear c17
                      obtain rfl := Option.some.inj H
                      go_wp2
                      go_ret
                      exact ⟨by first | rfl | (simp; done) | (simp [*]; done), by repeat (first | exact Drawn0.refl _ | apply Drawn0.step)⟩
                    · rw [if_neg c17] at H
                      have c17b0 : decide (a0 ≤ 969) = false := decide_eq_false c17
                      clear c17
                      by_cases c18 : a0 ≥ 1040
                      · rw [if_pos c18] at H
                        have c18b0 : decide (1040 ≤ a0) = true := decide_eq_true c18
                        clear c18
                        obtain rfl := Option.some.inj H
                        go_wp2
                        go_ret
                        exact ⟨by first | rfl | (simp; done) | (simp [*]; done), by repeat (first | exact Drawn0.refl _ | apply Drawn0.step)⟩
                      · rw [if_neg c18] at H
                        have c18b0 : decide (1040 ≤ a0) = false := decide_eq_false c18
                        clear c18
                        obtain rfl := Option.some.inj H
                        go_wp2
                        go_ret
                        exact ⟨by first | rfl | (simp; done) | (simp [*]; done), by repeat (first | exact Drawn0.refl _ | apply Drawn0.step)⟩
                  · rw [if_neg c16] at H
                    have c16b0 : decide (945 ≤ a0) = false := decide_eq_false c16
                    clear c16
                    by_cases c19 : a0 ≥ 1040
                    · rw [if_pos c19] at H
                      have c19b0 : decide (1040 ≤ a0) = true := decide_eq_true c19
                      clear c19
                      obtain rfl := Option.some.inj H
                      go_wp2
                      go_ret
                      exact ⟨by first | rfl | (simp; done) | (simp [*]; done), by repeat (first | exact Drawn0.refl _ | apply Drawn0.step)⟩
                    · rw [if_neg c19] at H
                      have c19b0 : decide (1040 ≤ a0) = false := decide_eq_false c19
                      clear c19
                      obtain rfl := Option.some.inj H
                      go_wp2
                      go_ret
                      exact ⟨by first | rfl | (simp; done) | (simp [*]; done), by repeat (first | exact Drawn0.refl _ | apply Drawn0.step)⟩
              · rw [if_neg c14] at H
                have c14b0 : decide (913 ≤ a0) = false := decide_eq_false c14
                clear c14
                by_cases c20 : a0 ≥ 945
                · rw [if_pos c20] at H
                  have c20b0 : decide (945 ≤ a0) = true := decide_eq_true c20
                  clear c20
                  by_cases c21 : a0 ≤ 969
                  · rw [if_pos c21] at H
                    have c21b0 : decide (a0 ≤ 969) = true := decide_eq_true c21
                    clear c21
                    obtain rfl := Option.some.inj H
                    go_wp2
                    go_ret
                    exact ⟨by first | rfl | (simp; done) | (simp [*]; done), by repeat (first | exact Drawn0.refl _ | apply Drawn0.step)⟩
                  · rw [if_neg c21] at H
                    have c21b0 : decide (a0 ≤ 969) = false := decide_eq_false c21
                    clear c21
                    by_cases c22 : a0 ≥ 1040
                    · rw [if_pos c22] at H
                      have c22b0 : decide (1040 ≤ a0) = true := decide_eq_true c22
                      clear c22
                      obtain rfl := Option.some.inj H
                      go_wp2
                      go_ret
                      exact ⟨by first | rfl | (simp; done) | (simp [*]; done), by repeat (first | exact Drawn0.refl _ | apply Drawn0.step)⟩
                    · rw [if_neg c22] at H
                      have c22b0 : decide (1040 ≤ a0) = false := decide_eq_false c22
                      clear c22
                      obtain rfl := Option.some.inj H
                      go_wp2
                      go_ret
                      exact ⟨by first | rfl | (simp; done) | (simp [*]; done), by repeat (first | exact Drawn0.refl _ | apply Drawn0.step)⟩
                · rw [if_neg c20] at H
                  have c20b0 : decide (945 ≤ a0) = false := decide_eq_false c20
                  clear c20
                  by_cases c23 : a0 ≥ 1040
                  · rw [if_pos c23] at H
                    have c23b0 : decide (1040 ≤ a0) = true := decide_eq_true c23
                    clear c23
                    obtain rfl := Option.some.inj H
                    go_wp2
                    go_ret
                    exact ⟨by first | rfl | (simp; done) | (simp [*]; done), by repeat (first | exact Drawn0.refl _ | apply Drawn0.step)⟩
                  · rw [if_neg c23] at H
                    have c23b0 : decide (1040 ≤ a0) = false := decide_eq_false c23
                    clear c23
                    obtain rfl := Option.some.inj H
                    go_wp2
                    go_ret
                    exact ⟨by first | rfl | (simp; done) | (simp [*]; done), by repeat (first | exact Drawn0.refl _ | apply Drawn0.step)⟩

-- STUB: function 14 (impl_IsLetter): see YthkngfieabdelaaSFnExactIsLetter

/-! ### laws_FnExactIsLetter: function 4 -/
def laws_FnExactIsLetter.f (k : Nat) (a0 : Int) : Option (Bool) := (spec_IsLetter.f k a0).bind fun t101 => ((impl_IsLetter.f a0).bind fun t102 => (if (t102 != t101) = true then (some false) else (some true)))
theorem laws_FnExactIsLetter.mono : ∀ a0 k, LeO (laws_FnExactIsLetter.f k a0) (laws_FnExactIsLetter.f (k + 1) a0) := by
  intro a0 k
  unfold laws_FnExactIsLetter.f
  repeat' first
      | (with_reducible exact spec_IsLetter.mono _ _)
      | (with_reducible exact LeO.refl _)
      | (with_reducible exact LeO.none _)
      | (with_reducible refine LeO.ite ?_ ?_)
      | (with_reducible refine LeO.bind ?_ (fun _ => ?_))
      | exact spec_IsLetter.mono _ _
      | exact LeO.none _
      | refine LeO.ite ?_ ?_
      | refine LeO.bind ?_ (fun _ => ?_)
set_option maxHeartbeats 8000000 in
set_option maxRecDepth 100000 in
theorem laws_FnExactIsLetter.calls (k : Nat) (a0 : Int) (r : Bool) (w : World) (h : laws_FnExactIsLetter.f k a0 = some r) :
    Calls Try.prog 4 #[.int .i64 a0] w fun e w' => e = .returned (.bool r) ∧ Below w.heap.size w w' := by
  have HB := Aside0.mk (Below.refl w.heap.size w)
  have H : ((spec_IsLetter.f k a0).bind fun t101 => ((impl_IsLetter.f a0).bind fun t102 => (if (t102 != t101) = true then (some false) else (some true)))) = some r := h
  clear h
  replace H := Option.bind_eq_some_iff.mp H
  obtain ⟨t101, A20, H⟩ := H
  replace H : ((impl_IsLetter.f a0).bind fun t102 => (if (t102 != t101) = true then (some false) else (some true))) = some r := H
  have A2 := Aside0.mk A20
  clear A20
  replace H := Option.bind_eq_some_iff.mp H
  obtain ⟨t102, A30, H⟩ := H
  replace H : (if (t102 != t101) = true then (some false) else (some true)) = some r := H
  have A3 := Aside0.mk A30
  clear A30
  by_cases c4 : (t102 != t101) = true
  · rw [if_pos c4] at H
    have c4b0 : (t102 != t101) = true := c4
    (try (have c4b1 : decide (t102 = t101) = false := by simpa using c4))
    (try (have c4b2 : (t102 == t101) = false := by simpa using c4))
    (try (have c4b3 : ¬ (t102 = t101) := by simpa using c4))
    clear c4
    obtain rfl := Option.some.inj H
    go_enter Try.func4, Try.ntmps4
    go_wp2_with (first | ((with_reducible refine gate_callee (f := 13) rfl ?_); refine goesL_ (some 6) rfl rfl Try.func13 (by kernel_rfl) rfl #[.int .i64 a0] rfl (by (try simp only [List.map_toArray, List.map_cons, List.map_nil]); first | done | rfl | (simp only [List.length_drop, List.length_take]; rfl)) ?_; (with_reducible refine (spec_IsLetter.calls k a0 t101 _ A2.out).mono ?_); rintro e w' ⟨rfl, ⟨nd, rfl⟩⟩; refine ⟨_, rfl, ?_⟩) | ((with_reducible refine gate_callee (f := 14) rfl ?_); refine goesL_ (some 8) rfl rfl Try.func14 (by kernel_rfl) rfl #[.int .i64 a0] rfl (by (try simp only [List.map_toArray, List.map_cons, List.map_nil]); first | done | rfl | (simp only [List.length_drop, List.length_take]; rfl)) ?_; (with_reducible refine (impl_IsLetter.calls a0 t102 _ A3.out).mono ?_); rintro e w5 ⟨rfl, hb⟩; refine ⟨_, rfl, ?_⟩; have n0_ := Aside0.mk (below_step (by repeat (first | (with_reducible first | exact HB.out | apply below_alloc | apply pw_below_drewN | apply below_drew1) | exact HB.out)) hb); clear HB; have HB := n0_; clear n0_; (try clear hb); (try clear hb2); (try clear hk); (try clear hi)))
    go_ret
    exact ⟨by first | rfl | (simp [errW_none, errW_some] <;> rfl) | (simp [*, errW_none, errW_some] <;> rfl), by repeat (first | (with_reducible first | exact HB.out | apply below_alloc | apply pw_below_drewN | apply below_drew1) | exact HB.out)⟩
  · rw [if_neg c4] at H
    have c4b0 : (t102 != t101) = false := by simpa using c4
    (try (have c4b1 : decide (t102 = t101) = true := by simpa using c4))
    (try (have c4b2 : (t102 == t101) = true := by simpa using c4))
    clear c4
    obtain rfl := Option.some.inj H
    go_enter Try.func4, Try.ntmps4
    go_wp2_with (first | ((with_reducible refine gate_callee (f := 13) rfl ?_); refine goesL_ (some 6) rfl rfl Try.func13 (by kernel_rfl) rfl #[.int .i64 a0] rfl (by (try simp only [List.map_toArray, List.map_cons, List.map_nil]); first | done | rfl | (simp only [List.length_drop, List.length_take]; rfl)) ?_; (with_reducible refine (spec_IsLetter.calls k a0 t101 _ A2.out).mono ?_); rintro e w' ⟨rfl, ⟨nd, rfl⟩⟩; refine ⟨_, rfl, ?_⟩) | ((with_reducible refine gate_callee (f := 14) rfl ?_); refine goesL_ (some 8) rfl rfl Try.func14 (by kernel_rfl) rfl #[.int .i64 a0] rfl (by (try simp only [List.map_toArray, List.map_cons, List.map_nil]); first | done | rfl | (simp only [List.length_drop, List.length_take]; rfl)) ?_; (with_reducible refine (impl_IsLetter.calls a0 t102 _ A3.out).mono ?_); rintro e w6 ⟨rfl, hb⟩; refine ⟨_, rfl, ?_⟩; have n0_ := Aside0.mk (below_step (by repeat (first | (with_reducible first | exact HB.out | apply below_alloc | apply pw_below_drewN | apply below_drew1) | exact HB.out)) hb); clear HB; have HB := n0_; clear n0_; (try clear hb); (try clear hb2); (try clear hk); (try clear hi)))
    go_ret
    exact ⟨by first | rfl | (simp [errW_none, errW_some] <;> rfl) | (simp [*, errW_none, errW_some] <;> rfl), by repeat (first | (with_reducible first | exact HB.out | apply below_alloc | apply pw_below_drewN | apply below_drew1) | exact HB.out)⟩

/-- THE ONE PURE STATEMENT of laws_FnExactIsLetter: yours. -/
def laws_FnExactIsLetter.Pure : Prop := ∀ (a0 : Int), (Lit.int .i64 a0).wf = true → ∃ k, laws_FnExactIsLetter.f k a0 = some true
theorem laws_FnExactIsLetter.walk (P : laws_FnExactIsLetter.Pure) (a0 : Int) (w : World) (w0 : (Lit.int .i64 a0).wf = true) :
    Calls Try.prog 4 #[.int .i64 a0] w fun e w' => e = .returned (.bool true) ∧ Below w.heap.size w w' := by
  obtain ⟨k, h⟩ := P a0 w0
  refine (laws_FnExactIsLetter.calls k a0 true w h).mono ?_
  rintro e w' ⟨rfl, hd⟩
  exact ⟨rfl, hd⟩

end Go.Proofs.Ythkngfieabdelaa.PFnExactIsLetter
