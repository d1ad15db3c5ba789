-- Written by a program of this session (wip/print2.sh) out of the translation.
import Derived.Test.YtonhmkllfbagmaaPFnExactTxFairx0
import Derived.Test.YtonhmkllfbagmaaPFnExactTxFairx4
namespace Go.Proofs.Ytonhmkllfbagmaa.PFnExactTxFair
open Go.RowKit Go.Proofs.YtonhmkllfbagmaaW.PrintWords Go.Proofs.YtonhmkllfbagmaaW.PrintLast Go.Proofs.YtonhmkllfbagmaaW.PrintMore
attribute [local go_sem] max2_int min2_int max_two min_two max_three min_three max_four min_four   -- for this text's walks alone
set_option linter.unusedVariables false
set_option linter.unusedSimpArgs false

/-! ### laws_heldTxEventS: function 48 -/
def laws_heldTxEventS.l0 : Nat → List (S53) → Int → Int → Option (Int)
  | 0, _, _, _ => none
  | k + 1, x0, x1, x5 => if x5 < (x0.length : Int) then (if 0 ≤ x5 then (if ((rd_T53 x0 x5).f0) = x1 then (if ((rd_T53 x0 x5).f1) = (wrap64 (x1 + 1)) then (if ((rd_T53 x0 x5).f2) = (wrap64 ((wrap64 (x1 + 1)) + 1)) then (if ((rd_T53 x0 x5).f3) = (wrap64 ((wrap64 ((wrap64 (x1 + 1)) + 1)) + 1)) then (if ((rd_T53 x0 x5).f4) = (wrap64 ((wrap64 ((wrap64 ((wrap64 (x1 + 1)) + 1)) + 1)) + 1)) then (if ((rd_T53 x0 x5).f5) = (wrap64 ((wrap64 ((wrap64 ((wrap64 ((wrap64 (x1 + 1)) + 1)) + 1)) + 1)) + 1)) then (laws_heldTxEventS.l0 k x0 (wrap64 ((wrap64 ((wrap64 ((wrap64 ((wrap64 ((wrap64 (x1 + 1)) + 1)) + 1)) + 1)) + 1)) + 1)) (wrap64 (x5 + 1))) else (some (-1))) else (some (-1))) else (some (-1))) else (some (-1))) else (some (-1))) else (some (-1))) else (none)) else (some x1)
def laws_heldTxEventS.f (k : Nat) (l0 : List (S53)) (a1 : Int) : Option (Int) := laws_heldTxEventS.l0 k l0 a1 0
set_option maxHeartbeats 8000000 in
set_option maxRecDepth 100000 in
theorem laws_heldTxEventS.calls (k : Nat) (A0 : Option Addr) (c0 : Nat) (l0 : List (S53)) (a1 : Int) (r : Int) (w : World) (hr0 : Kd.C k53 w A0 l0.length l0) (hc0 : l0.length ≤ c0) (h : laws_heldTxEventS.f k l0 a1 = some r) :
    Calls Try.prog 48 #[.slice A0 l0.length c0, .int .i64 a1] w fun e w' => e = .returned (.int .i64 r) ∧ Drawn0 w w' := by
  have HR0 := Aside0.mk hr0
  have HC0 := Aside0.mk hc0
  clear hr0 hc0
  have H : (laws_heldTxEventS.l0 k l0 a1 0) = some r := h
  clear h
  have H' := Aside0.mk H
  clear H
  go_enter Try.func48, Try.ntmps48
  go_wp2
  go_loopg [1, 5] k (fun kq v1 v5 w' => ∃ (x1_1 : Int) (x5_1 : Int), v1 = .int .i64 x1_1 ∧ v5 = .int .i64 x5_1 ∧ Aside0 (laws_heldTxEventS.l0 kq l0 x1_1 x5_1 = some r) ∧ Aside0 (kq ≤ k) ∧ Drawn0 w w')
  case atStart => exact ⟨(a1), (0), (by first | rfl | (simp; done) | (simp [*]; done)), (by first | rfl | (simp; done) | (simp [*]; done)), H', ⟨Nat.le_refl _⟩, by repeat (first | exact Drawn0.refl _ | apply Drawn0.step)⟩
  case round =>
    clear H'
    try clear p2
    obtain ⟨x1_1, x5_1, rfl, rfl, HA, HK1, ⟨m1, rfl⟩⟩ := hrel
    cases gk with
    | zero => exact absurd HA.out (by simp [laws_heldTxEventS.l0])
    | succ k1 =>
      have H := HA.out
      clear HA
      simp only [laws_heldTxEventS.l0] at H
      by_cases c3 : x5_1 < (l0.length : Int)
      · rw [if_pos c3] at H
        have c3b0 : decide (x5_1 < (l0.length : Int)) = true := decide_eq_true c3
        clear c3
        by_cases c4 : 0 ≤ x5_1
        · rw [if_pos c4] at H
          have c4b0 : decide (0 ≤ x5_1) = true := decide_eq_true c4
          clear c4
          by_cases c5 : ((rd_T53 l0 x5_1).f0) = x1_1
          · rw [if_pos c5] at H
            have c5b0 : (((rd_T53 l0 x5_1).f0) == x1_1) = true := beq_iff_eq.mpr c5
            have c5b1 : (((rd_T53 l0 x5_1).f0) != x1_1) = false := bne_eq_false_iff_eq.mpr c5
            clear c5
            by_cases c6 : ((rd_T53 l0 x5_1).f1) = (wrap64 (x1_1 + 1))
            · rw [if_pos c6] at H
              have c6b0 : (((rd_T53 l0 x5_1).f1) == (wrap64 (x1_1 + 1))) = true := beq_iff_eq.mpr c6
              have c6b1 : (((rd_T53 l0 x5_1).f1) != (wrap64 (x1_1 + 1))) = false := bne_eq_false_iff_eq.mpr c6
              clear c6
              by_cases c7 : ((rd_T53 l0 x5_1).f2) = (wrap64 ((wrap64 (x1_1 + 1)) + 1))
              · rw [if_pos c7] at H
                have c7b0 : (((rd_T53 l0 x5_1).f2) == (wrap64 ((wrap64 (x1_1 + 1)) + 1))) = true := beq_iff_eq.mpr c7
                have c7b1 : (((rd_T53 l0 x5_1).f2) != (wrap64 ((wrap64 (x1_1 + 1)) + 1))) = false := bne_eq_false_iff_eq.mpr c7
                clear c7
                by_cases c8 : ((rd_T53 l0 x5_1).f3) = (wrap64 ((wrap64 ((wrap64 (x1_1 + 1)) + 1)) + 1))
                · rw [if_pos c8] at H
                  have c8b0 : (((rd_T53 l0 x5_1).f3) == (wrap64 ((wrap64 ((wrap64 (x1_1 + 1)) + 1)) + 1))) = true := beq_iff_eq.mpr c8
                  have c8b1 : (((rd_T53 l0 x5_1).f3) != (wrap64 ((wrap64 ((wrap64 (x1_1 + 1)) + 1)) + 1))) = false := bne_eq_false_iff_eq.mpr c8
                  clear c8
                  by_cases c9 : ((rd_T53 l0 x5_1).f4) = (wrap64 ((wrap64 ((wrap64 ((wrap64 (x1_1 + 1)) + 1)) + 1)) + 1))
                  · rw [if_pos c9] at H
                    have c9b0 : (((rd_T53 l0 x5_1).f4) == (wrap64 ((wrap64 ((wrap64 ((wrap64 (x1_1 + 1)) + 1)) + 1)) + 1))) = true := beq_iff_eq.mpr c9
                    have c9b1 : (((rd_T53 l0 x5_1).f4) != (wrap64 ((wrap64 ((wrap64 ((wrap64 (x1_1 + 1)) + 1)) + 1)) + 1))) = false := bne_eq_false_iff_eq.mpr c9
                    clear c9
                    by_cases c10 : ((rd_T53 l0 x5_1).f5) = (wrap64 ((wrap64 ((wrap64 ((wrap64 ((wrap64 (x1_1 + 1)) + 1)) + 1)) + 1)) + 1))
                    · rw [if_pos c10] at H
                      have c10b0 : (((rd_T53 l0 x5_1).f5) == (wrap64 ((wrap64 ((wrap64 ((wrap64 ((wrap64 (x1_1 + 1)) + 1)) + 1)) + 1)) + 1))) = true := beq_iff_eq.mpr c10
                      have c10b1 : (((rd_T53 l0 x5_1).f5) != (wrap64 ((wrap64 ((wrap64 ((wrap64 ((wrap64 (x1_1 + 1)) + 1)) + 1)) + 1)) + 1))) = false := bne_eq_false_iff_eq.mpr c10
                      clear c10
                      have H' := Aside0.mk H
                      clear H
                      have p279 : 0 ≤ (x5_1 : Int) := of_decide_eq_true (by assumption)
                      have q279 : x5_1 < (l0.length : Int) := of_decide_eq_true (by assumption)
                      obtain ⟨ad279, e279, hx279_0, hx279_1, hx279_2, hx279_3, hx279_4, hx279_5⟩ := at_T53 HR0.out x5_1 p279 q279
                      cases e279
                      replace p279 := eq_true p279
                      replace q279 := eq_true q279
                      have p280 : 0 ≤ (x5_1 : Int) := of_decide_eq_true (by assumption)
                      have q280 : x5_1 < (l0.length : Int) := of_decide_eq_true (by assumption)
                      obtain ⟨ad280, e280, hx280_0, hx280_1, hx280_2, hx280_3, hx280_4, hx280_5⟩ := at_T53 HR0.out x5_1 p280 q280
                      obtain rfl : ad279 = ad280 := (by injection e280)
                      replace p280 := eq_true p280
                      replace q280 := eq_true q280
                      have p281 : 0 ≤ (x5_1 : Int) := of_decide_eq_true (by assumption)
                      have q281 : x5_1 < (l0.length : Int) := of_decide_eq_true (by assumption)
                      obtain ⟨ad281, e281, hx281_0, hx281_1, hx281_2, hx281_3, hx281_4, hx281_5⟩ := at_T53 HR0.out x5_1 p281 q281
                      obtain rfl : ad279 = ad281 := (by injection e281)
                      replace p281 := eq_true p281
                      replace q281 := eq_true q281
                      have p282 : 0 ≤ (x5_1 : Int) := of_decide_eq_true (by assumption)
                      have q282 : x5_1 < (l0.length : Int) := of_decide_eq_true (by assumption)
                      obtain ⟨ad282, e282, hx282_0, hx282_1, hx282_2, hx282_3, hx282_4, hx282_5⟩ := at_T53 HR0.out x5_1 p282 q282
                      obtain rfl : ad279 = ad282 := (by injection e282)
                      replace p282 := eq_true p282
                      replace q282 := eq_true q282
                      have p283 : 0 ≤ (x5_1 : Int) := of_decide_eq_true (by assumption)
                      have q283 : x5_1 < (l0.length : Int) := of_decide_eq_true (by assumption)
                      obtain ⟨ad283, e283, hx283_0, hx283_1, hx283_2, hx283_3, hx283_4, hx283_5⟩ := at_T53 HR0.out x5_1 p283 q283
                      obtain rfl : ad279 = ad283 := (by injection e283)
                      replace p283 := eq_true p283
                      replace q283 := eq_true q283
                      have p284 : 0 ≤ (x5_1 : Int) := of_decide_eq_true (by assumption)
                      have q284 : x5_1 < (l0.length : Int) := of_decide_eq_true (by assumption)
                      obtain ⟨ad284, e284, hx284_0, hx284_1, hx284_2, hx284_3, hx284_4, hx284_5⟩ := at_T53 HR0.out x5_1 p284 q284
                      obtain rfl : ad279 = ad284 := (by injection e284)
                      replace p284 := eq_true p284
                      replace q284 := eq_true q284
                      go_wp2
                      go_roundg k1
                      case measure => have := HK1.out; omega
                      case rel => exact ⟨(wrap64 ((wrap64 ((wrap64 ((wrap64 ((wrap64 ((wrap64 (x1_1 + 1)) + 1)) + 1)) + 1)) + 1)) + 1)), (wrap64 (x5_1 + 1)), (by first | rfl | (simp; done) | (simp [*]; done)), (by first | rfl | (simp; done) | (simp [*]; done)), H', ⟨by have := HK1.out; omega⟩, by repeat (first | exact Drawn0.refl _ | apply Drawn0.step)⟩
                    · rw [if_neg c10] at H
                      have c10b0 : (((rd_T53 l0 x5_1).f5) == (wrap64 ((wrap64 ((wrap64 ((wrap64 ((wrap64 (x1_1 + 1)) + 1)) + 1)) + 1)) + 1))) = false := beq_eq_false_iff_ne.mpr c10
                      have c10b1 : (((rd_T53 l0 x5_1).f5) != (wrap64 ((wrap64 ((wrap64 ((wrap64 ((wrap64 (x1_1 + 1)) + 1)) + 1)) + 1)) + 1))) = true := bne_iff_ne.mpr c10
                      obtain rfl := Option.some.inj H
                      have p279 : 0 ≤ (x5_1 : Int) := of_decide_eq_true (by assumption)
                      have q279 : x5_1 < (l0.length : Int) := of_decide_eq_true (by assumption)
                      obtain ⟨ad279, e279, hx279_0, hx279_1, hx279_2, hx279_3, hx279_4, hx279_5⟩ := at_T53 HR0.out x5_1 p279 q279
                      cases e279
                      replace p279 := eq_true p279
                      replace q279 := eq_true q279
                      have p280 : 0 ≤ (x5_1 : Int) := of_decide_eq_true (by assumption)
                      have q280 : x5_1 < (l0.length : Int) := of_decide_eq_true (by assumption)
                      obtain ⟨ad280, e280, hx280_0, hx280_1, hx280_2, hx280_3, hx280_4, hx280_5⟩ := at_T53 HR0.out x5_1 p280 q280
                      obtain rfl : ad279 = ad280 := (by injection e280)
                      replace p280 := eq_true p280
                      replace q280 := eq_true q280
                      have p281 : 0 ≤ (x5_1 : Int) := of_decide_eq_true (by assumption)
                      have q281 : x5_1 < (l0.length : Int) := of_decide_eq_true (by assumption)
                      obtain ⟨ad281, e281, hx281_0, hx281_1, hx281_2, hx281_3, hx281_4, hx281_5⟩ := at_T53 HR0.out x5_1 p281 q281
                      obtain rfl : ad279 = ad281 := (by injection e281)
                      replace p281 := eq_true p281
                      replace q281 := eq_true q281
                      have p282 : 0 ≤ (x5_1 : Int) := of_decide_eq_true (by assumption)
                      have q282 : x5_1 < (l0.length : Int) := of_decide_eq_true (by assumption)
                      obtain ⟨ad282, e282, hx282_0, hx282_1, hx282_2, hx282_3, hx282_4, hx282_5⟩ := at_T53 HR0.out x5_1 p282 q282
                      obtain rfl : ad279 = ad282 := (by injection e282)
                      replace p282 := eq_true p282
                      replace q282 := eq_true q282
                      have p283 : 0 ≤ (x5_1 : Int) := of_decide_eq_true (by assumption)
                      have q283 : x5_1 < (l0.length : Int) := of_decide_eq_true (by assumption)
                      obtain ⟨ad283, e283, hx283_0, hx283_1, hx283_2, hx283_3, hx283_4, hx283_5⟩ := at_T53 HR0.out x5_1 p283 q283
                      obtain rfl : ad279 = ad283 := (by injection e283)
                      replace p283 := eq_true p283
                      replace q283 := eq_true q283
                      have p284 : 0 ≤ (x5_1 : Int) := of_decide_eq_true (by assumption)
                      have q284 : x5_1 < (l0.length : Int) := of_decide_eq_true (by assumption)
                      obtain ⟨ad284, e284, hx284_0, hx284_1, hx284_2, hx284_3, hx284_4, hx284_5⟩ := at_T53 HR0.out x5_1 p284 q284
                      obtain rfl : ad279 = ad284 := (by injection e284)
                      replace p284 := eq_true p284
                      replace q284 := eq_true q284
                      go_wp2
                      go_ret
                      exact ⟨by first | rfl | (simp; done) | (simp [*]; done), by repeat (first | exact Drawn0.refl _ | apply Drawn0.step)⟩
                  · rw [if_neg c9] at H
                    have c9b0 : (((rd_T53 l0 x5_1).f4) == (wrap64 ((wrap64 ((wrap64 ((wrap64 (x1_1 + 1)) + 1)) + 1)) + 1))) = false := beq_eq_false_iff_ne.mpr c9
                    have c9b1 : (((rd_T53 l0 x5_1).f4) != (wrap64 ((wrap64 ((wrap64 ((wrap64 (x1_1 + 1)) + 1)) + 1)) + 1))) = true := bne_iff_ne.mpr c9
                    obtain rfl := Option.some.inj H
                    have p279 : 0 ≤ (x5_1 : Int) := of_decide_eq_true (by assumption)
                    have q279 : x5_1 < (l0.length : Int) := of_decide_eq_true (by assumption)
                    obtain ⟨ad279, e279, hx279_0, hx279_1, hx279_2, hx279_3, hx279_4, hx279_5⟩ := at_T53 HR0.out x5_1 p279 q279
                    cases e279
                    replace p279 := eq_true p279
                    replace q279 := eq_true q279
                    have p280 : 0 ≤ (x5_1 : Int) := of_decide_eq_true (by assumption)
                    have q280 : x5_1 < (l0.length : Int) := of_decide_eq_true (by assumption)
                    obtain ⟨ad280, e280, hx280_0, hx280_1, hx280_2, hx280_3, hx280_4, hx280_5⟩ := at_T53 HR0.out x5_1 p280 q280
                    obtain rfl : ad279 = ad280 := (by injection e280)
                    replace p280 := eq_true p280
                    replace q280 := eq_true q280
                    have p281 : 0 ≤ (x5_1 : Int) := of_decide_eq_true (by assumption)
                    have q281 : x5_1 < (l0.length : Int) := of_decide_eq_true (by assumption)
                    obtain ⟨ad281, e281, hx281_0, hx281_1, hx281_2, hx281_3, hx281_4, hx281_5⟩ := at_T53 HR0.out x5_1 p281 q281
                    obtain rfl : ad279 = ad281 := (by injection e281)
                    replace p281 := eq_true p281
                    replace q281 := eq_true q281
                    have p282 : 0 ≤ (x5_1 : Int) := of_decide_eq_true (by assumption)
                    have q282 : x5_1 < (l0.length : Int) := of_decide_eq_true (by assumption)
                    obtain ⟨ad282, e282, hx282_0, hx282_1, hx282_2, hx282_3, hx282_4, hx282_5⟩ := at_T53 HR0.out x5_1 p282 q282
                    obtain rfl : ad279 = ad282 := (by injection e282)
                    replace p282 := eq_true p282
                    replace q282 := eq_true q282
                    have p283 : 0 ≤ (x5_1 : Int) := of_decide_eq_true (by assumption)
                    have q283 : x5_1 < (l0.length : Int) := of_decide_eq_true (by assumption)
                    obtain ⟨ad283, e283, hx283_0, hx283_1, hx283_2, hx283_3, hx283_4, hx283_5⟩ := at_T53 HR0.out x5_1 p283 q283
                    obtain rfl : ad279 = ad283 := (by injection e283)
                    replace p283 := eq_true p283
                    replace q283 := eq_true q283
                    go_wp2
                    go_ret
                    exact ⟨by first | rfl | (simp; done) | (simp [*]; done), by repeat (first | exact Drawn0.refl _ | apply Drawn0.step)⟩
                · rw [if_neg c8] at H
                  have c8b0 : (((rd_T53 l0 x5_1).f3) == (wrap64 ((wrap64 ((wrap64 (x1_1 + 1)) + 1)) + 1))) = false := beq_eq_false_iff_ne.mpr c8
                  have c8b1 : (((rd_T53 l0 x5_1).f3) != (wrap64 ((wrap64 ((wrap64 (x1_1 + 1)) + 1)) + 1))) = true := bne_iff_ne.mpr c8
                  obtain rfl := Option.some.inj H
                  have p279 : 0 ≤ (x5_1 : Int) := of_decide_eq_true (by assumption)
                  have q279 : x5_1 < (l0.length : Int) := of_decide_eq_true (by assumption)
                  obtain ⟨ad279, e279, hx279_0, hx279_1, hx279_2, hx279_3, hx279_4, hx279_5⟩ := at_T53 HR0.out x5_1 p279 q279
                  cases e279
                  replace p279 := eq_true p279
                  replace q279 := eq_true q279
                  have p280 : 0 ≤ (x5_1 : Int) := of_decide_eq_true (by assumption)
                  have q280 : x5_1 < (l0.length : Int) := of_decide_eq_true (by assumption)
                  obtain ⟨ad280, e280, hx280_0, hx280_1, hx280_2, hx280_3, hx280_4, hx280_5⟩ := at_T53 HR0.out x5_1 p280 q280
                  obtain rfl : ad279 = ad280 := (by injection e280)
                  replace p280 := eq_true p280
                  replace q280 := eq_true q280
                  have p281 : 0 ≤ (x5_1 : Int) := of_decide_eq_true (by assumption)
                  have q281 : x5_1 < (l0.length : Int) := of_decide_eq_true (by assumption)
                  obtain ⟨ad281, e281, hx281_0, hx281_1, hx281_2, hx281_3, hx281_4, hx281_5⟩ := at_T53 HR0.out x5_1 p281 q281
                  obtain rfl : ad279 = ad281 := (by injection e281)
                  replace p281 := eq_true p281
                  replace q281 := eq_true q281
                  have p282 : 0 ≤ (x5_1 : Int) := of_decide_eq_true (by assumption)
                  have q282 : x5_1 < (l0.length : Int) := of_decide_eq_true (by assumption)
                  obtain ⟨ad282, e282, hx282_0, hx282_1, hx282_2, hx282_3, hx282_4, hx282_5⟩ := at_T53 HR0.out x5_1 p282 q282
                  obtain rfl : ad279 = ad282 := (by injection e282)
                  replace p282 := eq_true p282
                  replace q282 := eq_true q282
                  go_wp2
                  go_ret
                  exact ⟨by first | rfl | (simp; done) | (simp [*]; done), by repeat (first | exact Drawn0.refl _ | apply Drawn0.step)⟩
              · rw [if_neg c7] at H
                have c7b0 : (((rd_T53 l0 x5_1).f2) == (wrap64 ((wrap64 (x1_1 + 1)) + 1))) = false := beq_eq_false_iff_ne.mpr c7
                have c7b1 : (((rd_T53 l0 x5_1).f2) != (wrap64 ((wrap64 (x1_1 + 1)) + 1))) = true := bne_iff_ne.mpr c7
                obtain rfl := Option.some.inj H
                have p279 : 0 ≤ (x5_1 : Int) := of_decide_eq_true (by assumption)
                have q279 : x5_1 < (l0.length : Int) := of_decide_eq_true (by assumption)
                obtain ⟨ad279, e279, hx279_0, hx279_1, hx279_2, hx279_3, hx279_4, hx279_5⟩ := at_T53 HR0.out x5_1 p279 q279
                cases e279
                replace p279 := eq_true p279
                replace q279 := eq_true q279
                have p280 : 0 ≤ (x5_1 : Int) := of_decide_eq_true (by assumption)
                have q280 : x5_1 < (l0.length : Int) := of_decide_eq_true (by assumption)
                obtain ⟨ad280, e280, hx280_0, hx280_1, hx280_2, hx280_3, hx280_4, hx280_5⟩ := at_T53 HR0.out x5_1 p280 q280
                obtain rfl : ad279 = ad280 := (by injection e280)
                replace p280 := eq_true p280
                replace q280 := eq_true q280
                have p281 : 0 ≤ (x5_1 : Int) := of_decide_eq_true (by assumption)
                have q281 : x5_1 < (l0.length : Int) := of_decide_eq_true (by assumption)
                obtain ⟨ad281, e281, hx281_0, hx281_1, hx281_2, hx281_3, hx281_4, hx281_5⟩ := at_T53 HR0.out x5_1 p281 q281
                obtain rfl : ad279 = ad281 := (by injection e281)
                replace p281 := eq_true p281
                replace q281 := eq_true q281
                go_wp2
                go_ret
                exact ⟨by first | rfl | (simp; done) | (simp [*]; done), by repeat (first | exact Drawn0.refl _ | apply Drawn0.step)⟩
            · rw [if_neg c6] at H
              have c6b0 : (((rd_T53 l0 x5_1).f1) == (wrap64 (x1_1 + 1))) = false := beq_eq_false_iff_ne.mpr c6
              have c6b1 : (((rd_T53 l0 x5_1).f1) != (wrap64 (x1_1 + 1))) = true := bne_iff_ne.mpr c6
              obtain rfl := Option.some.inj H
              have p279 : 0 ≤ (x5_1 : Int) := of_decide_eq_true (by assumption)
              have q279 : x5_1 < (l0.length : Int) := of_decide_eq_true (by assumption)
              obtain ⟨ad279, e279, hx279_0, hx279_1, hx279_2, hx279_3, hx279_4, hx279_5⟩ := at_T53 HR0.out x5_1 p279 q279
              cases e279
              replace p279 := eq_true p279
              replace q279 := eq_true q279
              have p280 : 0 ≤ (x5_1 : Int) := of_decide_eq_true (by assumption)
              have q280 : x5_1 < (l0.length : Int) := of_decide_eq_true (by assumption)
              obtain ⟨ad280, e280, hx280_0, hx280_1, hx280_2, hx280_3, hx280_4, hx280_5⟩ := at_T53 HR0.out x5_1 p280 q280
              obtain rfl : ad279 = ad280 := (by injection e280)
              replace p280 := eq_true p280
              replace q280 := eq_true q280
              go_wp2
              go_ret
              exact ⟨by first | rfl | (simp; done) | (simp [*]; done), by repeat (first | exact Drawn0.refl _ | apply Drawn0.step)⟩
          · rw [if_neg c5] at H
            have c5b0 : (((rd_T53 l0 x5_1).f0) == x1_1) = false := beq_eq_false_iff_ne.mpr c5
            have c5b1 : (((rd_T53 l0 x5_1).f0) != x1_1) = true := bne_iff_ne.mpr c5
            obtain rfl := Option.some.inj H
            have p279 : 0 ≤ (x5_1 : Int) := of_decide_eq_true (by assumption)
            have q279 : x5_1 < (l0.length : Int) := of_decide_eq_true (by assumption)
            obtain ⟨ad279, e279, hx279_0, hx279_1, hx279_2, hx279_3, hx279_4, hx279_5⟩ := at_T53 HR0.out x5_1 p279 q279
            cases e279
            replace p279 := eq_true p279
            replace q279 := eq_true q279
            go_wp2
            go_ret
            exact ⟨by first | rfl | (simp; done) | (simp [*]; done), by repeat (first | exact Drawn0.refl _ | apply Drawn0.step)⟩
        · rw [if_neg c4] at H
          exact absurd H (by simp)
      · rw [if_neg c3] at H
        have c3b0 : decide (x5_1 < (l0.length : Int)) = false := decide_eq_false c3
        clear c3
        obtain rfl := Option.some.inj H
        go_wp2
        go_ret
        exact ⟨by first | rfl | (simp; done) | (simp [*]; done), by repeat (first | exact Drawn0.refl _ | apply Drawn0.step)⟩

/-! ### laws_heldTxLog: function 24 -/
-- NOT PRINTED: function 5 (laws_FnExactTxFair)

end Go.Proofs.Ytonhmkllfbagmaa.PFnExactTxFair
