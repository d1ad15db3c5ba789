-- Out of the kit's print, slimmed by a program of this session (wip/slim.py).
import Derived.Test.YtgiaogocdihhhaaDoorPFnExactRuneAtx0
namespace Go.Proofs.YtgiaogocdihhhaaDoor.PFnExactRuneAt
open Go.RowKit Go.Proofs.YtgiaogocdihhhaaDoorW.PrintWords Go.Proofs.YtgiaogocdihhhaaDoorW.PrintLast Go.Proofs.YtgiaogocdihhhaaDoorW.PrintMore
attribute [local go_sem] max2_int min2_int max_two min_two max_three min_three max_four min_four   -- for this text's walks alone
set_option linter.unusedVariables false
set_option linter.unusedSimpArgs false

/-! ### spec_l01Tail: function 38 -/
def spec_l01Tail.l0 : Nat → ByteArray → Int → Int → Int → Option (Bool)
  | 0, _, _, _, _ => none
  | k + 1, x0, x1, x2, x7 => if x7 < (wrap64 (x1 + x2)) then (if x7 ≥ (x0.size : Int) then (some false) else (if 0 ≤ x7 then (if x7 < (x0.size : Int) then (if (bt x0 x7) < 128 then (some false) else (if (bt x0 x7) > 191 then (some false) else (spec_l01Tail.l0 k x0 x1 x2 (wrap64 (x7 + 1))))) else (none)) else (none))) else (some true)
def spec_l01Tail.f (k : Nat) (a0 : ByteArray) (a1 : Int) (a2 : Int) : Option (Bool) := spec_l01Tail.l0 k a0 a1 a2 a1
set_option maxHeartbeats 8000000 in
set_option maxRecDepth 100000 in
theorem spec_l01Tail.calls (k : Nat) (a0 : ByteArray) (a1 : Int) (a2 : Int) (r : Bool) (w : World) (h : spec_l01Tail.f k a0 a1 a2 = some r) :
    Calls Tryd.prog 38 #[.string a0, .int .i64 a1, .int .i64 a2] w fun e w' => e = .returned (.bool r) ∧ Drawn0 w w' := by
  have H : (spec_l01Tail.l0 k a0 a1 a2 a1) = some r := h
  clear h
  have H' := Aside0.mk H
  clear H
  go_enter Tryd.func38, Tryd.ntmps38
  go_wp2
  go_loopg [7] k (fun kq v7 w' => ∃ (x7_1 : Int), v7 = .int .i64 x7_1 ∧ Aside0 (spec_l01Tail.l0 kq a0 a1 a2 x7_1 = some r) ∧ Aside0 (kq ≤ k) ∧ Drawn0 w w')
  case atStart => exact ⟨(a1), (by first | rfl | (simp; done) | (simp [*]; done)), H', ⟨Nat.le_refl _⟩, by repeat (first | exact Drawn0.refl _ | apply Drawn0.step)⟩
  case round =>
    clear H'
    try clear p2
    try clear c3
    obtain ⟨x7_1, rfl, HA, HK1, ⟨m1, rfl⟩⟩ := hrel
    cases gk with
    | zero => exact absurd HA.out (by simp [spec_l01Tail.l0])
    | succ k1 =>
      have H := HA.out
      clear HA
      simp only [spec_l01Tail.l0] at H
      by_cases c4 : x7_1 < (wrap64 (a1 + a2))
      · rw [if_pos c4] at H
        have c4b0 : decide (x7_1 < (wrap64 (a1 + a2))) = true := decide_eq_true c4
        clear c4
        by_cases c5 : x7_1 ≥ (a0.size : Int)
        · rw [if_pos c5] at H
          have c5b0 : decide ((a0.size : Int) ≤ x7_1) = true := decide_eq_true c5
          clear c5
          obtain rfl := Option.some.inj H
          go_wp2
          go_ret
          exact ⟨by first | rfl | (simp; done) | (simp [*]; done), by repeat (first | exact Drawn0.refl _ | apply Drawn0.step)⟩
        · rw [if_neg c5] at H
          have c5b0 : decide ((a0.size : Int) ≤ x7_1) = false := decide_eq_false c5
          clear c5
          by_cases c6 : 0 ≤ x7_1
          · rw [if_pos c6] at H
            have c6b0 : decide (0 ≤ x7_1) = true := decide_eq_true c6
            clear c6
            by_cases c7 : x7_1 < (a0.size : Int)
            · rw [if_pos c7] at H
              have c7b0 : decide (x7_1 < (a0.size : Int)) = true := decide_eq_true c7
              clear c7
              by_cases c9 : (bt a0 x7_1) < 128
              · rw [if_pos c9] at H
                have c9b0 : decide ((bt a0 x7_1) < 128) = true := decide_eq_true c9
                clear c9
                obtain rfl := Option.some.inj H
                have p8 : 0 ≤ (x7_1 : Int) := of_decide_eq_true (by first | (with_reducible assumption) | assumption)
                have q8 : x7_1 < (a0.size : Int) := of_decide_eq_true (by first | (with_reducible assumption) | assumption)
                have hx8 := bt_at a0 x7_1
                replace p8 := eq_true p8
                replace q8 := eq_true q8
                go_wp2
                go_ret
                exact ⟨by first | rfl | (simp; done) | (simp [*]; done), by repeat (first | exact Drawn0.refl _ | apply Drawn0.step)⟩
              · rw [if_neg c9] at H
                have c9b0 : decide ((bt a0 x7_1) < 128) = false := decide_eq_false c9
                clear c9
                by_cases c11 : (bt a0 x7_1) > 191
                · rw [if_pos c11] at H
                  have c11b0 : decide (191 < (bt a0 x7_1)) = true := decide_eq_true c11
                  clear c11
                  obtain rfl := Option.some.inj H
                  have p8 : 0 ≤ (x7_1 : Int) := of_decide_eq_true (by first | (with_reducible assumption) | assumption)
                  have q8 : x7_1 < (a0.size : Int) := of_decide_eq_true (by first | (with_reducible assumption) | assumption)
                  have hx8 := bt_at a0 x7_1
                  replace p8 := eq_true p8
                  replace q8 := eq_true q8
                  have p10 : 0 ≤ (x7_1 : Int) := of_decide_eq_true (by first | (with_reducible assumption) | assumption)
                  have q10 : x7_1 < (a0.size : Int) := of_decide_eq_true (by first | (with_reducible assumption) | assumption)
                  have hx10 := bt_at a0 x7_1
                  replace p10 := eq_true p10
                  replace q10 := eq_true q10
                  go_wp2
                  go_ret
                  exact ⟨by first | rfl | (simp; done) | (simp [*]; done), by repeat (first | exact Drawn0.refl _ | apply Drawn0.step)⟩
                · rw [if_neg c11] at H
                  have c11b0 : decide (191 < (bt a0 x7_1)) = false := decide_eq_false c11
                  clear c11
                  have H' := Aside0.mk H
                  clear H
                  have p8 : 0 ≤ (x7_1 : Int) := of_decide_eq_true (by first | (with_reducible assumption) | assumption)
                  have q8 : x7_1 < (a0.size : Int) := of_decide_eq_true (by first | (with_reducible assumption) | assumption)
                  have hx8 := bt_at a0 x7_1
                  replace p8 := eq_true p8
                  replace q8 := eq_true q8
                  have p10 : 0 ≤ (x7_1 : Int) := of_decide_eq_true (by first | (with_reducible assumption) | assumption)
                  have q10 : x7_1 < (a0.size : Int) := of_decide_eq_true (by first | (with_reducible assumption) | assumption)
                  have hx10 := bt_at a0 x7_1
                  replace p10 := eq_true p10
                  replace q10 := eq_true q10
                  go_wp2
                  go_roundg k1
                  case measure => have := HK1.out; omega
                  case rel => exact ⟨(wrap64 (x7_1 + 1)), (by first | rfl | (simp; done) | (simp [*]; done)), H', ⟨by have := HK1.out; omega⟩, by repeat (first | exact Drawn0.refl _ | apply Drawn0.step)⟩
            · rw [if_neg c7] at H
              exact absurd H (by simp)
          · rw [if_neg c6] at H
            exact absurd H (by simp)
      · rw [if_neg c4] at H
        have c4b0 : decide (x7_1 < (wrap64 (a1 + a2))) = false := decide_eq_false c4
        clear c4
        obtain rfl := Option.some.inj H
        go_wp2
        go_ret
        exact ⟨by first | rfl | (simp; done) | (simp [*]; done), by repeat (first | exact Drawn0.refl _ | apply Drawn0.step)⟩

/-! ### spec_l01Rune: function 20 -/
mutual
def spec_l01Rune.j2 : Nat → ByteArray → Int → Int → Int → Option (Int × Int)
  | 0, _, _, _, _ => none
  | k + 1, x0, x1, x7, x8 => if x7 = 0 then (spec_l01Rune.j3 k x0 x1 x7 x8 true) else ((spec_l01Tail.f k x0 (wrap64 (x1 + 1)) x7).bind fun t101 => (spec_l01Rune.j3 k x0 x1 x7 x8 (!t101)))
def spec_l01Rune.j3 : Nat → ByteArray → Int → Int → Int → Bool → Option (Int × Int)
  | 0, _, _, _, _, _ => none
  | k + 1, x0, x1, x7, x8, x54 => if x54 = true then (some (65533, 1)) else (spec_l01Rune.l0 k x0 x1 x7 x8 1)
def spec_l01Rune.l0 : Nat → ByteArray → Int → Int → Int → Int → Option (Int × Int)
  | 0, _, _, _, _, _ => none
  | k + 1, x0, x1, x7, x8, x9 => if x9 ≤ x7 then (if 0 ≤ (wrap64 (x1 + x9)) then (if (wrap64 (x1 + x9)) < (x0.size : Int) then (spec_l01Rune.l0 k x0 x1 x7 (wrap64 ((wrap64 ((wrap64 (x8 * 64)) + (wrap64 (bt x0 (wrap64 (x1 + x9)))))) - 128)) (wrap64 (x9 + 1))) else (none)) else (none)) else ((some (([0, 128, 2048, 65536] : List Int) : List Int)).bind fun y102 => (if 0 ≤ x7 then (if x7 < (y102.length : Int) then (if x8 < (rd y102 x7) then (some (65533, 1)) else (if x8 > 1114111 then (some (65533, 1)) else (if x8 ≥ 55296 then (if x8 ≤ 57343 then (some (65533, 1)) else (some (x8, wrap64 (x7 + 1)))) else (some (x8, wrap64 (x7 + 1)))))) else (none)) else (none)))
def spec_l01Rune.j0 : Nat → ByteArray → Int → Int → Int → Int → Bool → Option (Int × Int)
  | 0, _, _, _, _, _, _ => none
  | k + 1, x0, x1, x6, x7, x8, x18 => if x18 = true then (spec_l01Rune.j2 k x0 x1 1 (wrap64 (x6 - 192))) else (if x6 ≥ 224 then (spec_l01Rune.j1 k x0 x1 x6 x7 x8 (decide (x6 ≤ 239))) else (spec_l01Rune.j1 k x0 x1 x6 x7 x8 false))
def spec_l01Rune.j1 : Nat → ByteArray → Int → Int → Int → Int → Bool → Option (Int × Int)
  | 0, _, _, _, _, _, _ => none
  | k + 1, x0, x1, x6, x7, x8, x27 => if x27 = true then (spec_l01Rune.j2 k x0 x1 2 (wrap64 (x6 - 224))) else (if x6 ≥ 240 then (if x6 ≤ 244 then (spec_l01Rune.j2 k x0 x1 3 (wrap64 (x6 - 240))) else (spec_l01Rune.j2 k x0 x1 x7 x8)) else (spec_l01Rune.j2 k x0 x1 x7 x8))
end
def spec_l01Rune.f (k : Nat) (a0 : ByteArray) (a1 : Int) : Option (Int × Int) := if 0 ≤ a1 then (if a1 < (a0.size : Int) then (if (wrap64 (bt a0 a1)) < 128 then (some (wrap64 (bt a0 a1), 1)) else (if (wrap64 (bt a0 a1)) ≥ 194 then (spec_l01Rune.j0 k a0 a1 (wrap64 (bt a0 a1)) 0 0 (decide ((wrap64 (bt a0 a1)) ≤ 223))) else (spec_l01Rune.j0 k a0 a1 (wrap64 (bt a0 a1)) 0 0 false))) else (none)) else (none)
set_option maxHeartbeats 8000000 in
set_option maxRecDepth 100000 in
theorem spec_l01Rune.calls (k : Nat) (a0 : ByteArray) (a1 : Int) (r1 : Int) (r2 : Int) (w : World) (h : spec_l01Rune.f k a0 a1 = some (r1, r2)) :
    Calls Tryd.prog 20 #[.string a0, .int .i64 a1] w fun e w' => e = .returned (.tuple #[.int .i64 r1, .int .i64 r2]) ∧ Below w.heap.size w w' := by
  have HB := Aside0.mk (Below.refl w.heap.size w)
  have H : (if 0 ≤ a1 then (if a1 < (a0.size : Int) then (if (wrap64 (bt a0 a1)) < 128 then (some (wrap64 (bt a0 a1), 1)) else (if (wrap64 (bt a0 a1)) ≥ 194 then (spec_l01Rune.j0 k a0 a1 (wrap64 (bt a0 a1)) 0 0 (decide ((wrap64 (bt a0 a1)) ≤ 223))) else (spec_l01Rune.j0 k a0 a1 (wrap64 (bt a0 a1)) 0 0 false))) else (none)) else (none)) = some (r1, r2) := h
  clear h
  by_cases c3 : 0 ≤ a1
  · rw [if_pos c3] at H
    have c3b0 : decide (0 ≤ a1) = true := decide_eq_true c3
    clear c3
    by_cases c4 : a1 < (a0.size : Int)
    · rw [if_pos c4] at H
      have c4b0 : decide (a1 < (a0.size : Int)) = true := decide_eq_true c4
      clear c4
      by_cases c6 : (wrap64 (bt a0 a1)) < 128
      · rw [if_pos c6] at H
        have c6b0 : decide ((wrap64 (bt a0 a1)) < 128) = true := decide_eq_true c6
        clear c6
        simp only [Option.some.injEq, Prod.mk.injEq] at H
        obtain ⟨rfl, rfl⟩ := H
        have p5 : 0 ≤ (a1 : Int) := of_decide_eq_true (by first | (with_reducible assumption) | assumption)
        have q5 : a1 < (a0.size : Int) := of_decide_eq_true (by first | (with_reducible assumption) | assumption)
        have hx5 := bt_at a0 a1
        replace p5 := eq_true p5
        replace q5 := eq_true q5
        go_enter Tryd.func20, Tryd.ntmps20
        go_wp2
        go_ret2
        exact ⟨by first | rfl | (simp [errW_none, errW_some] <;> rfl) | (simp [*, errW_none, errW_some] <;> rfl), by repeat (first | (with_reducible first | exact HB.out | apply below_alloc | apply pw_below_drewN | apply below_drew1) | exact HB.out)⟩
      · rw [if_neg c6] at H
        have c6b0 : decide ((wrap64 (bt a0 a1)) < 128) = false := decide_eq_false c6
        clear c6
        have HC7 := Aside0.mk H
        clear H
        have p5 : 0 ≤ (a1 : Int) := of_decide_eq_true (by first | (with_reducible assumption) | assumption)
        have q5 : a1 < (a0.size : Int) := of_decide_eq_true (by first | (with_reducible assumption) | assumption)
        have hx5 := bt_at a0 a1
        replace p5 := eq_true p5
        replace q5 := eq_true q5
        go_enter Tryd.func20, Tryd.ntmps20
        go_upto_block 0 with (fail)
        go_cut [7, 8] (fun v7 v8 wc => ∃ (kq : Nat) (x7_6 : Int) (x8_6 : Int), v7 = .int .i64 x7_6 ∧ v8 = .int .i64 x8_6 ∧ Aside0 (spec_l01Rune.j2 kq a0 a1 x7_6 x8_6 = some (r1, r2)) ∧ Aside0 (kq ≤ k) ∧ Aside0 (Below w.heap.size w wc))
        case first =>
          have H := HC7.out
          clear HC7
          have HC8 := Aside0.mk H
          clear H
          go_upto_region 6 with (fail)
          go_cut [18] (fun v18 wc => ∃ (kq : Nat) (x18_7 : Bool), v18 = .bool x18_7 ∧ Aside0 (spec_l01Rune.j0 kq a0 a1 (wrap64 (bt a0 a1)) 0 0 x18_7 = some (r1, r2)) ∧ Aside0 (kq ≤ k) ∧ Aside0 (Below w.heap.size w wc))
          case first =>
            have H := HC8.out
            clear HC8
            by_cases c9 : (wrap64 (bt a0 a1)) ≥ 194
            · rw [if_pos c9] at H
              have c9b0 : decide (194 ≤ (wrap64 (bt a0 a1))) = true := decide_eq_true c9
              clear c9
              (first | rw [c9b0] | (simp only [i64_w, i32_w]; rw [c9b0]) | skip)
              have H' := Aside0.mk H
              clear H
              go_wp2
              go_meet
              case rel => exact ⟨_, (decide ((wrap64 (bt a0 a1)) ≤ 223)), (by first | rfl | (simp; done) | (simp [*]; done)), H', ⟨by first | omega | exact Nat.le_refl _⟩, ⟨by repeat (first | (with_reducible first | exact HB.out | apply below_alloc | apply pw_below_drewN | apply below_drew1) | exact HB.out)⟩⟩
            · rw [if_neg c9] at H
              have c9b0 : decide (194 ≤ (wrap64 (bt a0 a1))) = false := decide_eq_false c9
              clear c9
              (first | rw [c9b0] | (simp only [i64_w, i32_w]; rw [c9b0]) | skip)
              have H' := Aside0.mk H
              clear H
              go_wp2
              go_meet
              case rel => exact ⟨_, (false), (by first | rfl | (simp; done) | (simp [*]; done)), H', ⟨by first | omega | exact Nat.le_refl _⟩, ⟨by repeat (first | (with_reducible first | exact HB.out | apply below_alloc | apply pw_below_drewN | apply below_drew1) | exact HB.out)⟩⟩
          case rest =>
            clear HC8
            try clear c2
            try clear p2
            try clear c3
            try clear c3b0
            try clear c4
            try clear c4b0
            try clear p5
            try clear q5
            try clear hx5
            try clear c6
            try clear c6b0
            try clear p6
            try clear c9
            try clear c9b0
            try clear p5
            try clear q5
            obtain ⟨kq, x18_7, rfl, HA, HJ7, HB⟩ := hcut
            cases kq with
            | zero => exact absurd HA.out (by simp [spec_l01Rune.j0])
            | succ kj7 =>
              have H := HA.out
              clear HA
              simp only [spec_l01Rune.j0] at H
              by_cases c10 : x18_7 = true
              · subst c10
                have H1 : (spec_l01Rune.j2 kj7 a0 a1 1 (wrap64 ((wrap64 (bt a0 a1)) - 192))) = some (r1, r2) := by rw [if_pos rfl] at H; exact H
                clear H
                have H := H1
                clear H1
                have H' := Aside0.mk H
                clear H
                go_wp2
                go_meet
                case rel => exact ⟨_, (1), (wrap64 ((wrap64 (bt a0 a1)) - 192)), (by first | rfl | (simp; done) | (simp [*]; done)), (by first | rfl | (simp; done) | (simp [*]; done)), H', ⟨by have := HJ7.out; first | omega | exact Nat.le_refl _⟩, ⟨by repeat (first | (with_reducible first | exact HB.out | apply below_alloc | apply pw_below_drewN | apply below_drew1) | exact HB.out)⟩⟩
              · replace c10 := Bool.eq_false_iff.mpr c10
                subst c10
                have H1 : (if (wrap64 (bt a0 a1)) ≥ 224 then (spec_l01Rune.j1 kj7 a0 a1 (wrap64 (bt a0 a1)) 0 0 (decide ((wrap64 (bt a0 a1)) ≤ 239))) else (spec_l01Rune.j1 kj7 a0 a1 (wrap64 (bt a0 a1)) 0 0 false)) = some (r1, r2) := by rw [if_neg (show ¬ (false = true) by decide)] at H; exact H
                clear H
                have H := H1
                clear H1
                have HC11 := Aside0.mk H
                clear H
                go_upto_region 9 with (fail)
                go_cut [27] (fun v27 wc => ∃ (kq : Nat) (x27_10 : Bool), v27 = .bool x27_10 ∧ Aside0 (spec_l01Rune.j1 kq a0 a1 (wrap64 (bt a0 a1)) 0 0 x27_10 = some (r1, r2)) ∧ Aside0 (kq ≤ kj7) ∧ Aside0 (Below w.heap.size w wc))
                case first =>
                  have H := HC11.out
                  clear HC11
                  by_cases c12 : (wrap64 (bt a0 a1)) ≥ 224
                  · rw [if_pos c12] at H
                    have c12b0 : decide (224 ≤ (wrap64 (bt a0 a1))) = true := decide_eq_true c12
                    clear c12
                    (first | rw [c12b0] | (simp only [i64_w, i32_w]; rw [c12b0]) | skip)
                    have H' := Aside0.mk H
                    clear H
                    go_wp2
                    go_meet
                    case rel => exact ⟨_, (decide ((wrap64 (bt a0 a1)) ≤ 239)), (by first | rfl | (simp; done) | (simp [*]; done)), H', ⟨by have := HJ7.out; first | omega | exact Nat.le_refl _⟩, ⟨by repeat (first | (with_reducible first | exact HB.out | apply below_alloc | apply pw_below_drewN | apply below_drew1) | exact HB.out)⟩⟩
                  · rw [if_neg c12] at H
                    have c12b0 : decide (224 ≤ (wrap64 (bt a0 a1))) = false := decide_eq_false c12
                    clear c12
                    (first | rw [c12b0] | (simp only [i64_w, i32_w]; rw [c12b0]) | skip)
                    have H' := Aside0.mk H
                    clear H
                    go_wp2
                    go_meet
                    case rel => exact ⟨_, (false), (by first | rfl | (simp; done) | (simp [*]; done)), H', ⟨by have := HJ7.out; first | omega | exact Nat.le_refl _⟩, ⟨by repeat (first | (with_reducible first | exact HB.out | apply below_alloc | apply pw_below_drewN | apply below_drew1) | exact HB.out)⟩⟩
                case rest =>
                  clear HC11
                  try clear c1
                  try clear c2
                  try clear p2
                  try clear c3
                  try clear c3b0
                  try clear c4
                  try clear c4b0
                  try clear p5
                  try clear q5
                  try clear hx5
                  try clear c6
                  try clear c6b0
                  try clear p6
                  try clear c9
                  try clear c9b0
                  try clear c10
                  try clear c12
                  try clear c12b0
                  try clear p2
                  try clear p5
                  try clear p6
                  try clear q5
                  obtain ⟨kq, x27_10, rfl, HA, HJ10, HB⟩ := hcut
                  cases kq with
                  | zero => exact absurd HA.out (by simp [spec_l01Rune.j1])
                  | succ kj10 =>
                    have H := HA.out
                    clear HA
                    simp only [spec_l01Rune.j1] at H
                    by_cases c13 : x27_10 = true
                    · subst c13
                      have H1 : (spec_l01Rune.j2 kj10 a0 a1 2 (wrap64 ((wrap64 (bt a0 a1)) - 224))) = some (r1, r2) := by rw [if_pos rfl] at H; exact H
                      clear H
                      have H := H1
                      clear H1
                      have H' := Aside0.mk H
                      clear H
                      go_wp2
                      go_meet
                      case rel => exact ⟨_, (2), (wrap64 ((wrap64 (bt a0 a1)) - 224)), (by first | rfl | (simp; done) | (simp [*]; done)), (by first | rfl | (simp; done) | (simp [*]; done)), H', ⟨by have := HJ7.out; have := HJ10.out; first | omega | exact Nat.le_refl _⟩, ⟨by repeat (first | (with_reducible first | exact HB.out | apply below_alloc | apply pw_below_drewN | apply below_drew1) | exact HB.out)⟩⟩
                    · replace c13 := Bool.eq_false_iff.mpr c13
                      subst c13
                      have H1 : (if (wrap64 (bt a0 a1)) ≥ 240 then (if (wrap64 (bt a0 a1)) ≤ 244 then (spec_l01Rune.j2 kj10 a0 a1 3 (wrap64 ((wrap64 (bt a0 a1)) - 240))) else (spec_l01Rune.j2 kj10 a0 a1 0 0)) else (spec_l01Rune.j2 kj10 a0 a1 0 0)) = some (r1, r2) := by rw [if_neg (show ¬ (false = true) by decide)] at H; exact H
                      clear H
                      have H := H1
                      clear H1
                      by_cases c14 : (wrap64 (bt a0 a1)) ≥ 240
                      · rw [if_pos c14] at H
                        have c14b0 : decide (240 ≤ (wrap64 (bt a0 a1))) = true := decide_eq_true c14
                        clear c14
                        by_cases c15 : (wrap64 (bt a0 a1)) ≤ 244
                        · rw [if_pos c15] at H
                          have c15b0 : decide ((wrap64 (bt a0 a1)) ≤ 244) = true := decide_eq_true c15
                          clear c15
                          have H' := Aside0.mk H
                          clear H
                          go_wp2
                          go_meet
                          case rel => exact ⟨_, (3), (wrap64 ((wrap64 (bt a0 a1)) - 240)), (by first | rfl | (simp; done) | (simp [*]; done)), (by first | rfl | (simp; done) | (simp [*]; done)), H', ⟨by have := HJ7.out; have := HJ10.out; first | omega | exact Nat.le_refl _⟩, ⟨by repeat (first | (with_reducible first | exact HB.out | apply below_alloc | apply pw_below_drewN | apply below_drew1) | exact HB.out)⟩⟩
                        · rw [if_neg c15] at H
                          have c15b0 : decide ((wrap64 (bt a0 a1)) ≤ 244) = false := decide_eq_false c15
                          clear c15
                          have H' := Aside0.mk H
                          clear H
                          go_wp2
                          go_meet
                          case rel => exact ⟨_, (0), (0), (by first | rfl | (simp; done) | (simp [*]; done)), (by first | rfl | (simp; done) | (simp [*]; done)), H', ⟨by have := HJ7.out; have := HJ10.out; first | omega | exact Nat.le_refl _⟩, ⟨by repeat (first | (with_reducible first | exact HB.out | apply below_alloc | apply pw_below_drewN | apply below_drew1) | exact HB.out)⟩⟩
                      · rw [if_neg c14] at H
                        have c14b0 : decide (240 ≤ (wrap64 (bt a0 a1))) = false := decide_eq_false c14
                        clear c14
                        have H' := Aside0.mk H
                        clear H
                        go_wp2
                        go_meet
                        case rel => exact ⟨_, (0), (0), (by first | rfl | (simp; done) | (simp [*]; done)), (by first | rfl | (simp; done) | (simp [*]; done)), H', ⟨by have := HJ7.out; have := HJ10.out; first | omega | exact Nat.le_refl _⟩, ⟨by repeat (first | (with_reducible first | exact HB.out | apply below_alloc | apply pw_below_drewN | apply below_drew1) | exact HB.out)⟩⟩
        case rest =>
          clear HC7
          try clear c1
          try clear c2
          try clear p2
          try clear c3
          try clear c3b0
          try clear c4
          try clear c4b0
          try clear p5
          try clear q5
          try clear hx5
          try clear c6
          try clear c6b0
          try clear p6
          try clear c9
          try clear c9b0
          try clear c10
          try clear c12
          try clear c12b0
          try clear c13
          try clear c14
          try clear c14b0
          try clear c15
          try clear c15b0
          try clear p2
          try clear p5
          try clear p6
          try clear q5
          obtain ⟨kq, x7_6, x8_6, rfl, rfl, HA, HJ6, HB⟩ := hcut
          cases kq with
          | zero => exact absurd HA.out (by simp [spec_l01Rune.j2])
          | succ kj6 =>
            have H := HA.out
            clear HA
            simp only [spec_l01Rune.j2] at H
            have HC16 := Aside0.mk H
            clear H
            go_upto_region 15 with (fail)
            go_cut [54] (fun v54 wc => ∃ (kq : Nat) (x54_15 : Bool), v54 = .bool x54_15 ∧ Aside0 (spec_l01Rune.j3 kq a0 a1 x7_6 x8_6 x54_15 = some (r1, r2)) ∧ Aside0 (kq ≤ kj6) ∧ Aside0 (Below w.heap.size w wc))
            case first =>
              have H := HC16.out
              clear HC16
              by_cases c17 : x7_6 = 0
              · rw [if_pos c17] at H
                have c17b0 : (x7_6 == 0) = true := beq_iff_eq.mpr c17
                have c17b1 : (x7_6 != 0) = false := bne_eq_false_iff_eq.mpr c17
                clear c17
                (first | rw [c17b0] | (simp only [i64_w, i32_w]; rw [c17b0]) | skip)
                have H' := Aside0.mk H
                clear H
                go_wp2
                go_meet
                case rel => exact ⟨_, (true), (by first | rfl | (simp; done) | (simp [*]; done)), H', ⟨by have := HJ6.out; first | omega | exact Nat.le_refl _⟩, ⟨by repeat (first | (with_reducible first | exact HB.out | apply below_alloc | apply pw_below_drewN | apply below_drew1) | exact HB.out)⟩⟩
              · rw [if_neg c17] at H
                have c17b0 : (x7_6 == 0) = false := beq_eq_false_iff_ne.mpr c17
                have c17b1 : (x7_6 != 0) = true := bne_iff_ne.mpr c17
                (first | rw [c17b0] | (simp only [i64_w, i32_w]; rw [c17b0]) | skip)
                replace H := Option.bind_eq_some_iff.mp H
                obtain ⟨t101, A180, H⟩ := H
                replace H : (spec_l01Rune.j3 kj6 a0 a1 x7_6 x8_6 (!t101)) = some (r1, r2) := H
                have A18 := Aside0.mk A180
                clear A180
                have H' := Aside0.mk H
                clear H
                go_wp2_with (first | (go_at_call 38; (with_reducible refine (spec_l01Tail.calls kj6 a0 (wrap64 (a1 + 1)) x7_6 t101 _ A18.out).mono ?_); rintro e w' ⟨rfl, ⟨nd, rfl⟩⟩))
                go_meet
                case rel => exact ⟨_, (!t101), (by first | rfl | (simp; done) | (simp [*]; done)), H', ⟨by have := HJ6.out; first | omega | exact Nat.le_refl _⟩, ⟨by repeat (first | (with_reducible first | exact HB.out | apply below_alloc | apply pw_below_drewN | apply below_drew1) | exact HB.out)⟩⟩
            case rest =>
              clear HC16
              try clear c1
              try clear c2
              try clear p2
              try clear c3
              try clear c3b0
              try clear c4
              try clear c4b0
              try clear p5
              try clear q5
              try clear hx5
              try clear c6
              try clear c6b0
              try clear p6
              try clear c9
              try clear c9b0
              try clear c10
              try clear c12
              try clear c12b0
              try clear c13
              try clear c14
              try clear c14b0
              try clear c15
              try clear c15b0
              try clear c17
              try clear c17b0
              try clear c17b1
              try clear p2
              try clear p5
              try clear p6
              try clear q5
              obtain ⟨kq, x54_15, rfl, HA, HJ15, HB⟩ := hcut
              cases kq with
              | zero => exact absurd HA.out (by simp [spec_l01Rune.j3])
              | succ kj15 =>
                have H := HA.out
                clear HA
                simp only [spec_l01Rune.j3] at H
                by_cases c19 : x54_15 = true
                · subst c19
                  have H1 : (some (65533, 1)) = some (r1, r2) := by rw [if_pos rfl] at H; exact H
                  clear H
                  have H := H1
                  clear H1
                  simp only [Option.some.injEq, Prod.mk.injEq] at H
                  obtain ⟨rfl, rfl⟩ := H
                  go_wp2
                  go_ret2
                  exact ⟨by first | rfl | (simp [errW_none, errW_some] <;> rfl) | (simp [*, errW_none, errW_some] <;> rfl), by repeat (first | (with_reducible first | exact HB.out | apply below_alloc | apply pw_below_drewN | apply below_drew1) | exact HB.out)⟩
                · replace c19 := Bool.eq_false_iff.mpr c19
                  subst c19
                  have H1 : (spec_l01Rune.l0 kj15 a0 a1 x7_6 x8_6 1) = some (r1, r2) := by rw [if_neg (show ¬ (false = true) by decide)] at H; exact H
                  clear H
                  have H := H1
                  clear H1
                  have H' := Aside0.mk H
                  clear H
                  go_wp2
                  go_loopg [8, 9] kj15 (fun kq v8 v9 w' => ∃ (x8_3 : Int) (x9_3 : Int), v8 = .int .i64 x8_3 ∧ v9 = .int .i64 x9_3 ∧ Aside0 (spec_l01Rune.l0 kq a0 a1 x7_6 x8_3 x9_3 = some (r1, r2)) ∧ Aside0 (kq ≤ kj15) ∧ Aside0 (Below w.heap.size w w'))
                  case atStart => exact ⟨(x8_6), (1), (by first | rfl | (simp; done) | (simp [*]; done)), (by first | rfl | (simp; done) | (simp [*]; done)), H', ⟨Nat.le_refl _⟩, ⟨by repeat (first | (with_reducible first | exact HB.out | apply below_alloc | apply pw_below_drewN | apply below_drew1) | exact HB.out)⟩⟩
                  case round =>
                    clear H'
                    try clear c1
                    try clear c2
                    try clear p2
                    try clear c3
                    try clear c3b0
                    try clear c4
                    try clear c4b0
                    try clear p5
                    try clear q5
                    try clear hx5
                    try clear c6
                    try clear c6b0
                    try clear p6
                    try clear c9
                    try clear c9b0
                    try clear c10
                    try clear c12
                    try clear c12b0
                    try clear c13
                    try clear c14
                    try clear c14b0
                    try clear c15
                    try clear c15b0
                    try clear c17
                    try clear c17b0
                    try clear c17b1
                    try clear c19
                    try clear p2
                    try clear p5
                    try clear p6
                    try clear q5
                    obtain ⟨x8_3, x9_3, rfl, rfl, HA, HK3, HB⟩ := hrel
                    cases gk with
                    | zero => exact absurd HA.out (by simp [spec_l01Rune.l0])
                    | succ k3 =>
                      have H := HA.out
                      clear HA
                      simp only [spec_l01Rune.l0] at H
                      by_cases c20 : x9_3 ≤ x7_6
                      · rw [if_pos c20] at H
                        have c20b0 : decide (x9_3 ≤ x7_6) = true := decide_eq_true c20
                        clear c20
                        obtain ⟨ji21, hji21⟩ : ∃ j_ : Int, (wrap64 (a1 + x9_3)) = j_ := ⟨_, rfl⟩
                        replace H : (if 0 ≤ (ji21) then (if (ji21) < (a0.size : Int) then (spec_l01Rune.l0 k3 a0 a1 x7_6 (wrap64 ((wrap64 ((wrap64 (x8_3 * 64)) + (wrap64 (bt a0 (ji21))))) - 128)) (wrap64 (x9_3 + 1))) else (none)) else (none)) = some (r1, r2) := by first | (rw [hji21] at H; exact H) | (simp only [hji21] at H ⊢; exact H)
                        have hji21w : (IntKind.i64.wrap (a1 + x9_3)) = ji21 := (i64_w _).trans hji21
                        by_cases c22 : 0 ≤ (ji21)
                        · rw [if_pos c22] at H
                          have c22b0 : decide (0 ≤ (ji21)) = true := decide_eq_true c22
                          clear c22
                          by_cases c23 : (ji21) < (a0.size : Int)
                          · rw [if_pos c23] at H
                            have c23b0 : decide ((ji21) < (a0.size : Int)) = true := decide_eq_true c23
                            clear c23
                            have H' := Aside0.mk H
                            clear H
                            have p24 : 0 ≤ ((ji21) : Int) := of_decide_eq_true (by first | (with_reducible assumption) | assumption)
                            have q24 : (ji21) < (a0.size : Int) := of_decide_eq_true (by first | (with_reducible assumption) | assumption)
                            have hx24 := bt_at a0 (ji21)
                            replace p24 := eq_true p24
                            replace q24 := eq_true q24
                            go_wp2
                            go_roundg k3
                            case measure => have := HJ6.out; have := HJ15.out; have := HK3.out; omega
                            case rel => exact ⟨(wrap64 ((wrap64 ((wrap64 (x8_3 * 64)) + (wrap64 (bt a0 (ji21))))) - 128)), (wrap64 (x9_3 + 1)), (by first | rfl | (simp; done) | (simp only [← hji21] <;> (first | rfl | simp)) | (simp [*]; done)), (by first | rfl | (simp; done) | (simp [*]; done)), H', ⟨by have := HJ6.out; have := HJ15.out; have := HK3.out; omega⟩, ⟨by repeat (first | (with_reducible first | exact HB.out | apply below_alloc | apply pw_below_drewN | apply below_drew1) | exact HB.out)⟩⟩
                          · rw [if_neg c23] at H
                            exact absurd H (by simp)
                        · rw [if_neg c22] at H
                          exact absurd H (by simp)
                      · rw [if_neg c20] at H
                        have c20b0 : decide (x9_3 ≤ x7_6) = false := decide_eq_false c20
                        clear c20
                        obtain ⟨y102, hy102⟩ : ∃ y_ : List Int, y_ = (([0, 128, 2048, 65536] : List Int)) := ⟨_, rfl⟩
                        replace H : (if 0 ≤ x7_6 then (if x7_6 < (y102.length : Int) then (if x8_3 < (rd y102 x7_6) then (some (65533, 1)) else (if x8_3 > 1114111 then (some (65533, 1)) else (if x8_3 ≥ 55296 then (if x8_3 ≤ 57343 then (some (65533, 1)) else (some (x8_3, wrap64 (x7_6 + 1)))) else (some (x8_3, wrap64 (x7_6 + 1)))))) else (none)) else (none)) = some (r1, r2) := by first | (rw [hy102]; with_reducible exact H) | (have H2_ := (Option.bind_some _ _).symm.trans H; rw [hy102]; with_reducible exact H2_) | (have H2_ := (Option.bind_some _ _).symm.trans H; with_reducible exact H2_) | with_reducible exact H | (rw [hy102]; exact H) | exact H
                        have Ny102 := Aside0.mk hy102
                        clear hy102
                        by_cases c25 : 0 ≤ x7_6
                        · rw [if_pos c25] at H
                          have c25b0 : decide (0 ≤ x7_6) = true := decide_eq_true c25
                          clear c25
                          by_cases c26 : x7_6 < (y102.length : Int)
                          · rw [if_pos c26] at H
                            have c26b0 : decide (x7_6 < (y102.length : Int)) = true := decide_eq_true c26
                            clear c26
                            by_cases c27 : x8_3 < (rd y102 x7_6)
                            · rw [if_pos c27] at H
                              have c27b0 : decide (x8_3 < (rd y102 x7_6)) = true := decide_eq_true c27
                              clear c27
                              simp only [Option.some.injEq, Prod.mk.injEq] at H
                              obtain ⟨rfl, rfl⟩ := H
                              go_wp2_with (first | ((with_reducible refine gate_dst (N := 70) rfl ?_); refine Kd.R_lit (Kd.int .i64) _ 3 ?hg (N := 70) ?hd (xs := ([0, 128, 2048, 65536] : List Int)) (inner := [.int .i64 0, .int .i64 128, .int .i64 2048, .int .i64 65536]) (ok := fun _ => True) (okp := fun _ => True) ?hr ?hp (fun _ hk => hk) trivial (Below.refl _ _) (Nat.le_refl _) (by simp) ?_; (case hd => rfl); (case hg => rfl); (case hr => first | (go_simp; done) | (go_simp; rfl)); (case hp => exact (Reps.one (show Kd.M (Kd.int .i64) _ _ _ 0 [.int .i64 0] from rfl) (Reps.one (show Kd.M (Kd.int .i64) _ _ _ 128 [.int .i64 128] from rfl) (Reps.one (show Kd.M (Kd.int .i64) _ _ _ 2048 [.int .i64 2048] from rfl) (Reps.one (show Kd.M (Kd.int .i64) _ _ _ 65536 [.int .i64 65536] from rfl) (Reps.none _ _)))))); intro v103 w28 ho29 hb hg_ hnew_; clear hg_ hnew_; (first | rw [← Ny102.out] at ho29 | (simp only [Int.reduceToNat] at ho29; rw [← Ny102.out] at ho29)); have n0_ := Aside0.mk (Kd.R_lower ho29 (below_size (by repeat (first | (with_reducible first | exact HB.out | apply below_alloc | apply pw_below_drewN | apply below_drew1) | exact HB.out)))); have n1_ := Aside0.mk (below_step (by repeat (first | (with_reducible first | exact HB.out | apply below_alloc | apply pw_below_drewN | apply below_drew1) | exact HB.out)) hb); clear HB; have HO104 := n0_; have HB := n1_; clear n0_ n1_; clear hb ho29; obtain ⟨Ao30, co30, eo30⟩ := Kd.R_slice HO104.out; subst eo30; have p105 : 0 ≤ (x7_6 : Int) := of_decide_eq_true (by first | (with_reducible assumption) | assumption); have q105 : x7_6 < (y102.length : Int) := of_decide_eq_true (by first | (with_reducible assumption) | assumption); obtain ⟨ad105, e105, hx105_0⟩ := Kd.at_int (Kd.R_reads' HO104.out).2.2 x7_6 p105 q105; cases e105; replace p105 := eq_true p105; replace q105 := eq_true q105))
                              go_ret2
                              exact ⟨by first | rfl | (simp [errW_none, errW_some] <;> rfl) | (simp [*, errW_none, errW_some] <;> rfl), by repeat (first | (with_reducible first | exact HB.out | apply below_alloc | apply pw_below_drewN | apply below_drew1) | exact HB.out)⟩
                            · rw [if_neg c27] at H
                              have c27b0 : decide (x8_3 < (rd y102 x7_6)) = false := decide_eq_false c27
                              clear c27
                              by_cases c31 : x8_3 > 1114111
                              · rw [if_pos c31] at H
                                have c31b0 : decide (1114111 < x8_3) = true := decide_eq_true c31
                                clear c31
                                simp only [Option.some.injEq, Prod.mk.injEq] at H
                                obtain ⟨rfl, rfl⟩ := H
                                go_wp2_with (first | ((with_reducible refine gate_dst (N := 70) rfl ?_); refine Kd.R_lit (Kd.int .i64) _ 3 ?hg (N := 70) ?hd (xs := ([0, 128, 2048, 65536] : List Int)) (inner := [.int .i64 0, .int .i64 128, .int .i64 2048, .int .i64 65536]) (ok := fun _ => True) (okp := fun _ => True) ?hr ?hp (fun _ hk => hk) trivial (Below.refl _ _) (Nat.le_refl _) (by simp) ?_; (case hd => rfl); (case hg => rfl); (case hr => first | (go_simp; done) | (go_simp; rfl)); (case hp => exact (Reps.one (show Kd.M (Kd.int .i64) _ _ _ 0 [.int .i64 0] from rfl) (Reps.one (show Kd.M (Kd.int .i64) _ _ _ 128 [.int .i64 128] from rfl) (Reps.one (show Kd.M (Kd.int .i64) _ _ _ 2048 [.int .i64 2048] from rfl) (Reps.one (show Kd.M (Kd.int .i64) _ _ _ 65536 [.int .i64 65536] from rfl) (Reps.none _ _)))))); intro v103 w32 ho33 hb hg_ hnew_; clear hg_ hnew_; (first | rw [← Ny102.out] at ho33 | (simp only [Int.reduceToNat] at ho33; rw [← Ny102.out] at ho33)); have n0_ := Aside0.mk (Kd.R_lower ho33 (below_size (by repeat (first | (with_reducible first | exact HB.out | apply below_alloc | apply pw_below_drewN | apply below_drew1) | exact HB.out)))); have n1_ := Aside0.mk (below_step (by repeat (first | (with_reducible first | exact HB.out | apply below_alloc | apply pw_below_drewN | apply below_drew1) | exact HB.out)) hb); clear HB; have HO104 := n0_; have HB := n1_; clear n0_ n1_; clear hb ho33; obtain ⟨Ao34, co34, eo34⟩ := Kd.R_slice HO104.out; subst eo34; have p105 : 0 ≤ (x7_6 : Int) := of_decide_eq_true (by first | (with_reducible assumption) | assumption); have q105 : x7_6 < (y102.length : Int) := of_decide_eq_true (by first | (with_reducible assumption) | assumption); obtain ⟨ad105, e105, hx105_0⟩ := Kd.at_int (Kd.R_reads' HO104.out).2.2 x7_6 p105 q105; cases e105; replace p105 := eq_true p105; replace q105 := eq_true q105))
                                go_ret2
                                exact ⟨by first | rfl | (simp [errW_none, errW_some] <;> rfl) | (simp [*, errW_none, errW_some] <;> rfl), by repeat (first | (with_reducible first | exact HB.out | apply below_alloc | apply pw_below_drewN | apply below_drew1) | exact HB.out)⟩
                              · rw [if_neg c31] at H
                                have c31b0 : decide (1114111 < x8_3) = false := decide_eq_false c31
                                clear c31
                                by_cases c35 : x8_3 ≥ 55296
                                · rw [if_pos c35] at H
                                  have c35b0 : decide (55296 ≤ x8_3) = true := decide_eq_true c35
                                  clear c35
                                  by_cases c36 : x8_3 ≤ 57343
                                  · rw [if_pos c36] at H
                                    have c36b0 : decide (x8_3 ≤ 57343) = true := decide_eq_true c36
                                    clear c36
                                    simp only [Option.some.injEq, Prod.mk.injEq] at H
                                    obtain ⟨rfl, rfl⟩ := H
                                    go_wp2_with (first | ((with_reducible refine gate_dst (N := 70) rfl ?_); refine Kd.R_lit (Kd.int .i64) _ 3 ?hg (N := 70) ?hd (xs := ([0, 128, 2048, 65536] : List Int)) (inner := [.int .i64 0, .int .i64 128, .int .i64 2048, .int .i64 65536]) (ok := fun _ => True) (okp := fun _ => True) ?hr ?hp (fun _ hk => hk) trivial (Below.refl _ _) (Nat.le_refl _) (by simp) ?_; (case hd => rfl); (case hg => rfl); (case hr => first | (go_simp; done) | (go_simp; rfl)); (case hp => exact (Reps.one (show Kd.M (Kd.int .i64) _ _ _ 0 [.int .i64 0] from rfl) (Reps.one (show Kd.M (Kd.int .i64) _ _ _ 128 [.int .i64 128] from rfl) (Reps.one (show Kd.M (Kd.int .i64) _ _ _ 2048 [.int .i64 2048] from rfl) (Reps.one (show Kd.M (Kd.int .i64) _ _ _ 65536 [.int .i64 65536] from rfl) (Reps.none _ _)))))); intro v103 w37 ho38 hb hg_ hnew_; clear hg_ hnew_; (first | rw [← Ny102.out] at ho38 | (simp only [Int.reduceToNat] at ho38; rw [← Ny102.out] at ho38)); have n0_ := Aside0.mk (Kd.R_lower ho38 (below_size (by repeat (first | (with_reducible first | exact HB.out | apply below_alloc | apply pw_below_drewN | apply below_drew1) | exact HB.out)))); have n1_ := Aside0.mk (below_step (by repeat (first | (with_reducible first | exact HB.out | apply below_alloc | apply pw_below_drewN | apply below_drew1) | exact HB.out)) hb); clear HB; have HO104 := n0_; have HB := n1_; clear n0_ n1_; clear hb ho38; obtain ⟨Ao39, co39, eo39⟩ := Kd.R_slice HO104.out; subst eo39; have p105 : 0 ≤ (x7_6 : Int) := of_decide_eq_true (by first | (with_reducible assumption) | assumption); have q105 : x7_6 < (y102.length : Int) := of_decide_eq_true (by first | (with_reducible assumption) | assumption); obtain ⟨ad105, e105, hx105_0⟩ := Kd.at_int (Kd.R_reads' HO104.out).2.2 x7_6 p105 q105; cases e105; replace p105 := eq_true p105; replace q105 := eq_true q105))
                                    go_ret2
                                    exact ⟨by first | rfl | (simp [errW_none, errW_some] <;> rfl) | (simp [*, errW_none, errW_some] <;> rfl), by repeat (first | (with_reducible first | exact HB.out | apply below_alloc | apply pw_below_drewN | apply below_drew1) | exact HB.out)⟩
                                  · rw [if_neg c36] at H
                                    have c36b0 : decide (x8_3 ≤ 57343) = false := decide_eq_false c36
                                    clear c36
                                    simp only [Option.some.injEq, Prod.mk.injEq] at H
                                    obtain ⟨rfl, rfl⟩ := H
                                    go_wp2_with (first | ((with_reducible refine gate_dst (N := 70) rfl ?_); refine Kd.R_lit (Kd.int .i64) _ 3 ?hg (N := 70) ?hd (xs := ([0, 128, 2048, 65536] : List Int)) (inner := [.int .i64 0, .int .i64 128, .int .i64 2048, .int .i64 65536]) (ok := fun _ => True) (okp := fun _ => True) ?hr ?hp (fun _ hk => hk) trivial (Below.refl _ _) (Nat.le_refl _) (by simp) ?_; (case hd => rfl); (case hg => rfl); (case hr => first | (go_simp; done) | (go_simp; rfl)); (case hp => exact (Reps.one (show Kd.M (Kd.int .i64) _ _ _ 0 [.int .i64 0] from rfl) (Reps.one (show Kd.M (Kd.int .i64) _ _ _ 128 [.int .i64 128] from rfl) (Reps.one (show Kd.M (Kd.int .i64) _ _ _ 2048 [.int .i64 2048] from rfl) (Reps.one (show Kd.M (Kd.int .i64) _ _ _ 65536 [.int .i64 65536] from rfl) (Reps.none _ _)))))); intro v103 w40 ho41 hb hg_ hnew_; clear hg_ hnew_; (first | rw [← Ny102.out] at ho41 | (simp only [Int.reduceToNat] at ho41; rw [← Ny102.out] at ho41)); have n0_ := Aside0.mk (Kd.R_lower ho41 (below_size (by repeat (first | (with_reducible first | exact HB.out | apply below_alloc | apply pw_below_drewN | apply below_drew1) | exact HB.out)))); have n1_ := Aside0.mk (below_step (by repeat (first | (with_reducible first | exact HB.out | apply below_alloc | apply pw_below_drewN | apply below_drew1) | exact HB.out)) hb); clear HB; have HO104 := n0_; have HB := n1_; clear n0_ n1_; clear hb ho41; obtain ⟨Ao42, co42, eo42⟩ := Kd.R_slice HO104.out; subst eo42; have p105 : 0 ≤ (x7_6 : Int) := of_decide_eq_true (by first | (with_reducible assumption) | assumption); have q105 : x7_6 < (y102.length : Int) := of_decide_eq_true (by first | (with_reducible assumption) | assumption); obtain ⟨ad105, e105, hx105_0⟩ := Kd.at_int (Kd.R_reads' HO104.out).2.2 x7_6 p105 q105; cases e105; replace p105 := eq_true p105; replace q105 := eq_true q105))
                                    go_ret2
                                    exact ⟨by first | rfl | (simp [errW_none, errW_some] <;> rfl) | (simp [*, errW_none, errW_some] <;> rfl), by repeat (first | (with_reducible first | exact HB.out | apply below_alloc | apply pw_below_drewN | apply below_drew1) | exact HB.out)⟩
                                · rw [if_neg c35] at H
                                  have c35b0 : decide (55296 ≤ x8_3) = false := decide_eq_false c35
                                  clear c35
                                  simp only [Option.some.injEq, Prod.mk.injEq] at H
                                  obtain ⟨rfl, rfl⟩ := H
                                  go_wp2_with (first | ((with_reducible refine gate_dst (N := 70) rfl ?_); refine Kd.R_lit (Kd.int .i64) _ 3 ?hg (N := 70) ?hd (xs := ([0, 128, 2048, 65536] : List Int)) (inner := [.int .i64 0, .int .i64 128, .int .i64 2048, .int .i64 65536]) (ok := fun _ => True) (okp := fun _ => True) ?hr ?hp (fun _ hk => hk) trivial (Below.refl _ _) (Nat.le_refl _) (by simp) ?_; (case hd => rfl); (case hg => rfl); (case hr => first | (go_simp; done) | (go_simp; rfl)); (case hp => exact (Reps.one (show Kd.M (Kd.int .i64) _ _ _ 0 [.int .i64 0] from rfl) (Reps.one (show Kd.M (Kd.int .i64) _ _ _ 128 [.int .i64 128] from rfl) (Reps.one (show Kd.M (Kd.int .i64) _ _ _ 2048 [.int .i64 2048] from rfl) (Reps.one (show Kd.M (Kd.int .i64) _ _ _ 65536 [.int .i64 65536] from rfl) (Reps.none _ _)))))); intro v103 w43 ho44 hb hg_ hnew_; clear hg_ hnew_; (first | rw [← Ny102.out] at ho44 | (simp only [Int.reduceToNat] at ho44; rw [← Ny102.out] at ho44)); have n0_ := Aside0.mk (Kd.R_lower ho44 (below_size (by repeat (first | (with_reducible first | exact HB.out | apply below_alloc | apply pw_below_drewN | apply below_drew1) | exact HB.out)))); have n1_ := Aside0.mk (below_step (by repeat (first | (with_reducible first | exact HB.out | apply below_alloc | apply pw_below_drewN | apply below_drew1) | exact HB.out)) hb); clear HB; have HO104 := n0_; have HB := n1_; clear n0_ n1_; clear hb ho44; obtain ⟨Ao45, co45, eo45⟩ := Kd.R_slice HO104.out; subst eo45; have p105 : 0 ≤ (x7_6 : Int) := of_decide_eq_true (by first | (with_reducible assumption) | assumption); have q105 : x7_6 < (y102.length : Int) := of_decide_eq_true (by first | (with_reducible assumption) | assumption); obtain ⟨ad105, e105, hx105_0⟩ := Kd.at_int (Kd.R_reads' HO104.out).2.2 x7_6 p105 q105; cases e105; replace p105 := eq_true p105; replace q105 := eq_true q105))
                                  go_ret2
                                  exact ⟨by first | rfl | (simp [errW_none, errW_some] <;> rfl) | (simp [*, errW_none, errW_some] <;> rfl), by repeat (first | (with_reducible first | exact HB.out | apply below_alloc | apply pw_below_drewN | apply below_drew1) | exact HB.out)⟩
                          · rw [if_neg c26] at H
                            exact absurd H (by simp)
                        · rw [if_neg c25] at H
                          exact absurd H (by simp)
    · rw [if_neg c4] at H
      exact absurd H (by simp)
  · rw [if_neg c3] at H
    exact absurd H (by simp)

/-! ### spec_RuneAt: function 8 -/
-- NOT PRINTED: function 64 (slices_IndexFunc_string_string)

-- NOT PRINTED: function 39 (slices_ContainsFunc_string_string)

-- NOT PRINTED: function 21 (impl_tooLong)

-- NOT PRINTED: function 65 (utf8_decodeRuneInStringSlow)

-- NOT PRINTED: function 41 (utf8_DecodeRuneInString)

-- NOT PRINTED: function 22 (impl_runeAt)

-- NOT PRINTED: function 9 (impl_RuneAt)

-- NOT PRINTED: function 3 (laws_FnExactRuneAt)

end Go.Proofs.YtgiaogocdihhhaaDoor.PFnExactRuneAt
