-- Written by a program of this session (wip/print2.sh) out of the translation.
import Derived.Test.YtonhmkllfbagmaaPFnExactTxFairx0
namespace Go.Proofs.Ytonhmkllfbagmaa.PFnExactTxFair
open Go.RowKit Go.Proofs.YtonhmkllfbagmaaW.PrintWords Go.Proofs.YtonhmkllfbagmaaW.PrintLast Go.Proofs.YtonhmkllfbagmaaW.PrintMore
attribute [local go_sem] max2_int min2_int max_two min_two max_three min_three max_four min_four   -- for this text's walks alone
set_option linter.unusedVariables false
set_option linter.unusedSimpArgs false

/-! ### spec_TxOK: function 9 -/
mutual
def spec_TxOK.j0 : Nat → Bool → List Int → Int → List (List (List (S63))) → Option (Bool)
  | 0, _, _, _, _ => none
  | k + 1, x38, x177000, x177001, x177002 => if x38 = true then (some false) else (spec_TxOK.l0 k 0 x177000 x177001 x177002)
def spec_TxOK.l0 : Nat → Int → List Int → Int → List (List (List (S63))) → Option (Bool)
  | 0, _, _, _, _ => none
  | k + 1, x3, x177000, x177001, x177002 => if x3 < (x177002.length : Int) then (if 0 ≤ x3 then (if ((rd_L6 x177002 x3).length : Int) > 8 then (some false) else (spec_TxOK.l1 k x3 0 x177000 x177001 x177002)) else (none)) else (some true)
def spec_TxOK.l1 : Nat → Int → Int → List Int → Int → List (List (List (S63))) → Option (Bool)
  | 0, _, _, _, _, _ => none
  | k + 1, x3, x4, x177000, x177001, x177002 => if 0 ≤ x3 then (if x3 < (x177002.length : Int) then (if x4 < ((rd_L6 x177002 x3).length : Int) then (if 0 ≤ x4 then (if ((rd_L5 (rd_L6 x177002 x3) x4).length : Int) > 8 then (some false) else (spec_TxOK.l2 k x3 x4 0 x177000 x177001 x177002)) else (none)) else (spec_TxOK.l0 k (wrap64 (x3 + 1)) x177000 x177001 x177002)) else (none)) else (none)
def spec_TxOK.l2 : Nat → Int → Int → Int → List Int → Int → List (List (List (S63))) → Option (Bool)
  | 0, _, _, _, _, _, _ => none
  | k + 1, x3, x4, x5, x177000, x177001, x177002 => if 0 ≤ x3 then (if x3 < (x177002.length : Int) then (if 0 ≤ x4 then (if x4 < ((rd_L6 x177002 x3).length : Int) then (if x5 < ((rd_L5 (rd_L6 x177002 x3) x4).length : Int) then (if 0 ≤ x5 then (if ((rd_T63 (rd_L5 (rd_L6 x177002 x3) x4) x5).f0) < 1 then (some false) else (if ((rd_T63 (rd_L5 (rd_L6 x177002 x3) x4) x5).f0) > 3 then (some false) else (if ((rd_T63 (rd_L5 (rd_L6 x177002 x3) x4) x5).f1) < 0 then (some false) else (if ((rd_T63 (rd_L5 (rd_L6 x177002 x3) x4) x5).f1) ≥ (x177000.length : Int) then (some false) else (if ((rd_T63 (rd_L5 (rd_L6 x177002 x3) x4) x5).f0) = 1 then (if ((rd_T63 (rd_L5 (rd_L6 x177002 x3) x4) x5).f2) = 0 then (spec_TxOK.l2 k x3 x4 (wrap64 (x5 + 1)) x177000 x177001 x177002) else (some false)) else (spec_TxOK.l2 k x3 x4 (wrap64 (x5 + 1)) x177000 x177001 x177002)))))) else (none)) else (spec_TxOK.l1 k x3 (wrap64 (x4 + 1)) x177000 x177001 x177002)) else (none)) else (none)) else (none)) else (none)
end
def spec_TxOK.f (k : Nat) (l0_0 : List Int) (a0_1 : Int) (l0_2 : List (List (List (S63)))) : Option (Bool) := if (l0_0.length : Int) < 1 then (spec_TxOK.j0 k true l0_0 a0_1 l0_2) else (if (l0_0.length : Int) > 8 then (spec_TxOK.j0 k true l0_0 a0_1 l0_2) else (if (l0_2.length : Int) < 1 then (spec_TxOK.j0 k true l0_0 a0_1 l0_2) else (if (l0_2.length : Int) > 4 then (spec_TxOK.j0 k true l0_0 a0_1 l0_2) else (if a0_1 < 1 then (spec_TxOK.j0 k true l0_0 a0_1 l0_2) else (spec_TxOK.j0 k (decide (a0_1 > 4)) l0_0 a0_1 l0_2)))))
set_option maxHeartbeats 8000000 in
set_option maxRecDepth 100000 in
theorem spec_TxOK.calls (k : Nat) (A0_0 : Option Addr) (c0_0 : Nat) (l0_0 : List Int) (a0_1 : Int) (A0_2 : Option Addr) (c0_2 : Nat) (l0_2 : List (List (List (S63)))) (r : Bool) (w : World) (hr0_0 : Kd.C (Kd.int .i64) w A0_0 l0_0.length l0_0) (hc0_0 : l0_0.length ≤ c0_0) (hr0_2 : Kd.C (Kd.slice 61 (Kd.slice 63 k63)) w A0_2 l0_2.length l0_2) (hc0_2 : l0_2.length ≤ c0_2) (h : spec_TxOK.f k l0_0 a0_1 l0_2 = some r) :
    Calls Try.prog 9 #[.agg #[.slice A0_0 l0_0.length c0_0, .int .i64 a0_1, .slice A0_2 l0_2.length c0_2]] w fun e w' => e = .returned (.bool r) ∧ Below w.heap.size w w' := by
  have hu30 := Try.underlying30
  have hu63 := Try.underlying63
  have HR0_0 := Aside0.mk hr0_0
  have HC0_0 := Aside0.mk hc0_0
  clear hr0_0 hc0_0
  have HR0_2 := Aside0.mk hr0_2
  have HC0_2 := Aside0.mk hc0_2
  clear hr0_2 hc0_2
  have HB := Aside0.mk (Below.refl w.heap.size w)
  have H : (if (l0_0.length : Int) < 1 then (spec_TxOK.j0 k true l0_0 a0_1 l0_2) else (if (l0_0.length : Int) > 8 then (spec_TxOK.j0 k true l0_0 a0_1 l0_2) else (if (l0_2.length : Int) < 1 then (spec_TxOK.j0 k true l0_0 a0_1 l0_2) else (if (l0_2.length : Int) > 4 then (spec_TxOK.j0 k true l0_0 a0_1 l0_2) else (if a0_1 < 1 then (spec_TxOK.j0 k true l0_0 a0_1 l0_2) else (spec_TxOK.j0 k (decide (a0_1 > 4)) l0_0 a0_1 l0_2)))))) = some r := h
  clear h
  have HC2 := Aside0.mk H
  clear H
  go_enter Try.func9, Try.ntmps9
  go_upto_region 1 with (first | ((with_reducible refine gate_dst (N := 1) rfl ?_); (try (refine gate_guard (by rfl) ?_; dsimp only)); refine box_event ?hg (N := 1) ?hd (cs := #[.slice A0_0 l0_0.length c0_0, .int .i64 a0_1, .slice A0_2 l0_2.length c0_2]) (t := 30) ?hr ?_; (case hd => rfl); (case hg => rfl); (case hr => first | (go_simp; done) | (go_simp; rfl)); intro gb176 hg w3 hbox hb; have n0_ := Aside0.mk (below_step (by repeat (first | exact HB.out | apply below_alloc | apply pw_below_drewN | apply below_drew1)) hb); have n1_ := Aside0.mk (hbox); have n2_ := Aside0.mk ((by rw [hg]; exact (below_size (by repeat (first | exact HB.out | apply below_alloc | apply pw_below_drewN | apply below_drew1))) : w.heap.size ≤ gb176)); have n3_ := Aside0.mk ((by rw [hg]; exact (below_size (by repeat (first | exact HB.out | apply below_alloc | apply pw_below_drewN | apply below_drew1))) : w.heap.size ≤ gb176)); clear HB; have HB := n0_; have BK176 := n1_; have GW176 := n2_; have GE176 := n3_; clear n0_ n1_ n2_ n3_; clear hb hbox hg))
  (try simp only [Act.put, List.setIfInBounds_toArray, List.set_cons_zero, List.set_cons_succ])
  go_cut [38] (fun v38 wc => ∃ (kq : Nat) (x38_1 : Bool), v38 = .bool x38_1 ∧ Aside0 (spec_TxOK.j0 kq x38_1 l0_0 a0_1 l0_2 = some r) ∧ Aside0 (kq ≤ k) ∧ Aside0 (wc.heap[gb176]? = some (.cells #[(.slice A0_0 l0_0.length c0_0), .int .i64 a0_1, (.slice A0_2 l0_2.length c0_2)] 30 (0, 0))) ∧ Aside0 (Below w.heap.size w wc))
  case first =>
    have H := HC2.out
    clear HC2
    by_cases c4 : (l0_0.length : Int) < 1
    · rw [if_pos c4] at H
      have c4b0 : decide ((l0_0.length : Int) < 1) = true := decide_eq_true c4
      have c4b1 : decide (l0_0.length < 1) = true := decide_eq_true (by omega)
      clear c4
      (first | rw [c4b0] | (simp only [i64_w, i32_w]; rw [c4b0]) | skip)
      have H' := Aside0.mk H
      clear H
      have hcz5_0 : w3.cell? ⟨gb176, 0, none⟩ = some (.slice A0_0 l0_0.length c0_0) := (blk_cell BK176.out 0).trans rfl
      have hcz5_1 : w3.cell? ⟨gb176, 1, none⟩ = some (.int .i64 a0_1) := (blk_cell BK176.out 1).trans rfl
      have hcz5_2 : w3.cell? ⟨gb176, 2, none⟩ = some (.slice A0_2 l0_2.length c0_2) := (blk_cell BK176.out 2).trans rfl
      have hfz5_0 := blk_frozen BK176.out 0
      have hfz5_1 := blk_frozen BK176.out 1
      have hfz5_2 := blk_frozen BK176.out 2
      go_wp2
      go_meet
      case rel => exact ⟨_, (true), (by first | rfl | (simp; done) | (simp [*]; done)), H', ⟨by first | omega | exact Nat.le_refl _⟩, ⟨by (with_reducible repeat (first | refine blk_drewN ?_ _ | refine blk_drew ?_ | refine blk_alloc ?_ _)); exact BK176.out⟩, ⟨by repeat (first | exact HB.out | apply below_alloc | apply pw_below_drewN | apply below_drew1 | refine below_set ?_ GE176.out)⟩⟩
    · rw [if_neg c4] at H
      have c4b0 : decide ((l0_0.length : Int) < 1) = false := decide_eq_false c4
      have c4b1 : decide (l0_0.length < 1) = false := decide_eq_false (by omega)
      clear c4
      (first | rw [c4b0] | (simp only [i64_w, i32_w]; rw [c4b0]) | skip)
      by_cases c6 : (l0_0.length : Int) > 8
      · rw [if_pos c6] at H
        have c6b0 : decide (8 < (l0_0.length : Int)) = true := decide_eq_true c6
        have c6b1 : decide (8 < l0_0.length) = true := decide_eq_true (by omega)
        clear c6
        have H' := Aside0.mk H
        clear H
        have hcz7_0 : w3.cell? ⟨gb176, 0, none⟩ = some (.slice A0_0 l0_0.length c0_0) := (blk_cell BK176.out 0).trans rfl
        have hcz7_1 : w3.cell? ⟨gb176, 1, none⟩ = some (.int .i64 a0_1) := (blk_cell BK176.out 1).trans rfl
        have hcz7_2 : w3.cell? ⟨gb176, 2, none⟩ = some (.slice A0_2 l0_2.length c0_2) := (blk_cell BK176.out 2).trans rfl
        have hfz7_0 := blk_frozen BK176.out 0
        have hfz7_1 := blk_frozen BK176.out 1
        have hfz7_2 := blk_frozen BK176.out 2
        go_wp2
        go_meet
        case rel => exact ⟨_, (true), (by first | rfl | (simp; done) | (simp [*]; done)), H', ⟨by first | omega | exact Nat.le_refl _⟩, ⟨by (with_reducible repeat (first | refine blk_drewN ?_ _ | refine blk_drew ?_ | refine blk_alloc ?_ _)); exact BK176.out⟩, ⟨by repeat (first | exact HB.out | apply below_alloc | apply pw_below_drewN | apply below_drew1 | refine below_set ?_ GE176.out)⟩⟩
      · rw [if_neg c6] at H
        have c6b0 : decide (8 < (l0_0.length : Int)) = false := decide_eq_false c6
        have c6b1 : decide (8 < l0_0.length) = false := decide_eq_false (by omega)
        clear c6
        by_cases c8 : (l0_2.length : Int) < 1
        · rw [if_pos c8] at H
          have c8b0 : decide ((l0_2.length : Int) < 1) = true := decide_eq_true c8
          have c8b1 : decide (l0_2.length < 1) = true := decide_eq_true (by omega)
          clear c8
          have H' := Aside0.mk H
          clear H
          have hcz9_0 : w3.cell? ⟨gb176, 0, none⟩ = some (.slice A0_0 l0_0.length c0_0) := (blk_cell BK176.out 0).trans rfl
          have hcz9_1 : w3.cell? ⟨gb176, 1, none⟩ = some (.int .i64 a0_1) := (blk_cell BK176.out 1).trans rfl
          have hcz9_2 : w3.cell? ⟨gb176, 2, none⟩ = some (.slice A0_2 l0_2.length c0_2) := (blk_cell BK176.out 2).trans rfl
          have hfz9_0 := blk_frozen BK176.out 0
          have hfz9_1 := blk_frozen BK176.out 1
          have hfz9_2 := blk_frozen BK176.out 2
          go_wp2
          go_meet
          case rel => exact ⟨_, (true), (by first | rfl | (simp; done) | (simp [*]; done)), H', ⟨by first | omega | exact Nat.le_refl _⟩, ⟨by (with_reducible repeat (first | refine blk_drewN ?_ _ | refine blk_drew ?_ | refine blk_alloc ?_ _)); exact BK176.out⟩, ⟨by repeat (first | exact HB.out | apply below_alloc | apply pw_below_drewN | apply below_drew1 | refine below_set ?_ GE176.out)⟩⟩
        · rw [if_neg c8] at H
          have c8b0 : decide ((l0_2.length : Int) < 1) = false := decide_eq_false c8
          have c8b1 : decide (l0_2.length < 1) = false := decide_eq_false (by omega)
          clear c8
          by_cases c10 : (l0_2.length : Int) > 4
          · rw [if_pos c10] at H
            have c10b0 : decide (4 < (l0_2.length : Int)) = true := decide_eq_true c10
            have c10b1 : decide (4 < l0_2.length) = true := decide_eq_true (by omega)
            clear c10
            have H' := Aside0.mk H
            clear H
            have hcz11_0 : w3.cell? ⟨gb176, 0, none⟩ = some (.slice A0_0 l0_0.length c0_0) := (blk_cell BK176.out 0).trans rfl
            have hcz11_1 : w3.cell? ⟨gb176, 1, none⟩ = some (.int .i64 a0_1) := (blk_cell BK176.out 1).trans rfl
            have hcz11_2 : w3.cell? ⟨gb176, 2, none⟩ = some (.slice A0_2 l0_2.length c0_2) := (blk_cell BK176.out 2).trans rfl
            have hfz11_0 := blk_frozen BK176.out 0
            have hfz11_1 := blk_frozen BK176.out 1
            have hfz11_2 := blk_frozen BK176.out 2
            go_wp2
            go_meet
            case rel => exact ⟨_, (true), (by first | rfl | (simp; done) | (simp [*]; done)), H', ⟨by first | omega | exact Nat.le_refl _⟩, ⟨by (with_reducible repeat (first | refine blk_drewN ?_ _ | refine blk_drew ?_ | refine blk_alloc ?_ _)); exact BK176.out⟩, ⟨by repeat (first | exact HB.out | apply below_alloc | apply pw_below_drewN | apply below_drew1 | refine below_set ?_ GE176.out)⟩⟩
          · rw [if_neg c10] at H
            have c10b0 : decide (4 < (l0_2.length : Int)) = false := decide_eq_false c10
            have c10b1 : decide (4 < l0_2.length) = false := decide_eq_false (by omega)
            clear c10
            by_cases c12 : a0_1 < 1
            · rw [if_pos c12] at H
              have c12b0 : decide (a0_1 < 1) = true := decide_eq_true c12
              clear c12
              have H' := Aside0.mk H
              clear H
              have hcz13_0 : w3.cell? ⟨gb176, 0, none⟩ = some (.slice A0_0 l0_0.length c0_0) := (blk_cell BK176.out 0).trans rfl
              have hcz13_1 : w3.cell? ⟨gb176, 1, none⟩ = some (.int .i64 a0_1) := (blk_cell BK176.out 1).trans rfl
              have hcz13_2 : w3.cell? ⟨gb176, 2, none⟩ = some (.slice A0_2 l0_2.length c0_2) := (blk_cell BK176.out 2).trans rfl
              have hfz13_0 := blk_frozen BK176.out 0
              have hfz13_1 := blk_frozen BK176.out 1
              have hfz13_2 := blk_frozen BK176.out 2
              go_wp2
              go_meet
              case rel => exact ⟨_, (true), (by first | rfl | (simp; done) | (simp [*]; done)), H', ⟨by first | omega | exact Nat.le_refl _⟩, ⟨by (with_reducible repeat (first | refine blk_drewN ?_ _ | refine blk_drew ?_ | refine blk_alloc ?_ _)); exact BK176.out⟩, ⟨by repeat (first | exact HB.out | apply below_alloc | apply pw_below_drewN | apply below_drew1 | refine below_set ?_ GE176.out)⟩⟩
            · rw [if_neg c12] at H
              have c12b0 : decide (a0_1 < 1) = false := decide_eq_false c12
              clear c12
              have H' := Aside0.mk H
              clear H
              have hcz14_0 : w3.cell? ⟨gb176, 0, none⟩ = some (.slice A0_0 l0_0.length c0_0) := (blk_cell BK176.out 0).trans rfl
              have hcz14_1 : w3.cell? ⟨gb176, 1, none⟩ = some (.int .i64 a0_1) := (blk_cell BK176.out 1).trans rfl
              have hcz14_2 : w3.cell? ⟨gb176, 2, none⟩ = some (.slice A0_2 l0_2.length c0_2) := (blk_cell BK176.out 2).trans rfl
              have hfz14_0 := blk_frozen BK176.out 0
              have hfz14_1 := blk_frozen BK176.out 1
              have hfz14_2 := blk_frozen BK176.out 2
              go_wp2
              go_meet
              case rel => exact ⟨_, (decide (a0_1 > 4)), (by first | rfl | (simp; done) | (simp [*]; done)), H', ⟨by first | omega | exact Nat.le_refl _⟩, ⟨by (with_reducible repeat (first | refine blk_drewN ?_ _ | refine blk_drew ?_ | refine blk_alloc ?_ _)); exact BK176.out⟩, ⟨by repeat (first | exact HB.out | apply below_alloc | apply pw_below_drewN | apply below_drew1 | refine below_set ?_ GE176.out)⟩⟩
  case rest =>
    clear HC2
    try clear c1
    try clear p2
    try clear c4
    try clear c4b0
    try clear c4b1
    try clear c6
    try clear c6b0
    try clear c6b1
    try clear c8
    try clear c8b0
    try clear c8b1
    try clear c9
    try clear c10
    try clear c10b0
    try clear c10b1
    try clear c12
    try clear c12b0
    try clear hcz11_0
    try clear hcz11_1
    try clear hcz11_2
    try clear hcz13_0
    try clear hcz13_1
    try clear hcz13_2
    try clear hcz14_0
    try clear hcz14_1
    try clear hcz14_2
    try clear hcz5_0
    try clear hcz5_1
    try clear hcz5_2
    try clear hcz7_0
    try clear hcz7_1
    try clear hcz7_2
    try clear hcz9_0
    try clear hcz9_1
    try clear hcz9_2
    try clear hfz11_0
    try clear hfz11_1
    try clear hfz11_2
    try clear hfz13_0
    try clear hfz13_1
    try clear hfz13_2
    try clear hfz14_0
    try clear hfz14_1
    try clear hfz14_2
    try clear hfz5_0
    try clear hfz5_1
    try clear hfz5_2
    try clear hfz7_0
    try clear hfz7_1
    try clear hfz7_2
    try clear hfz9_0
    try clear hfz9_1
    try clear hfz9_2
    obtain ⟨kq, x38_1, rfl, HA, HJ1, BK176, HB⟩ := hcut
    cases kq with
    | zero => exact absurd HA.out (by simp [spec_TxOK.j0])
    | succ kj1 =>
      have H := HA.out
      clear HA
      simp only [spec_TxOK.j0] at H
      by_cases c15 : x38_1 = true
      · subst c15
        have H1 : (some false) = some r := by rw [if_pos rfl] at H; exact H
        clear H
        have H := H1
        clear H1
        obtain rfl := Option.some.inj H
        go_wp2
        go_ret
        exact ⟨by first | rfl | (simp <;> rfl) | (simp [*] <;> rfl), by repeat (first | exact HB.out | apply below_alloc | apply pw_below_drewN | apply below_drew1 | refine below_set ?_ GE176.out)⟩
      · replace c15 := Bool.eq_false_iff.mpr c15
        subst c15
        have H1 : (spec_TxOK.l0 kj1 0 l0_0 a0_1 l0_2) = some r := by rw [if_neg (show ¬ (false = true) by decide)] at H; exact H
        clear H
        have H := H1
        clear H1
        have H' := Aside0.mk H
        clear H
        go_wp2
        go_loopg [3] kj1 (fun kq v3 w' => ∃ (x3_2 : Int), v3 = .int .i64 x3_2 ∧ Aside0 (spec_TxOK.l0 kq x3_2 l0_0 a0_1 l0_2 = some r) ∧ Aside0 (kq ≤ kj1) ∧ Aside0 (w'.heap[gb176]? = some (.cells #[(.slice A0_0 l0_0.length c0_0), .int .i64 a0_1, (.slice A0_2 l0_2.length c0_2)] 30 (0, 0))) ∧ Aside0 (Below w.heap.size w w'))
        case atStart => exact ⟨(0), (by first | rfl | (simp; done) | (simp [*]; done)), H', ⟨Nat.le_refl _⟩, ⟨by (with_reducible repeat (first | refine blk_drewN ?_ _ | refine blk_drew ?_ | refine blk_alloc ?_ _)); exact BK176.out⟩, ⟨by repeat (first | exact HB.out | apply below_alloc | apply pw_below_drewN | apply below_drew1 | refine below_set ?_ GE176.out)⟩⟩
        case round =>
          clear H'
          try clear c1
          try clear p2
          try clear c4
          try clear c4b0
          try clear c4b1
          try clear c6
          try clear c6b0
          try clear c6b1
          try clear c8
          try clear c8b0
          try clear c8b1
          try clear c9
          try clear c10
          try clear c10b0
          try clear c10b1
          try clear c12
          try clear c12b0
          try clear c15
          try clear hcz11_0
          try clear hcz11_1
          try clear hcz11_2
          try clear hcz13_0
          try clear hcz13_1
          try clear hcz13_2
          try clear hcz14_0
          try clear hcz14_1
          try clear hcz14_2
          try clear hcz5_0
          try clear hcz5_1
          try clear hcz5_2
          try clear hcz7_0
          try clear hcz7_1
          try clear hcz7_2
          try clear hcz9_0
          try clear hcz9_1
          try clear hcz9_2
          try clear hfz11_0
          try clear hfz11_1
          try clear hfz11_2
          try clear hfz13_0
          try clear hfz13_1
          try clear hfz13_2
          try clear hfz14_0
          try clear hfz14_1
          try clear hfz14_2
          try clear hfz5_0
          try clear hfz5_1
          try clear hfz5_2
          try clear hfz7_0
          try clear hfz7_1
          try clear hfz7_2
          try clear hfz9_0
          try clear hfz9_1
          try clear hfz9_2
          try clear p2
          obtain ⟨x3_2, rfl, HA, HK2, BK176, HB⟩ := hrel
          cases gk with
          | zero => exact absurd HA.out (by simp [spec_TxOK.l0])
          | succ k2 =>
            have H := HA.out
            clear HA
            simp only [spec_TxOK.l0] at H
            by_cases c16 : x3_2 < (l0_2.length : Int)
            · rw [if_pos c16] at H
              have c16b0 : decide (x3_2 < (l0_2.length : Int)) = true := decide_eq_true c16
              clear c16
              by_cases c17 : 0 ≤ x3_2
              · rw [if_pos c17] at H
                have c17b0 : decide (0 ≤ x3_2) = true := decide_eq_true c17
                clear c17
                by_cases c18 : ((rd_L6 l0_2 x3_2).length : Int) > 8
                · rw [if_pos c18] at H
                  have c18b0 : decide (8 < ((rd_L6 l0_2 x3_2).length : Int)) = true := decide_eq_true c18
                  have c18b1 : decide (8 < (rd_L6 l0_2 x3_2).length) = true := decide_eq_true (by omega)
                  clear c18
                  obtain rfl := Option.some.inj H
                  have hcz19_0 : wr.cell? ⟨gb176, 0, none⟩ = some (.slice A0_0 l0_0.length c0_0) := (blk_cell BK176.out 0).trans rfl
                  have hcz19_1 : wr.cell? ⟨gb176, 1, none⟩ = some (.int .i64 a0_1) := (blk_cell BK176.out 1).trans rfl
                  have hcz19_2 : wr.cell? ⟨gb176, 2, none⟩ = some (.slice A0_2 l0_2.length c0_2) := (blk_cell BK176.out 2).trans rfl
                  have hfz19_0 := blk_frozen BK176.out 0
                  have hfz19_1 := blk_frozen BK176.out 1
                  have hfz19_2 := blk_frozen BK176.out 2
                  have p177 : 0 ≤ (x3_2 : Int) := of_decide_eq_true (by assumption)
                  have q177 : x3_2 < (l0_2.length : Int) := of_decide_eq_true (by assumption)
                  obtain ⟨ad177, A177_0, c177_0, e177, hx177_0, hl177_0, hi177_0⟩ := at_L6 HR0_2.out x3_2 p177 q177
                  cases e177
                  replace hx177_0 := (HB.out.cell (World.block_lt_of_cell? w _ hx177_0)).trans hx177_0
                  have HR177_0 := Aside0.mk hi177_0
                  have HC177_0 := Aside0.mk hl177_0
                  clear hi177_0 hl177_0
                  replace p177 := eq_true p177
                  replace q177 := eq_true q177
                  go_wp2
                  go_ret
                  exact ⟨by first | rfl | (simp <;> rfl) | (simp [*] <;> rfl), by repeat (first | exact HB.out | apply below_alloc | apply pw_below_drewN | apply below_drew1 | refine below_set ?_ GE176.out)⟩
                · rw [if_neg c18] at H
                  have c18b0 : decide (8 < ((rd_L6 l0_2 x3_2).length : Int)) = false := decide_eq_false c18
                  have c18b1 : decide (8 < (rd_L6 l0_2 x3_2).length) = false := decide_eq_false (by omega)
                  clear c18
                  have H' := Aside0.mk H
                  clear H
                  have hcz20_0 : wr.cell? ⟨gb176, 0, none⟩ = some (.slice A0_0 l0_0.length c0_0) := (blk_cell BK176.out 0).trans rfl
                  have hcz20_1 : wr.cell? ⟨gb176, 1, none⟩ = some (.int .i64 a0_1) := (blk_cell BK176.out 1).trans rfl
                  have hcz20_2 : wr.cell? ⟨gb176, 2, none⟩ = some (.slice A0_2 l0_2.length c0_2) := (blk_cell BK176.out 2).trans rfl
                  have hfz20_0 := blk_frozen BK176.out 0
                  have hfz20_1 := blk_frozen BK176.out 1
                  have hfz20_2 := blk_frozen BK176.out 2
                  have p177 : 0 ≤ (x3_2 : Int) := of_decide_eq_true (by assumption)
                  have q177 : x3_2 < (l0_2.length : Int) := of_decide_eq_true (by assumption)
                  obtain ⟨ad177, A177_0, c177_0, e177, hx177_0, hl177_0, hi177_0⟩ := at_L6 HR0_2.out x3_2 p177 q177
                  cases e177
                  replace hx177_0 := (HB.out.cell (World.block_lt_of_cell? w _ hx177_0)).trans hx177_0
                  have HR177_0 := Aside0.mk hi177_0
                  have HC177_0 := Aside0.mk hl177_0
                  clear hi177_0 hl177_0
                  replace p177 := eq_true p177
                  replace q177 := eq_true q177
                  go_wp2
                  go_loopg [4] k2 (fun kq v4 w' => ∃ (x4_3 : Int), v4 = .int .i64 x4_3 ∧ Aside0 (spec_TxOK.l1 kq x3_2 x4_3 l0_0 a0_1 l0_2 = some r) ∧ Aside0 (kq ≤ k2) ∧ Aside0 (w'.heap[gb176]? = some (.cells #[(.slice A0_0 l0_0.length c0_0), .int .i64 a0_1, (.slice (some ad177) l0_2.length c0_2)] 30 (0, 0))) ∧ Aside0 (Below w.heap.size w w'))
                  case atStart => exact ⟨(0), (by first | rfl | (simp; done) | (simp [*]; done)), H', ⟨Nat.le_refl _⟩, ⟨by (with_reducible repeat (first | refine blk_drewN ?_ _ | refine blk_drew ?_ | refine blk_alloc ?_ _)); exact BK176.out⟩, ⟨by repeat (first | exact HB.out | apply below_alloc | apply pw_below_drewN | apply below_drew1 | refine below_set ?_ GE176.out)⟩⟩
                  case round =>
                    clear H'
                    try clear c1
                    try clear p1
                    try clear q1
                    try clear hx1
                    try clear p2
                    try clear c4
                    try clear c4b0
                    try clear c4b1
                    try clear c6
                    try clear c6b0
                    try clear c6b1
                    try clear c8
                    try clear c8b0
                    try clear c8b1
                    try clear c9
                    try clear c10
                    try clear c10b0
                    try clear c10b1
                    try clear c12
                    try clear c12b0
                    try clear c15
                    try clear c16
                    try clear c16b0
                    try clear c17
                    try clear c17b0
                    try clear p17
                    try clear q17
                    try clear hx17
                    try clear c18
                    try clear c18b0
                    try clear c18b1
                    try clear hcz11_0
                    try clear hcz11_1
                    try clear hcz11_2
                    try clear hcz13_0
                    try clear hcz13_1
                    try clear hcz13_2
                    try clear hcz14_0
                    try clear hcz14_1
                    try clear hcz14_2
                    try clear hcz19_0
                    try clear hcz19_1
                    try clear hcz19_2
                    try clear hcz20_0
                    try clear hcz20_1
                    try clear hcz20_2
                    try clear hcz5_0
                    try clear hcz5_1
                    try clear hcz5_2
                    try clear hcz7_0
                    try clear hcz7_1
                    try clear hcz7_2
                    try clear hcz9_0
                    try clear hcz9_1
                    try clear hcz9_2
                    try clear hfz11_0
                    try clear hfz11_1
                    try clear hfz11_2
                    try clear hfz13_0
                    try clear hfz13_1
                    try clear hfz13_2
                    try clear hfz14_0
                    try clear hfz14_1
                    try clear hfz14_2
                    try clear hfz19_0
                    try clear hfz19_1
                    try clear hfz19_2
                    try clear hfz20_0
                    try clear hfz20_1
                    try clear hfz20_2
                    try clear hfz5_0
                    try clear hfz5_1
                    try clear hfz5_2
                    try clear hfz7_0
                    try clear hfz7_1
                    try clear hfz7_2
                    try clear hfz9_0
                    try clear hfz9_1
                    try clear hfz9_2
                    try clear hx177_0
                    try clear p177
                    try clear p2
                    try clear q177
                    obtain ⟨x4_3, rfl, HA, HK3, BK176, HB⟩ := hrel
                    cases gk with
                    | zero => exact absurd HA.out (by simp [spec_TxOK.l1])
                    | succ k3 =>
                      have H := HA.out
                      clear HA
                      simp only [spec_TxOK.l1] at H
                      by_cases c21 : 0 ≤ x3_2
                      · rw [if_pos c21] at H
                        have c21b0 : decide (0 ≤ x3_2) = true := decide_eq_true c21
                        clear c21
                        by_cases c22 : x3_2 < (l0_2.length : Int)
                        · rw [if_pos c22] at H
                          have c22b0 : decide (x3_2 < (l0_2.length : Int)) = true := decide_eq_true c22
                          clear c22
                          by_cases c23 : x4_3 < ((rd_L6 l0_2 x3_2).length : Int)
                          · rw [if_pos c23] at H
                            have c23b0 : decide (x4_3 < ((rd_L6 l0_2 x3_2).length : Int)) = true := decide_eq_true c23
                            clear c23
                            by_cases c24 : 0 ≤ x4_3
                            · rw [if_pos c24] at H
                              have c24b0 : decide (0 ≤ x4_3) = true := decide_eq_true c24
                              clear c24
                              by_cases c25 : ((rd_L5 (rd_L6 l0_2 x3_2) x4_3).length : Int) > 8
                              · rw [if_pos c25] at H
                                have c25b0 : decide (8 < ((rd_L5 (rd_L6 l0_2 x3_2) x4_3).length : Int)) = true := decide_eq_true c25
                                have c25b1 : decide (8 < (rd_L5 (rd_L6 l0_2 x3_2) x4_3).length) = true := decide_eq_true (by omega)
                                clear c25
                                obtain rfl := Option.some.inj H
                                have hcz26_0 : wr.cell? ⟨gb176, 0, none⟩ = some (.slice A0_0 l0_0.length c0_0) := (blk_cell BK176.out 0).trans rfl
                                have hcz26_1 : wr.cell? ⟨gb176, 1, none⟩ = some (.int .i64 a0_1) := (blk_cell BK176.out 1).trans rfl
                                have hcz26_2 : wr.cell? ⟨gb176, 2, none⟩ = some (.slice (some ad177) l0_2.length c0_2) := (blk_cell BK176.out 2).trans rfl
                                have hfz26_0 := blk_frozen BK176.out 0
                                have hfz26_1 := blk_frozen BK176.out 1
                                have hfz26_2 := blk_frozen BK176.out 2
                                have p178 : 0 ≤ (x3_2 : Int) := of_decide_eq_true (by assumption)
                                have q178 : x3_2 < (l0_2.length : Int) := of_decide_eq_true (by assumption)
                                obtain ⟨ad178, A178_0, c178_0, e178, hx178_0, hl178_0, hi178_0⟩ := at_L6 HR0_2.out x3_2 p178 q178
                                obtain rfl : ad177 = ad178 := (by injection e178)
                                replace hx178_0 := (HB.out.cell (World.block_lt_of_cell? w _ hx178_0)).trans hx178_0
                                try (have ea_ := Option.some.inj (hx177_0.symm.trans hx178_0); injection ea_ with ea_ en_ ec_; subst ea_; subst ec_; clear en_)
                                have HR178_0 := Aside0.mk hi178_0
                                have HC178_0 := Aside0.mk hl178_0
                                clear hi178_0 hl178_0
                                replace p178 := eq_true p178
                                replace q178 := eq_true q178
                                have p179 : 0 ≤ (x3_2 : Int) := of_decide_eq_true (by assumption)
                                have q179 : x3_2 < (l0_2.length : Int) := of_decide_eq_true (by assumption)
                                obtain ⟨ad179, A179_0, c179_0, e179, hx179_0, hl179_0, hi179_0⟩ := at_L6 HR0_2.out x3_2 p179 q179
                                obtain rfl : ad177 = ad179 := (by injection e179)
                                replace hx179_0 := (HB.out.cell (World.block_lt_of_cell? w _ hx179_0)).trans hx179_0
                                have HR179_0 := Aside0.mk hi179_0
                                have HC179_0 := Aside0.mk hl179_0
                                clear hi179_0 hl179_0
                                replace p179 := eq_true p179
                                replace q179 := eq_true q179
                                have ea_ := Option.some.inj (hx178_0.symm.trans hx179_0)
                                injection ea_ with ea_ en_ ec_
                                subst ea_
                                subst ec_
                                clear en_
                                have p180 : 0 ≤ (x4_3 : Int) := of_decide_eq_true (by assumption)
                                have q180 : x4_3 < ((rd_L6 l0_2 x3_2).length : Int) := of_decide_eq_true (by assumption)
                                obtain ⟨ad180, A180_0, c180_0, e180, hx180_0, hl180_0, hi180_0⟩ := at_L5 HR179_0.out x4_3 p180 q180
                                cases e180
                                replace hx180_0 := (HB.out.cell (World.block_lt_of_cell? w _ hx180_0)).trans hx180_0
                                have HR180_0 := Aside0.mk hi180_0
                                have HC180_0 := Aside0.mk hl180_0
                                clear hi180_0 hl180_0
                                replace p180 := eq_true p180
                                replace q180 := eq_true q180
                                go_wp2
                                go_ret
                                exact ⟨by first | rfl | (simp <;> rfl) | (simp [*] <;> rfl), by repeat (first | exact HB.out | apply below_alloc | apply pw_below_drewN | apply below_drew1 | refine below_set ?_ GE176.out)⟩
                              · rw [if_neg c25] at H
                                have c25b0 : decide (8 < ((rd_L5 (rd_L6 l0_2 x3_2) x4_3).length : Int)) = false := decide_eq_false c25
                                have c25b1 : decide (8 < (rd_L5 (rd_L6 l0_2 x3_2) x4_3).length) = false := decide_eq_false (by omega)
                                clear c25
                                have H' := Aside0.mk H
                                clear H
                                have hcz27_0 : wr.cell? ⟨gb176, 0, none⟩ = some (.slice A0_0 l0_0.length c0_0) := (blk_cell BK176.out 0).trans rfl
                                have hcz27_1 : wr.cell? ⟨gb176, 1, none⟩ = some (.int .i64 a0_1) := (blk_cell BK176.out 1).trans rfl
                                have hcz27_2 : wr.cell? ⟨gb176, 2, none⟩ = some (.slice (some ad177) l0_2.length c0_2) := (blk_cell BK176.out 2).trans rfl
                                have hfz27_0 := blk_frozen BK176.out 0
                                have hfz27_1 := blk_frozen BK176.out 1
                                have hfz27_2 := blk_frozen BK176.out 2
                                have p178 : 0 ≤ (x3_2 : Int) := of_decide_eq_true (by assumption)
                                have q178 : x3_2 < (l0_2.length : Int) := of_decide_eq_true (by assumption)
                                obtain ⟨ad178, A178_0, c178_0, e178, hx178_0, hl178_0, hi178_0⟩ := at_L6 HR0_2.out x3_2 p178 q178
                                obtain rfl : ad177 = ad178 := (by injection e178)
                                replace hx178_0 := (HB.out.cell (World.block_lt_of_cell? w _ hx178_0)).trans hx178_0
                                try (have ea_ := Option.some.inj (hx177_0.symm.trans hx178_0); injection ea_ with ea_ en_ ec_; subst ea_; subst ec_; clear en_)
                                have HR178_0 := Aside0.mk hi178_0
                                have HC178_0 := Aside0.mk hl178_0
                                clear hi178_0 hl178_0
                                replace p178 := eq_true p178
                                replace q178 := eq_true q178
                                have p179 : 0 ≤ (x3_2 : Int) := of_decide_eq_true (by assumption)
                                have q179 : x3_2 < (l0_2.length : Int) := of_decide_eq_true (by assumption)
                                obtain ⟨ad179, A179_0, c179_0, e179, hx179_0, hl179_0, hi179_0⟩ := at_L6 HR0_2.out x3_2 p179 q179
                                obtain rfl : ad177 = ad179 := (by injection e179)
                                replace hx179_0 := (HB.out.cell (World.block_lt_of_cell? w _ hx179_0)).trans hx179_0
                                have HR179_0 := Aside0.mk hi179_0
                                have HC179_0 := Aside0.mk hl179_0
                                clear hi179_0 hl179_0
                                replace p179 := eq_true p179
                                replace q179 := eq_true q179
                                have ea_ := Option.some.inj (hx178_0.symm.trans hx179_0)
                                injection ea_ with ea_ en_ ec_
                                subst ea_
                                subst ec_
                                clear en_
                                have p180 : 0 ≤ (x4_3 : Int) := of_decide_eq_true (by assumption)
                                have q180 : x4_3 < ((rd_L6 l0_2 x3_2).length : Int) := of_decide_eq_true (by assumption)
                                obtain ⟨ad180, A180_0, c180_0, e180, hx180_0, hl180_0, hi180_0⟩ := at_L5 HR179_0.out x4_3 p180 q180
                                cases e180
                                replace hx180_0 := (HB.out.cell (World.block_lt_of_cell? w _ hx180_0)).trans hx180_0
                                have HR180_0 := Aside0.mk hi180_0
                                have HC180_0 := Aside0.mk hl180_0
                                clear hi180_0 hl180_0
                                replace p180 := eq_true p180
                                replace q180 := eq_true q180
                                go_wp2
                                go_loopg [5] k3 (fun kq v5 w' => ∃ (x5_4 : Int), v5 = .int .i64 x5_4 ∧ Aside0 (spec_TxOK.l2 kq x3_2 x4_3 x5_4 l0_0 a0_1 l0_2 = some r) ∧ Aside0 (kq ≤ k3) ∧ Aside0 (w'.heap[gb176]? = some (.cells #[(.slice A0_0 l0_0.length c0_0), .int .i64 a0_1, (.slice (some ad177) l0_2.length c0_2)] 30 (0, 0))) ∧ Aside0 (Below w.heap.size w w'))
                                case atStart => exact ⟨(0), (by first | rfl | (simp; done) | (simp [*]; done)), H', ⟨Nat.le_refl _⟩, ⟨by (with_reducible repeat (first | refine blk_drewN ?_ _ | refine blk_drew ?_ | refine blk_alloc ?_ _)); exact BK176.out⟩, ⟨by repeat (first | exact HB.out | apply below_alloc | apply pw_below_drewN | apply below_drew1 | refine below_set ?_ GE176.out)⟩⟩
                                case round =>
                                  clear H'
                                  try clear c1
                                  try clear p1
                                  try clear q1
                                  try clear hx1
                                  try clear c2
                                  try clear p2
                                  try clear c4
                                  try clear c4b0
                                  try clear c4b1
                                  try clear c6
                                  try clear c6b0
                                  try clear c6b1
                                  try clear c8
                                  try clear c8b0
                                  try clear c8b1
                                  try clear c9
                                  try clear c10
                                  try clear c10b0
                                  try clear c10b1
                                  try clear c12
                                  try clear c12b0
                                  try clear c15
                                  try clear c16
                                  try clear c16b0
                                  try clear c17
                                  try clear c17b0
                                  try clear p17
                                  try clear q17
                                  try clear hx17
                                  try clear c18
                                  try clear c18b0
                                  try clear c18b1
                                  try clear p18
                                  try clear q18
                                  try clear hx18
                                  try clear c21
                                  try clear c21b0
                                  try clear c22
                                  try clear c22b0
                                  try clear c23
                                  try clear c23b0
                                  try clear c24
                                  try clear c24b0
                                  try clear c25
                                  try clear c25b0
                                  try clear c25b1
                                  try clear hcz11_0
                                  try clear hcz11_1
                                  try clear hcz11_2
                                  try clear hcz13_0
                                  try clear hcz13_1
                                  try clear hcz13_2
                                  try clear hcz14_0
                                  try clear hcz14_1
                                  try clear hcz14_2
                                  try clear hcz19_0
                                  try clear hcz19_1
                                  try clear hcz19_2
                                  try clear hcz20_0
                                  try clear hcz20_1
                                  try clear hcz20_2
                                  try clear hcz26_0
                                  try clear hcz26_1
                                  try clear hcz26_2
                                  try clear hcz27_0
                                  try clear hcz27_1
                                  try clear hcz27_2
                                  try clear hcz5_0
                                  try clear hcz5_1
                                  try clear hcz5_2
                                  try clear hcz7_0
                                  try clear hcz7_1
                                  try clear hcz7_2
                                  try clear hcz9_0
                                  try clear hcz9_1
                                  try clear hcz9_2
                                  try clear hfz11_0
                                  try clear hfz11_1
                                  try clear hfz11_2
                                  try clear hfz13_0
                                  try clear hfz13_1
                                  try clear hfz13_2
                                  try clear hfz14_0
                                  try clear hfz14_1
                                  try clear hfz14_2
                                  try clear hfz19_0
                                  try clear hfz19_1
                                  try clear hfz19_2
                                  try clear hfz20_0
                                  try clear hfz20_1
                                  try clear hfz20_2
                                  try clear hfz26_0
                                  try clear hfz26_1
                                  try clear hfz26_2
                                  try clear hfz27_0
                                  try clear hfz27_1
                                  try clear hfz27_2
                                  try clear hfz5_0
                                  try clear hfz5_1
                                  try clear hfz5_2
                                  try clear hfz7_0
                                  try clear hfz7_1
                                  try clear hfz7_2
                                  try clear hfz9_0
                                  try clear hfz9_1
                                  try clear hfz9_2
                                  try clear hx177_0
                                  try clear hx178_0
                                  try clear hx179_0
                                  try clear hx180_0
                                  try clear p1
                                  try clear p17
                                  try clear p177
                                  try clear p178
                                  try clear p179
                                  try clear p180
                                  try clear p2
                                  try clear q1
                                  try clear q17
                                  try clear q177
                                  try clear q178
                                  try clear q179
                                  try clear q180
                                  obtain ⟨x5_4, rfl, HA, HK4, BK176, HB⟩ := hrel
                                  cases gk with
                                  | zero => exact absurd HA.out (by simp [spec_TxOK.l2])
                                  | succ k4 =>
                                    have H := HA.out
                                    clear HA
                                    simp only [spec_TxOK.l2] at H
                                    by_cases c28 : 0 ≤ x3_2
                                    · rw [if_pos c28] at H
                                      have c28b0 : decide (0 ≤ x3_2) = true := decide_eq_true c28
                                      clear c28
                                      by_cases c29 : x3_2 < (l0_2.length : Int)
                                      · rw [if_pos c29] at H
                                        have c29b0 : decide (x3_2 < (l0_2.length : Int)) = true := decide_eq_true c29
                                        clear c29
                                        by_cases c30 : 0 ≤ x4_3
                                        · rw [if_pos c30] at H
                                          have c30b0 : decide (0 ≤ x4_3) = true := decide_eq_true c30
                                          clear c30
                                          by_cases c31 : x4_3 < ((rd_L6 l0_2 x3_2).length : Int)
                                          · rw [if_pos c31] at H
                                            have c31b0 : decide (x4_3 < ((rd_L6 l0_2 x3_2).length : Int)) = true := decide_eq_true c31
                                            clear c31
                                            by_cases c32 : x5_4 < ((rd_L5 (rd_L6 l0_2 x3_2) x4_3).length : Int)
                                            · rw [if_pos c32] at H
                                              have c32b0 : decide (x5_4 < ((rd_L5 (rd_L6 l0_2 x3_2) x4_3).length : Int)) = true := decide_eq_true c32
                                              clear c32
                                              by_cases c33 : 0 ≤ x5_4
                                              · rw [if_pos c33] at H
                                                have c33b0 : decide (0 ≤ x5_4) = true := decide_eq_true c33
                                                clear c33
                                                by_cases c34 : ((rd_T63 (rd_L5 (rd_L6 l0_2 x3_2) x4_3) x5_4).f0) < 1
                                                · rw [if_pos c34] at H
                                                  have c34b0 : decide (((rd_T63 (rd_L5 (rd_L6 l0_2 x3_2) x4_3) x5_4).f0) < 1) = true := decide_eq_true c34
                                                  clear c34
                                                  obtain rfl := Option.some.inj H
                                                  have hcz35_0 : wr.cell? ⟨gb176, 0, none⟩ = some (.slice A0_0 l0_0.length c0_0) := (blk_cell BK176.out 0).trans rfl
                                                  have hcz35_1 : wr.cell? ⟨gb176, 1, none⟩ = some (.int .i64 a0_1) := (blk_cell BK176.out 1).trans rfl
                                                  have hcz35_2 : wr.cell? ⟨gb176, 2, none⟩ = some (.slice (some ad177) l0_2.length c0_2) := (blk_cell BK176.out 2).trans rfl
                                                  have hfz35_0 := blk_frozen BK176.out 0
                                                  have hfz35_1 := blk_frozen BK176.out 1
                                                  have hfz35_2 := blk_frozen BK176.out 2
                                                  have p181 : 0 ≤ (x3_2 : Int) := of_decide_eq_true (by assumption)
                                                  have q181 : x3_2 < (l0_2.length : Int) := of_decide_eq_true (by assumption)
                                                  obtain ⟨ad181, A181_0, c181_0, e181, hx181_0, hl181_0, hi181_0⟩ := at_L6 HR0_2.out x3_2 p181 q181
                                                  obtain rfl : ad177 = ad181 := (by injection e181)
                                                  replace hx181_0 := (HB.out.cell (World.block_lt_of_cell? w _ hx181_0)).trans hx181_0
                                                  try (have ea_ := Option.some.inj (hx179_0.symm.trans hx181_0); injection ea_ with ea_ en_ ec_; subst ea_; subst ec_; clear en_)
                                                  have HR181_0 := Aside0.mk hi181_0
                                                  have HC181_0 := Aside0.mk hl181_0
                                                  clear hi181_0 hl181_0
                                                  replace p181 := eq_true p181
                                                  replace q181 := eq_true q181
                                                  have p182 : 0 ≤ (x4_3 : Int) := of_decide_eq_true (by assumption)
                                                  have q182 : x4_3 < ((rd_L6 l0_2 x3_2).length : Int) := of_decide_eq_true (by assumption)
                                                  obtain ⟨ad182, A182_0, c182_0, e182, hx182_0, hl182_0, hi182_0⟩ := at_L5 HR181_0.out x4_3 p182 q182
                                                  cases e182
                                                  replace hx182_0 := (HB.out.cell (World.block_lt_of_cell? w _ hx182_0)).trans hx182_0
                                                  try (have ea_ := Option.some.inj (hx180_0.symm.trans hx182_0); injection ea_ with ea_ en_ ec_; subst ea_; subst ec_; clear en_)
                                                  have HR182_0 := Aside0.mk hi182_0
                                                  have HC182_0 := Aside0.mk hl182_0
                                                  clear hi182_0 hl182_0
                                                  replace p182 := eq_true p182
                                                  replace q182 := eq_true q182
                                                  have p183 : 0 ≤ (x3_2 : Int) := of_decide_eq_true (by assumption)
                                                  have q183 : x3_2 < (l0_2.length : Int) := of_decide_eq_true (by assumption)
                                                  obtain ⟨ad183, A183_0, c183_0, e183, hx183_0, hl183_0, hi183_0⟩ := at_L6 HR0_2.out x3_2 p183 q183
                                                  obtain rfl : ad177 = ad183 := (by injection e183)
                                                  replace hx183_0 := (HB.out.cell (World.block_lt_of_cell? w _ hx183_0)).trans hx183_0
                                                  have HR183_0 := Aside0.mk hi183_0
                                                  have HC183_0 := Aside0.mk hl183_0
                                                  clear hi183_0 hl183_0
                                                  replace p183 := eq_true p183
                                                  replace q183 := eq_true q183
                                                  have ea_ := Option.some.inj (hx181_0.symm.trans hx183_0)
                                                  injection ea_ with ea_ en_ ec_
                                                  subst ea_
                                                  subst ec_
                                                  clear en_
                                                  have p184 : 0 ≤ (x4_3 : Int) := of_decide_eq_true (by assumption)
                                                  have q184 : x4_3 < ((rd_L6 l0_2 x3_2).length : Int) := of_decide_eq_true (by assumption)
                                                  obtain ⟨ad184, A184_0, c184_0, e184, hx184_0, hl184_0, hi184_0⟩ := at_L5 HR183_0.out x4_3 p184 q184
                                                  cases e184
                                                  replace hx184_0 := (HB.out.cell (World.block_lt_of_cell? w _ hx184_0)).trans hx184_0
                                                  try (have ea_ := Option.some.inj (hx182_0.symm.trans hx184_0); injection ea_ with ea_ en_ ec_; subst ea_; subst ec_; clear en_)
                                                  have HR184_0 := Aside0.mk hi184_0
                                                  have HC184_0 := Aside0.mk hl184_0
                                                  clear hi184_0 hl184_0
                                                  replace p184 := eq_true p184
                                                  replace q184 := eq_true q184
                                                  have p185 : 0 ≤ (x5_4 : Int) := of_decide_eq_true (by assumption)
                                                  have q185 : x5_4 < ((rd_L5 (rd_L6 l0_2 x3_2) x4_3).length : Int) := of_decide_eq_true (by assumption)
                                                  obtain ⟨ad185, e185, hx185_0, hx185_1, hx185_2⟩ := at_T63 HR184_0.out x5_4 p185 q185
                                                  cases e185
                                                  replace hx185_0 := (HB.out.cell (World.block_lt_of_cell? w _ hx185_0)).trans hx185_0
                                                  replace hx185_1 := (HB.out.cell (World.block_lt_of_cell? w _ hx185_1)).trans hx185_1
                                                  replace hx185_2 := (HB.out.cell (World.block_lt_of_cell? w _ hx185_2)).trans hx185_2
                                                  replace p185 := eq_true p185
                                                  replace q185 := eq_true q185
                                                  go_wp2_with (first | ((with_reducible refine gate_dst (N := 6) rfl ?_); (try (refine gate_guard (by rfl) ?_; dsimp only)); refine box_event ?hg (N := 6) ?hd (cs := #[.int .i64 0, .int .i64 0, .int .i64 0]) (t := 63) ?hr ?_; (case hd => rfl); (case hg => rfl); (case hr => first | (go_simp; done) | (go_simp; rfl)); intro gb186 hg w36 hbox hb; have n0_ := Aside0.mk (blk_below (g := gb176) (o := .cells #[.slice A0_0 l0_0.length c0_0, .int .i64 a0_1, .slice (some ad177) l0_2.length c0_2] 30 (0, 0)) (by (with_reducible repeat (first | refine blk_drewN ?_ _ | refine blk_drew ?_ | refine blk_alloc ?_ _)); exact BK176.out) hb); have n1_ := Aside0.mk (below_step (by repeat (first | exact HB.out | apply below_alloc | apply pw_below_drewN | apply below_drew1 | refine below_set ?_ GE176.out)) hb); have n2_ := Aside0.mk (hbox); have n3_ := Aside0.mk ((by rw [hg]; exact (below_size (by repeat (first | exact HB.out | apply below_alloc | apply pw_below_drewN | apply below_drew1 | refine below_set ?_ GE176.out))) : w.heap.size ≤ gb186)); have n4_ := Aside0.mk ((by rw [hg]; exact (below_size (by repeat (first | exact HB.out | apply below_alloc | apply pw_below_drewN | apply below_drew1 | refine below_set ?_ GE176.out))) : w.heap.size ≤ gb186)); have n5_ := Aside0.mk ((by rw [hg]; exact Nat.ne_of_lt (blk_lt (g := gb176) (o := .cells #[.slice A0_0 l0_0.length c0_0, .int .i64 a0_1, .slice (some ad177) l0_2.length c0_2] 30 (0, 0)) (by (with_reducible repeat (first | refine blk_drewN ?_ _ | refine blk_drew ?_ | refine blk_alloc ?_ _)); exact BK176.out)) : gb176 ≠ gb186)); have n6_ := Aside0.mk ((by rw [hg]; exact Nat.ne_of_gt (blk_lt (g := gb176) (o := .cells #[.slice A0_0 l0_0.length c0_0, .int .i64 a0_1, .slice (some ad177) l0_2.length c0_2] 30 (0, 0)) (by (with_reducible repeat (first | refine blk_drewN ?_ _ | refine blk_drew ?_ | refine blk_alloc ?_ _)); exact BK176.out)) : gb186 ≠ gb176)); clear BK176; clear HB; have BK176 := n0_; have HB := n1_; have BK186 := n2_; have GW186 := n3_; have GE186 := n4_; have NB176_186 := n5_; have NB186_176 := n6_; clear n0_ n1_ n2_ n3_ n4_ n5_ n6_; clear hb hbox hg; have hnb37 := NB186_176.out; have hnc37 := NB176_186.out; have hcz38_0 : w36.cell? ⟨gb186, 0, none⟩ = some (.int .i64 0) := (blk_cell BK186.out 0).trans rfl; have hcz38_1 : w36.cell? ⟨gb186, 1, none⟩ = some (.int .i64 0) := (blk_cell BK186.out 1).trans rfl; have hcz38_2 : w36.cell? ⟨gb186, 2, none⟩ = some (.int .i64 0) := (blk_cell BK186.out 2).trans rfl; have hfz38_0 := blk_frozen BK186.out 0; have hfz38_1 := blk_frozen BK186.out 1; have hfz38_2 := blk_frozen BK186.out 2))
                                                  go_ret
                                                  exact ⟨by first | rfl | (simp <;> rfl) | (simp [*] <;> rfl), by repeat (first | exact HB.out | apply below_alloc | apply pw_below_drewN | apply below_drew1 | refine below_set ?_ GE176.out | refine below_set ?_ GE186.out)⟩
                                                · rw [if_neg c34] at H
                                                  have c34b0 : decide (((rd_T63 (rd_L5 (rd_L6 l0_2 x3_2) x4_3) x5_4).f0) < 1) = false := decide_eq_false c34
                                                  clear c34
                                                  by_cases c39 : ((rd_T63 (rd_L5 (rd_L6 l0_2 x3_2) x4_3) x5_4).f0) > 3
                                                  · rw [if_pos c39] at H
                                                    have c39b0 : decide (3 < ((rd_T63 (rd_L5 (rd_L6 l0_2 x3_2) x4_3) x5_4).f0)) = true := decide_eq_true c39
                                                    clear c39
                                                    obtain rfl := Option.some.inj H
                                                    have hcz40_0 : wr.cell? ⟨gb176, 0, none⟩ = some (.slice A0_0 l0_0.length c0_0) := (blk_cell BK176.out 0).trans rfl
                                                    have hcz40_1 : wr.cell? ⟨gb176, 1, none⟩ = some (.int .i64 a0_1) := (blk_cell BK176.out 1).trans rfl
                                                    have hcz40_2 : wr.cell? ⟨gb176, 2, none⟩ = some (.slice (some ad177) l0_2.length c0_2) := (blk_cell BK176.out 2).trans rfl
                                                    have hfz40_0 := blk_frozen BK176.out 0
                                                    have hfz40_1 := blk_frozen BK176.out 1
                                                    have hfz40_2 := blk_frozen BK176.out 2
                                                    have p181 : 0 ≤ (x3_2 : Int) := of_decide_eq_true (by assumption)
                                                    have q181 : x3_2 < (l0_2.length : Int) := of_decide_eq_true (by assumption)
                                                    obtain ⟨ad181, A181_0, c181_0, e181, hx181_0, hl181_0, hi181_0⟩ := at_L6 HR0_2.out x3_2 p181 q181
                                                    obtain rfl : ad177 = ad181 := (by injection e181)
                                                    replace hx181_0 := (HB.out.cell (World.block_lt_of_cell? w _ hx181_0)).trans hx181_0
                                                    try (have ea_ := Option.some.inj (hx179_0.symm.trans hx181_0); injection ea_ with ea_ en_ ec_; subst ea_; subst ec_; clear en_)
                                                    have HR181_0 := Aside0.mk hi181_0
                                                    have HC181_0 := Aside0.mk hl181_0
                                                    clear hi181_0 hl181_0
                                                    replace p181 := eq_true p181
                                                    replace q181 := eq_true q181
                                                    have p182 : 0 ≤ (x4_3 : Int) := of_decide_eq_true (by assumption)
                                                    have q182 : x4_3 < ((rd_L6 l0_2 x3_2).length : Int) := of_decide_eq_true (by assumption)
                                                    obtain ⟨ad182, A182_0, c182_0, e182, hx182_0, hl182_0, hi182_0⟩ := at_L5 HR181_0.out x4_3 p182 q182
                                                    cases e182
                                                    replace hx182_0 := (HB.out.cell (World.block_lt_of_cell? w _ hx182_0)).trans hx182_0
                                                    try (have ea_ := Option.some.inj (hx180_0.symm.trans hx182_0); injection ea_ with ea_ en_ ec_; subst ea_; subst ec_; clear en_)
                                                    have HR182_0 := Aside0.mk hi182_0
                                                    have HC182_0 := Aside0.mk hl182_0
                                                    clear hi182_0 hl182_0
                                                    replace p182 := eq_true p182
                                                    replace q182 := eq_true q182
                                                    have p183 : 0 ≤ (x3_2 : Int) := of_decide_eq_true (by assumption)
                                                    have q183 : x3_2 < (l0_2.length : Int) := of_decide_eq_true (by assumption)
                                                    obtain ⟨ad183, A183_0, c183_0, e183, hx183_0, hl183_0, hi183_0⟩ := at_L6 HR0_2.out x3_2 p183 q183
                                                    obtain rfl : ad177 = ad183 := (by injection e183)
                                                    replace hx183_0 := (HB.out.cell (World.block_lt_of_cell? w _ hx183_0)).trans hx183_0
                                                    have HR183_0 := Aside0.mk hi183_0
                                                    have HC183_0 := Aside0.mk hl183_0
                                                    clear hi183_0 hl183_0
                                                    replace p183 := eq_true p183
                                                    replace q183 := eq_true q183
                                                    have ea_ := Option.some.inj (hx181_0.symm.trans hx183_0)
                                                    injection ea_ with ea_ en_ ec_
                                                    subst ea_
                                                    subst ec_
                                                    clear en_
                                                    have p184 : 0 ≤ (x4_3 : Int) := of_decide_eq_true (by assumption)
                                                    have q184 : x4_3 < ((rd_L6 l0_2 x3_2).length : Int) := of_decide_eq_true (by assumption)
                                                    obtain ⟨ad184, A184_0, c184_0, e184, hx184_0, hl184_0, hi184_0⟩ := at_L5 HR183_0.out x4_3 p184 q184
                                                    cases e184
                                                    replace hx184_0 := (HB.out.cell (World.block_lt_of_cell? w _ hx184_0)).trans hx184_0
                                                    try (have ea_ := Option.some.inj (hx182_0.symm.trans hx184_0); injection ea_ with ea_ en_ ec_; subst ea_; subst ec_; clear en_)
                                                    have HR184_0 := Aside0.mk hi184_0
                                                    have HC184_0 := Aside0.mk hl184_0
                                                    clear hi184_0 hl184_0
                                                    replace p184 := eq_true p184
                                                    replace q184 := eq_true q184
                                                    have p185 : 0 ≤ (x5_4 : Int) := of_decide_eq_true (by assumption)
                                                    have q185 : x5_4 < ((rd_L5 (rd_L6 l0_2 x3_2) x4_3).length : Int) := of_decide_eq_true (by assumption)
                                                    obtain ⟨ad185, e185, hx185_0, hx185_1, hx185_2⟩ := at_T63 HR184_0.out x5_4 p185 q185
                                                    cases e185
                                                    replace hx185_0 := (HB.out.cell (World.block_lt_of_cell? w _ hx185_0)).trans hx185_0
                                                    replace hx185_1 := (HB.out.cell (World.block_lt_of_cell? w _ hx185_1)).trans hx185_1
                                                    replace hx185_2 := (HB.out.cell (World.block_lt_of_cell? w _ hx185_2)).trans hx185_2
                                                    replace p185 := eq_true p185
                                                    replace q185 := eq_true q185
                                                    go_wp2_with (first | ((with_reducible refine gate_dst (N := 6) rfl ?_); (try (refine gate_guard (by rfl) ?_; dsimp only)); refine box_event ?hg (N := 6) ?hd (cs := #[.int .i64 0, .int .i64 0, .int .i64 0]) (t := 63) ?hr ?_; (case hd => rfl); (case hg => rfl); (case hr => first | (go_simp; done) | (go_simp; rfl)); intro gb186 hg w41 hbox hb; have n0_ := Aside0.mk (blk_below (g := gb176) (o := .cells #[.slice A0_0 l0_0.length c0_0, .int .i64 a0_1, .slice (some ad177) l0_2.length c0_2] 30 (0, 0)) (by (with_reducible repeat (first | refine blk_drewN ?_ _ | refine blk_drew ?_ | refine blk_alloc ?_ _)); exact BK176.out) hb); have n1_ := Aside0.mk (below_step (by repeat (first | exact HB.out | apply below_alloc | apply pw_below_drewN | apply below_drew1 | refine below_set ?_ GE176.out)) hb); have n2_ := Aside0.mk (hbox); have n3_ := Aside0.mk ((by rw [hg]; exact (below_size (by repeat (first | exact HB.out | apply below_alloc | apply pw_below_drewN | apply below_drew1 | refine below_set ?_ GE176.out))) : w.heap.size ≤ gb186)); have n4_ := Aside0.mk ((by rw [hg]; exact (below_size (by repeat (first | exact HB.out | apply below_alloc | apply pw_below_drewN | apply below_drew1 | refine below_set ?_ GE176.out))) : w.heap.size ≤ gb186)); have n5_ := Aside0.mk ((by rw [hg]; exact Nat.ne_of_lt (blk_lt (g := gb176) (o := .cells #[.slice A0_0 l0_0.length c0_0, .int .i64 a0_1, .slice (some ad177) l0_2.length c0_2] 30 (0, 0)) (by (with_reducible repeat (first | refine blk_drewN ?_ _ | refine blk_drew ?_ | refine blk_alloc ?_ _)); exact BK176.out)) : gb176 ≠ gb186)); have n6_ := Aside0.mk ((by rw [hg]; exact Nat.ne_of_gt (blk_lt (g := gb176) (o := .cells #[.slice A0_0 l0_0.length c0_0, .int .i64 a0_1, .slice (some ad177) l0_2.length c0_2] 30 (0, 0)) (by (with_reducible repeat (first | refine blk_drewN ?_ _ | refine blk_drew ?_ | refine blk_alloc ?_ _)); exact BK176.out)) : gb186 ≠ gb176)); clear BK176; clear HB; have BK176 := n0_; have HB := n1_; have BK186 := n2_; have GW186 := n3_; have GE186 := n4_; have NB176_186 := n5_; have NB186_176 := n6_; clear n0_ n1_ n2_ n3_ n4_ n5_ n6_; clear hb hbox hg; have hnb42 := NB186_176.out; have hnc42 := NB176_186.out; have hcz43_0 : w41.cell? ⟨gb186, 0, none⟩ = some (.int .i64 0) := (blk_cell BK186.out 0).trans rfl; have hcz43_1 : w41.cell? ⟨gb186, 1, none⟩ = some (.int .i64 0) := (blk_cell BK186.out 1).trans rfl; have hcz43_2 : w41.cell? ⟨gb186, 2, none⟩ = some (.int .i64 0) := (blk_cell BK186.out 2).trans rfl; have hfz43_0 := blk_frozen BK186.out 0; have hfz43_1 := blk_frozen BK186.out 1; have hfz43_2 := blk_frozen BK186.out 2))
                                                    go_ret
                                                    exact ⟨by first | rfl | (simp <;> rfl) | (simp [*] <;> rfl), by repeat (first | exact HB.out | apply below_alloc | apply pw_below_drewN | apply below_drew1 | refine below_set ?_ GE176.out | refine below_set ?_ GE186.out)⟩
                                                  · rw [if_neg c39] at H
                                                    have c39b0 : decide (3 < ((rd_T63 (rd_L5 (rd_L6 l0_2 x3_2) x4_3) x5_4).f0)) = false := decide_eq_false c39
                                                    clear c39
                                                    by_cases c44 : ((rd_T63 (rd_L5 (rd_L6 l0_2 x3_2) x4_3) x5_4).f1) < 0
                                                    · rw [if_pos c44] at H
                                                      have c44b0 : decide (((rd_T63 (rd_L5 (rd_L6 l0_2 x3_2) x4_3) x5_4).f1) < 0) = true := decide_eq_true c44
                                                      clear c44
                                                      obtain rfl := Option.some.inj H
                                                      have hcz45_0 : wr.cell? ⟨gb176, 0, none⟩ = some (.slice A0_0 l0_0.length c0_0) := (blk_cell BK176.out 0).trans rfl
                                                      have hcz45_1 : wr.cell? ⟨gb176, 1, none⟩ = some (.int .i64 a0_1) := (blk_cell BK176.out 1).trans rfl
                                                      have hcz45_2 : wr.cell? ⟨gb176, 2, none⟩ = some (.slice (some ad177) l0_2.length c0_2) := (blk_cell BK176.out 2).trans rfl
                                                      have hfz45_0 := blk_frozen BK176.out 0
                                                      have hfz45_1 := blk_frozen BK176.out 1
                                                      have hfz45_2 := blk_frozen BK176.out 2
                                                      have p181 : 0 ≤ (x3_2 : Int) := of_decide_eq_true (by assumption)
                                                      have q181 : x3_2 < (l0_2.length : Int) := of_decide_eq_true (by assumption)
                                                      obtain ⟨ad181, A181_0, c181_0, e181, hx181_0, hl181_0, hi181_0⟩ := at_L6 HR0_2.out x3_2 p181 q181
                                                      obtain rfl : ad177 = ad181 := (by injection e181)
                                                      replace hx181_0 := (HB.out.cell (World.block_lt_of_cell? w _ hx181_0)).trans hx181_0
                                                      try (have ea_ := Option.some.inj (hx179_0.symm.trans hx181_0); injection ea_ with ea_ en_ ec_; subst ea_; subst ec_; clear en_)
                                                      have HR181_0 := Aside0.mk hi181_0
                                                      have HC181_0 := Aside0.mk hl181_0
                                                      clear hi181_0 hl181_0
                                                      replace p181 := eq_true p181
                                                      replace q181 := eq_true q181
                                                      have p182 : 0 ≤ (x4_3 : Int) := of_decide_eq_true (by assumption)
                                                      have q182 : x4_3 < ((rd_L6 l0_2 x3_2).length : Int) := of_decide_eq_true (by assumption)
                                                      obtain ⟨ad182, A182_0, c182_0, e182, hx182_0, hl182_0, hi182_0⟩ := at_L5 HR181_0.out x4_3 p182 q182
                                                      cases e182
                                                      replace hx182_0 := (HB.out.cell (World.block_lt_of_cell? w _ hx182_0)).trans hx182_0
                                                      try (have ea_ := Option.some.inj (hx180_0.symm.trans hx182_0); injection ea_ with ea_ en_ ec_; subst ea_; subst ec_; clear en_)
                                                      have HR182_0 := Aside0.mk hi182_0
                                                      have HC182_0 := Aside0.mk hl182_0
                                                      clear hi182_0 hl182_0
                                                      replace p182 := eq_true p182
                                                      replace q182 := eq_true q182
                                                      have p183 : 0 ≤ (x3_2 : Int) := of_decide_eq_true (by assumption)
                                                      have q183 : x3_2 < (l0_2.length : Int) := of_decide_eq_true (by assumption)
                                                      obtain ⟨ad183, A183_0, c183_0, e183, hx183_0, hl183_0, hi183_0⟩ := at_L6 HR0_2.out x3_2 p183 q183
                                                      obtain rfl : ad177 = ad183 := (by injection e183)
                                                      replace hx183_0 := (HB.out.cell (World.block_lt_of_cell? w _ hx183_0)).trans hx183_0
                                                      have HR183_0 := Aside0.mk hi183_0
                                                      have HC183_0 := Aside0.mk hl183_0
                                                      clear hi183_0 hl183_0
                                                      replace p183 := eq_true p183
                                                      replace q183 := eq_true q183
                                                      have ea_ := Option.some.inj (hx181_0.symm.trans hx183_0)
                                                      injection ea_ with ea_ en_ ec_
                                                      subst ea_
                                                      subst ec_
                                                      clear en_
                                                      have p184 : 0 ≤ (x4_3 : Int) := of_decide_eq_true (by assumption)
                                                      have q184 : x4_3 < ((rd_L6 l0_2 x3_2).length : Int) := of_decide_eq_true (by assumption)
                                                      obtain ⟨ad184, A184_0, c184_0, e184, hx184_0, hl184_0, hi184_0⟩ := at_L5 HR183_0.out x4_3 p184 q184
                                                      cases e184
                                                      replace hx184_0 := (HB.out.cell (World.block_lt_of_cell? w _ hx184_0)).trans hx184_0
                                                      try (have ea_ := Option.some.inj (hx182_0.symm.trans hx184_0); injection ea_ with ea_ en_ ec_; subst ea_; subst ec_; clear en_)
                                                      have HR184_0 := Aside0.mk hi184_0
                                                      have HC184_0 := Aside0.mk hl184_0
                                                      clear hi184_0 hl184_0
                                                      replace p184 := eq_true p184
                                                      replace q184 := eq_true q184
                                                      have p185 : 0 ≤ (x5_4 : Int) := of_decide_eq_true (by assumption)
                                                      have q185 : x5_4 < ((rd_L5 (rd_L6 l0_2 x3_2) x4_3).length : Int) := of_decide_eq_true (by assumption)
                                                      obtain ⟨ad185, e185, hx185_0, hx185_1, hx185_2⟩ := at_T63 HR184_0.out x5_4 p185 q185
                                                      cases e185
                                                      replace hx185_0 := (HB.out.cell (World.block_lt_of_cell? w _ hx185_0)).trans hx185_0
                                                      replace hx185_1 := (HB.out.cell (World.block_lt_of_cell? w _ hx185_1)).trans hx185_1
                                                      replace hx185_2 := (HB.out.cell (World.block_lt_of_cell? w _ hx185_2)).trans hx185_2
                                                      replace p185 := eq_true p185
                                                      replace q185 := eq_true q185
                                                      go_wp2_with (first | ((with_reducible refine gate_dst (N := 6) rfl ?_); (try (refine gate_guard (by rfl) ?_; dsimp only)); refine box_event ?hg (N := 6) ?hd (cs := #[.int .i64 0, .int .i64 0, .int .i64 0]) (t := 63) ?hr ?_; (case hd => rfl); (case hg => rfl); (case hr => first | (go_simp; done) | (go_simp; rfl)); intro gb186 hg w46 hbox hb; have n0_ := Aside0.mk (blk_below (g := gb176) (o := .cells #[.slice A0_0 l0_0.length c0_0, .int .i64 a0_1, .slice (some ad177) l0_2.length c0_2] 30 (0, 0)) (by (with_reducible repeat (first | refine blk_drewN ?_ _ | refine blk_drew ?_ | refine blk_alloc ?_ _)); exact BK176.out) hb); have n1_ := Aside0.mk (below_step (by repeat (first | exact HB.out | apply below_alloc | apply pw_below_drewN | apply below_drew1 | refine below_set ?_ GE176.out)) hb); have n2_ := Aside0.mk (hbox); have n3_ := Aside0.mk ((by rw [hg]; exact (below_size (by repeat (first | exact HB.out | apply below_alloc | apply pw_below_drewN | apply below_drew1 | refine below_set ?_ GE176.out))) : w.heap.size ≤ gb186)); have n4_ := Aside0.mk ((by rw [hg]; exact (below_size (by repeat (first | exact HB.out | apply below_alloc | apply pw_below_drewN | apply below_drew1 | refine below_set ?_ GE176.out))) : w.heap.size ≤ gb186)); have n5_ := Aside0.mk ((by rw [hg]; exact Nat.ne_of_lt (blk_lt (g := gb176) (o := .cells #[.slice A0_0 l0_0.length c0_0, .int .i64 a0_1, .slice (some ad177) l0_2.length c0_2] 30 (0, 0)) (by (with_reducible repeat (first | refine blk_drewN ?_ _ | refine blk_drew ?_ | refine blk_alloc ?_ _)); exact BK176.out)) : gb176 ≠ gb186)); have n6_ := Aside0.mk ((by rw [hg]; exact Nat.ne_of_gt (blk_lt (g := gb176) (o := .cells #[.slice A0_0 l0_0.length c0_0, .int .i64 a0_1, .slice (some ad177) l0_2.length c0_2] 30 (0, 0)) (by (with_reducible repeat (first | refine blk_drewN ?_ _ | refine blk_drew ?_ | refine blk_alloc ?_ _)); exact BK176.out)) : gb186 ≠ gb176)); clear BK176; clear HB; have BK176 := n0_; have HB := n1_; have BK186 := n2_; have GW186 := n3_; have GE186 := n4_; have NB176_186 := n5_; have NB186_176 := n6_; clear n0_ n1_ n2_ n3_ n4_ n5_ n6_; clear hb hbox hg; have hnb47 := NB186_176.out; have hnc47 := NB176_186.out; have hcz48_0 : w46.cell? ⟨gb186, 0, none⟩ = some (.int .i64 0) := (blk_cell BK186.out 0).trans rfl; have hcz48_1 : w46.cell? ⟨gb186, 1, none⟩ = some (.int .i64 0) := (blk_cell BK186.out 1).trans rfl; have hcz48_2 : w46.cell? ⟨gb186, 2, none⟩ = some (.int .i64 0) := (blk_cell BK186.out 2).trans rfl; have hfz48_0 := blk_frozen BK186.out 0; have hfz48_1 := blk_frozen BK186.out 1; have hfz48_2 := blk_frozen BK186.out 2))
                                                      go_ret
                                                      exact ⟨by first | rfl | (simp <;> rfl) | (simp [*] <;> rfl), by repeat (first | exact HB.out | apply below_alloc | apply pw_below_drewN | apply below_drew1 | refine below_set ?_ GE176.out | refine below_set ?_ GE186.out)⟩
                                                    · rw [if_neg c44] at H
                                                      have c44b0 : decide (((rd_T63 (rd_L5 (rd_L6 l0_2 x3_2) x4_3) x5_4).f1) < 0) = false := decide_eq_false c44
                                                      clear c44
                                                      by_cases c49 : ((rd_T63 (rd_L5 (rd_L6 l0_2 x3_2) x4_3) x5_4).f1) ≥ (l0_0.length : Int)
                                                      · rw [if_pos c49] at H
                                                        have c49b0 : decide ((l0_0.length : Int) ≤ ((rd_T63 (rd_L5 (rd_L6 l0_2 x3_2) x4_3) x5_4).f1)) = true := decide_eq_true c49
                                                        clear c49
                                                        obtain rfl := Option.some.inj H
                                                        have hcz50_0 : wr.cell? ⟨gb176, 0, none⟩ = some (.slice A0_0 l0_0.length c0_0) := (blk_cell BK176.out 0).trans rfl
                                                        have hcz50_1 : wr.cell? ⟨gb176, 1, none⟩ = some (.int .i64 a0_1) := (blk_cell BK176.out 1).trans rfl
                                                        have hcz50_2 : wr.cell? ⟨gb176, 2, none⟩ = some (.slice (some ad177) l0_2.length c0_2) := (blk_cell BK176.out 2).trans rfl
                                                        have hfz50_0 := blk_frozen BK176.out 0
                                                        have hfz50_1 := blk_frozen BK176.out 1
                                                        have hfz50_2 := blk_frozen BK176.out 2
                                                        have p181 : 0 ≤ (x3_2 : Int) := of_decide_eq_true (by assumption)
                                                        have q181 : x3_2 < (l0_2.length : Int) := of_decide_eq_true (by assumption)
                                                        obtain ⟨ad181, A181_0, c181_0, e181, hx181_0, hl181_0, hi181_0⟩ := at_L6 HR0_2.out x3_2 p181 q181
                                                        obtain rfl : ad177 = ad181 := (by injection e181)
                                                        replace hx181_0 := (HB.out.cell (World.block_lt_of_cell? w _ hx181_0)).trans hx181_0
                                                        try (have ea_ := Option.some.inj (hx179_0.symm.trans hx181_0); injection ea_ with ea_ en_ ec_; subst ea_; subst ec_; clear en_)
                                                        have HR181_0 := Aside0.mk hi181_0
                                                        have HC181_0 := Aside0.mk hl181_0
                                                        clear hi181_0 hl181_0
                                                        replace p181 := eq_true p181
                                                        replace q181 := eq_true q181
                                                        have p182 : 0 ≤ (x4_3 : Int) := of_decide_eq_true (by assumption)
                                                        have q182 : x4_3 < ((rd_L6 l0_2 x3_2).length : Int) := of_decide_eq_true (by assumption)
                                                        obtain ⟨ad182, A182_0, c182_0, e182, hx182_0, hl182_0, hi182_0⟩ := at_L5 HR181_0.out x4_3 p182 q182
                                                        cases e182
                                                        replace hx182_0 := (HB.out.cell (World.block_lt_of_cell? w _ hx182_0)).trans hx182_0
                                                        try (have ea_ := Option.some.inj (hx180_0.symm.trans hx182_0); injection ea_ with ea_ en_ ec_; subst ea_; subst ec_; clear en_)
                                                        have HR182_0 := Aside0.mk hi182_0
                                                        have HC182_0 := Aside0.mk hl182_0
                                                        clear hi182_0 hl182_0
                                                        replace p182 := eq_true p182
                                                        replace q182 := eq_true q182
                                                        have p183 : 0 ≤ (x3_2 : Int) := of_decide_eq_true (by assumption)
                                                        have q183 : x3_2 < (l0_2.length : Int) := of_decide_eq_true (by assumption)
                                                        obtain ⟨ad183, A183_0, c183_0, e183, hx183_0, hl183_0, hi183_0⟩ := at_L6 HR0_2.out x3_2 p183 q183
                                                        obtain rfl : ad177 = ad183 := (by injection e183)
                                                        replace hx183_0 := (HB.out.cell (World.block_lt_of_cell? w _ hx183_0)).trans hx183_0
                                                        have HR183_0 := Aside0.mk hi183_0
                                                        have HC183_0 := Aside0.mk hl183_0
                                                        clear hi183_0 hl183_0
                                                        replace p183 := eq_true p183
                                                        replace q183 := eq_true q183
                                                        have ea_ := Option.some.inj (hx181_0.symm.trans hx183_0)
                                                        injection ea_ with ea_ en_ ec_
                                                        subst ea_
                                                        subst ec_
                                                        clear en_
                                                        have p184 : 0 ≤ (x4_3 : Int) := of_decide_eq_true (by assumption)
                                                        have q184 : x4_3 < ((rd_L6 l0_2 x3_2).length : Int) := of_decide_eq_true (by assumption)
                                                        obtain ⟨ad184, A184_0, c184_0, e184, hx184_0, hl184_0, hi184_0⟩ := at_L5 HR183_0.out x4_3 p184 q184
                                                        cases e184
                                                        replace hx184_0 := (HB.out.cell (World.block_lt_of_cell? w _ hx184_0)).trans hx184_0
                                                        try (have ea_ := Option.some.inj (hx182_0.symm.trans hx184_0); injection ea_ with ea_ en_ ec_; subst ea_; subst ec_; clear en_)
                                                        have HR184_0 := Aside0.mk hi184_0
                                                        have HC184_0 := Aside0.mk hl184_0
                                                        clear hi184_0 hl184_0
                                                        replace p184 := eq_true p184
                                                        replace q184 := eq_true q184
                                                        have p185 : 0 ≤ (x5_4 : Int) := of_decide_eq_true (by assumption)
                                                        have q185 : x5_4 < ((rd_L5 (rd_L6 l0_2 x3_2) x4_3).length : Int) := of_decide_eq_true (by assumption)
                                                        obtain ⟨ad185, e185, hx185_0, hx185_1, hx185_2⟩ := at_T63 HR184_0.out x5_4 p185 q185
                                                        cases e185
                                                        replace hx185_0 := (HB.out.cell (World.block_lt_of_cell? w _ hx185_0)).trans hx185_0
                                                        replace hx185_1 := (HB.out.cell (World.block_lt_of_cell? w _ hx185_1)).trans hx185_1
                                                        replace hx185_2 := (HB.out.cell (World.block_lt_of_cell? w _ hx185_2)).trans hx185_2
                                                        replace p185 := eq_true p185
                                                        replace q185 := eq_true q185
                                                        go_wp2_with (first | ((with_reducible refine gate_dst (N := 6) rfl ?_); (try (refine gate_guard (by rfl) ?_; dsimp only)); refine box_event ?hg (N := 6) ?hd (cs := #[.int .i64 0, .int .i64 0, .int .i64 0]) (t := 63) ?hr ?_; (case hd => rfl); (case hg => rfl); (case hr => first | (go_simp; done) | (go_simp; rfl)); intro gb186 hg w51 hbox hb; have n0_ := Aside0.mk (blk_below (g := gb176) (o := .cells #[.slice A0_0 l0_0.length c0_0, .int .i64 a0_1, .slice (some ad177) l0_2.length c0_2] 30 (0, 0)) (by (with_reducible repeat (first | refine blk_drewN ?_ _ | refine blk_drew ?_ | refine blk_alloc ?_ _)); exact BK176.out) hb); have n1_ := Aside0.mk (below_step (by repeat (first | exact HB.out | apply below_alloc | apply pw_below_drewN | apply below_drew1 | refine below_set ?_ GE176.out)) hb); have n2_ := Aside0.mk (hbox); have n3_ := Aside0.mk ((by rw [hg]; exact (below_size (by repeat (first | exact HB.out | apply below_alloc | apply pw_below_drewN | apply below_drew1 | refine below_set ?_ GE176.out))) : w.heap.size ≤ gb186)); have n4_ := Aside0.mk ((by rw [hg]; exact (below_size (by repeat (first | exact HB.out | apply below_alloc | apply pw_below_drewN | apply below_drew1 | refine below_set ?_ GE176.out))) : w.heap.size ≤ gb186)); have n5_ := Aside0.mk ((by rw [hg]; exact Nat.ne_of_lt (blk_lt (g := gb176) (o := .cells #[.slice A0_0 l0_0.length c0_0, .int .i64 a0_1, .slice (some ad177) l0_2.length c0_2] 30 (0, 0)) (by (with_reducible repeat (first | refine blk_drewN ?_ _ | refine blk_drew ?_ | refine blk_alloc ?_ _)); exact BK176.out)) : gb176 ≠ gb186)); have n6_ := Aside0.mk ((by rw [hg]; exact Nat.ne_of_gt (blk_lt (g := gb176) (o := .cells #[.slice A0_0 l0_0.length c0_0, .int .i64 a0_1, .slice (some ad177) l0_2.length c0_2] 30 (0, 0)) (by (with_reducible repeat (first | refine blk_drewN ?_ _ | refine blk_drew ?_ | refine blk_alloc ?_ _)); exact BK176.out)) : gb186 ≠ gb176)); clear BK176; clear HB; have BK176 := n0_; have HB := n1_; have BK186 := n2_; have GW186 := n3_; have GE186 := n4_; have NB176_186 := n5_; have NB186_176 := n6_; clear n0_ n1_ n2_ n3_ n4_ n5_ n6_; clear hb hbox hg; have hnb52 := NB186_176.out; have hnc52 := NB176_186.out; have hcz53_0 : w51.cell? ⟨gb186, 0, none⟩ = some (.int .i64 0) := (blk_cell BK186.out 0).trans rfl; have hcz53_1 : w51.cell? ⟨gb186, 1, none⟩ = some (.int .i64 0) := (blk_cell BK186.out 1).trans rfl; have hcz53_2 : w51.cell? ⟨gb186, 2, none⟩ = some (.int .i64 0) := (blk_cell BK186.out 2).trans rfl; have hfz53_0 := blk_frozen BK186.out 0; have hfz53_1 := blk_frozen BK186.out 1; have hfz53_2 := blk_frozen BK186.out 2; have hcz54_0 : w51.cell? ⟨gb176, 0, none⟩ = some (.slice A0_0 l0_0.length c0_0) := (blk_cell BK176.out 0).trans rfl; have hcz54_1 : w51.cell? ⟨gb176, 1, none⟩ = some (.int .i64 a0_1) := (blk_cell BK176.out 1).trans rfl; have hcz54_2 : w51.cell? ⟨gb176, 2, none⟩ = some (.slice (some ad177) l0_2.length c0_2) := (blk_cell BK176.out 2).trans rfl; have hfz54_0 := blk_frozen BK176.out 0; have hfz54_1 := blk_frozen BK176.out 1; have hfz54_2 := blk_frozen BK176.out 2))
                                                        go_ret
                                                        exact ⟨by first | rfl | (simp <;> rfl) | (simp [*] <;> rfl), by repeat (first | exact HB.out | apply below_alloc | apply pw_below_drewN | apply below_drew1 | refine below_set ?_ GE176.out | refine below_set ?_ GE186.out)⟩
                                                      · rw [if_neg c49] at H
                                                        have c49b0 : decide ((l0_0.length : Int) ≤ ((rd_T63 (rd_L5 (rd_L6 l0_2 x3_2) x4_3) x5_4).f1)) = false := decide_eq_false c49
                                                        clear c49
                                                        by_cases c55 : ((rd_T63 (rd_L5 (rd_L6 l0_2 x3_2) x4_3) x5_4).f0) = 1
                                                        · rw [if_pos c55] at H
                                                          have c55b0 : (((rd_T63 (rd_L5 (rd_L6 l0_2 x3_2) x4_3) x5_4).f0) == 1) = true := beq_iff_eq.mpr c55
                                                          have c55b1 : (((rd_T63 (rd_L5 (rd_L6 l0_2 x3_2) x4_3) x5_4).f0) != 1) = false := bne_eq_false_iff_eq.mpr c55
                                                          clear c55
                                                          by_cases c56 : ((rd_T63 (rd_L5 (rd_L6 l0_2 x3_2) x4_3) x5_4).f2) = 0
                                                          · rw [if_pos c56] at H
                                                            have c56b0 : (((rd_T63 (rd_L5 (rd_L6 l0_2 x3_2) x4_3) x5_4).f2) == 0) = true := beq_iff_eq.mpr c56
                                                            have c56b1 : (((rd_T63 (rd_L5 (rd_L6 l0_2 x3_2) x4_3) x5_4).f2) != 0) = false := bne_eq_false_iff_eq.mpr c56
                                                            clear c56
                                                            have H' := Aside0.mk H
                                                            clear H
                                                            have hcz57_0 : wr.cell? ⟨gb176, 0, none⟩ = some (.slice A0_0 l0_0.length c0_0) := (blk_cell BK176.out 0).trans rfl
                                                            have hcz57_1 : wr.cell? ⟨gb176, 1, none⟩ = some (.int .i64 a0_1) := (blk_cell BK176.out 1).trans rfl
                                                            have hcz57_2 : wr.cell? ⟨gb176, 2, none⟩ = some (.slice (some ad177) l0_2.length c0_2) := (blk_cell BK176.out 2).trans rfl
                                                            have hfz57_0 := blk_frozen BK176.out 0
                                                            have hfz57_1 := blk_frozen BK176.out 1
                                                            have hfz57_2 := blk_frozen BK176.out 2
                                                            have p181 : 0 ≤ (x3_2 : Int) := of_decide_eq_true (by assumption)
                                                            have q181 : x3_2 < (l0_2.length : Int) := of_decide_eq_true (by assumption)
                                                            obtain ⟨ad181, A181_0, c181_0, e181, hx181_0, hl181_0, hi181_0⟩ := at_L6 HR0_2.out x3_2 p181 q181
                                                            obtain rfl : ad177 = ad181 := (by injection e181)
                                                            replace hx181_0 := (HB.out.cell (World.block_lt_of_cell? w _ hx181_0)).trans hx181_0
                                                            try (have ea_ := Option.some.inj (hx179_0.symm.trans hx181_0); injection ea_ with ea_ en_ ec_; subst ea_; subst ec_; clear en_)
                                                            have HR181_0 := Aside0.mk hi181_0
                                                            have HC181_0 := Aside0.mk hl181_0
                                                            clear hi181_0 hl181_0
                                                            replace p181 := eq_true p181
                                                            replace q181 := eq_true q181
                                                            have p182 : 0 ≤ (x4_3 : Int) := of_decide_eq_true (by assumption)
                                                            have q182 : x4_3 < ((rd_L6 l0_2 x3_2).length : Int) := of_decide_eq_true (by assumption)
                                                            obtain ⟨ad182, A182_0, c182_0, e182, hx182_0, hl182_0, hi182_0⟩ := at_L5 HR181_0.out x4_3 p182 q182
                                                            cases e182
                                                            replace hx182_0 := (HB.out.cell (World.block_lt_of_cell? w _ hx182_0)).trans hx182_0
                                                            try (have ea_ := Option.some.inj (hx180_0.symm.trans hx182_0); injection ea_ with ea_ en_ ec_; subst ea_; subst ec_; clear en_)
                                                            have HR182_0 := Aside0.mk hi182_0
                                                            have HC182_0 := Aside0.mk hl182_0
                                                            clear hi182_0 hl182_0
                                                            replace p182 := eq_true p182
                                                            replace q182 := eq_true q182
                                                            have p183 : 0 ≤ (x3_2 : Int) := of_decide_eq_true (by assumption)
                                                            have q183 : x3_2 < (l0_2.length : Int) := of_decide_eq_true (by assumption)
                                                            obtain ⟨ad183, A183_0, c183_0, e183, hx183_0, hl183_0, hi183_0⟩ := at_L6 HR0_2.out x3_2 p183 q183
                                                            obtain rfl : ad177 = ad183 := (by injection e183)
                                                            replace hx183_0 := (HB.out.cell (World.block_lt_of_cell? w _ hx183_0)).trans hx183_0
                                                            have HR183_0 := Aside0.mk hi183_0
                                                            have HC183_0 := Aside0.mk hl183_0
                                                            clear hi183_0 hl183_0
                                                            replace p183 := eq_true p183
                                                            replace q183 := eq_true q183
                                                            have ea_ := Option.some.inj (hx181_0.symm.trans hx183_0)
                                                            injection ea_ with ea_ en_ ec_
                                                            subst ea_
                                                            subst ec_
                                                            clear en_
                                                            have p184 : 0 ≤ (x4_3 : Int) := of_decide_eq_true (by assumption)
                                                            have q184 : x4_3 < ((rd_L6 l0_2 x3_2).length : Int) := of_decide_eq_true (by assumption)
                                                            obtain ⟨ad184, A184_0, c184_0, e184, hx184_0, hl184_0, hi184_0⟩ := at_L5 HR183_0.out x4_3 p184 q184
                                                            cases e184
                                                            replace hx184_0 := (HB.out.cell (World.block_lt_of_cell? w _ hx184_0)).trans hx184_0
                                                            try (have ea_ := Option.some.inj (hx182_0.symm.trans hx184_0); injection ea_ with ea_ en_ ec_; subst ea_; subst ec_; clear en_)
                                                            have HR184_0 := Aside0.mk hi184_0
                                                            have HC184_0 := Aside0.mk hl184_0
                                                            clear hi184_0 hl184_0
                                                            replace p184 := eq_true p184
                                                            replace q184 := eq_true q184
                                                            have p185 : 0 ≤ (x5_4 : Int) := of_decide_eq_true (by assumption)
                                                            have q185 : x5_4 < ((rd_L5 (rd_L6 l0_2 x3_2) x4_3).length : Int) := of_decide_eq_true (by assumption)
                                                            obtain ⟨ad185, e185, hx185_0, hx185_1, hx185_2⟩ := at_T63 HR184_0.out x5_4 p185 q185
                                                            cases e185
                                                            replace hx185_0 := (HB.out.cell (World.block_lt_of_cell? w _ hx185_0)).trans hx185_0
                                                            replace hx185_1 := (HB.out.cell (World.block_lt_of_cell? w _ hx185_1)).trans hx185_1
                                                            replace hx185_2 := (HB.out.cell (World.block_lt_of_cell? w _ hx185_2)).trans hx185_2
                                                            replace p185 := eq_true p185
                                                            replace q185 := eq_true q185
                                                            go_wp2_with (first | ((with_reducible refine gate_dst (N := 6) rfl ?_); (try (refine gate_guard (by rfl) ?_; dsimp only)); refine box_event ?hg (N := 6) ?hd (cs := #[.int .i64 0, .int .i64 0, .int .i64 0]) (t := 63) ?hr ?_; (case hd => rfl); (case hg => rfl); (case hr => first | (go_simp; done) | (go_simp; rfl)); intro gb186 hg w58 hbox hb; have n0_ := Aside0.mk (blk_below (g := gb176) (o := .cells #[.slice A0_0 l0_0.length c0_0, .int .i64 a0_1, .slice (some ad177) l0_2.length c0_2] 30 (0, 0)) (by (with_reducible repeat (first | refine blk_drewN ?_ _ | refine blk_drew ?_ | refine blk_alloc ?_ _)); exact BK176.out) hb); have n1_ := Aside0.mk (below_step (by repeat (first | exact HB.out | apply below_alloc | apply pw_below_drewN | apply below_drew1 | refine below_set ?_ GE176.out)) hb); have n2_ := Aside0.mk (hbox); have n3_ := Aside0.mk ((by rw [hg]; exact (below_size (by repeat (first | exact HB.out | apply below_alloc | apply pw_below_drewN | apply below_drew1 | refine below_set ?_ GE176.out))) : w.heap.size ≤ gb186)); have n4_ := Aside0.mk ((by rw [hg]; exact (below_size (by repeat (first | exact HB.out | apply below_alloc | apply pw_below_drewN | apply below_drew1 | refine below_set ?_ GE176.out))) : w.heap.size ≤ gb186)); have n5_ := Aside0.mk ((by rw [hg]; exact Nat.ne_of_lt (blk_lt (g := gb176) (o := .cells #[.slice A0_0 l0_0.length c0_0, .int .i64 a0_1, .slice (some ad177) l0_2.length c0_2] 30 (0, 0)) (by (with_reducible repeat (first | refine blk_drewN ?_ _ | refine blk_drew ?_ | refine blk_alloc ?_ _)); exact BK176.out)) : gb176 ≠ gb186)); have n6_ := Aside0.mk ((by rw [hg]; exact Nat.ne_of_gt (blk_lt (g := gb176) (o := .cells #[.slice A0_0 l0_0.length c0_0, .int .i64 a0_1, .slice (some ad177) l0_2.length c0_2] 30 (0, 0)) (by (with_reducible repeat (first | refine blk_drewN ?_ _ | refine blk_drew ?_ | refine blk_alloc ?_ _)); exact BK176.out)) : gb186 ≠ gb176)); clear BK176; clear HB; have BK176 := n0_; have HB := n1_; have BK186 := n2_; have GW186 := n3_; have GE186 := n4_; have NB176_186 := n5_; have NB186_176 := n6_; clear n0_ n1_ n2_ n3_ n4_ n5_ n6_; clear hb hbox hg; have hnb59 := NB186_176.out; have hnc59 := NB176_186.out; have hcz60_0 : w58.cell? ⟨gb186, 0, none⟩ = some (.int .i64 0) := (blk_cell BK186.out 0).trans rfl; have hcz60_1 : w58.cell? ⟨gb186, 1, none⟩ = some (.int .i64 0) := (blk_cell BK186.out 1).trans rfl; have hcz60_2 : w58.cell? ⟨gb186, 2, none⟩ = some (.int .i64 0) := (blk_cell BK186.out 2).trans rfl; have hfz60_0 := blk_frozen BK186.out 0; have hfz60_1 := blk_frozen BK186.out 1; have hfz60_2 := blk_frozen BK186.out 2; have hcz61_0 : w58.cell? ⟨gb176, 0, none⟩ = some (.slice A0_0 l0_0.length c0_0) := (blk_cell BK176.out 0).trans rfl; have hcz61_1 : w58.cell? ⟨gb176, 1, none⟩ = some (.int .i64 a0_1) := (blk_cell BK176.out 1).trans rfl; have hcz61_2 : w58.cell? ⟨gb176, 2, none⟩ = some (.slice (some ad177) l0_2.length c0_2) := (blk_cell BK176.out 2).trans rfl; have hfz61_0 := blk_frozen BK176.out 0; have hfz61_1 := blk_frozen BK176.out 1; have hfz61_2 := blk_frozen BK176.out 2))
                                                            go_roundg k4
                                                            case measure => have := HJ1.out; have := HK2.out; have := HK3.out; have := HK4.out; omega
                                                            case rel => exact ⟨(wrap64 (x5_4 + 1)), (by first | rfl | (simp; done) | (simp [*]; done)), H', ⟨by have := HJ1.out; have := HK2.out; have := HK3.out; have := HK4.out; omega⟩, ⟨by (with_reducible repeat (first | refine blk_drewN ?_ _ | refine blk_drew ?_ | refine blk_alloc ?_ _)); refine blk_far ?_ NB176_186.out _; (with_reducible repeat (first | refine blk_drewN ?_ _ | refine blk_drew ?_ | refine blk_alloc ?_ _)); refine blk_far ?_ NB176_186.out _; (with_reducible repeat (first | refine blk_drewN ?_ _ | refine blk_drew ?_ | refine blk_alloc ?_ _)); refine blk_far ?_ NB176_186.out _; (with_reducible repeat (first | refine blk_drewN ?_ _ | refine blk_drew ?_ | refine blk_alloc ?_ _)); exact BK176.out⟩, ⟨by repeat (first | exact HB.out | apply below_alloc | apply pw_below_drewN | apply below_drew1 | refine below_set ?_ GE176.out | refine below_set ?_ GE186.out)⟩⟩
                                                          · rw [if_neg c56] at H
                                                            have c56b0 : (((rd_T63 (rd_L5 (rd_L6 l0_2 x3_2) x4_3) x5_4).f2) == 0) = false := beq_eq_false_iff_ne.mpr c56
                                                            have c56b1 : (((rd_T63 (rd_L5 (rd_L6 l0_2 x3_2) x4_3) x5_4).f2) != 0) = true := bne_iff_ne.mpr c56
                                                            obtain rfl := Option.some.inj H
                                                            have hcz62_0 : wr.cell? ⟨gb176, 0, none⟩ = some (.slice A0_0 l0_0.length c0_0) := (blk_cell BK176.out 0).trans rfl
                                                            have hcz62_1 : wr.cell? ⟨gb176, 1, none⟩ = some (.int .i64 a0_1) := (blk_cell BK176.out 1).trans rfl
                                                            have hcz62_2 : wr.cell? ⟨gb176, 2, none⟩ = some (.slice (some ad177) l0_2.length c0_2) := (blk_cell BK176.out 2).trans rfl
                                                            have hfz62_0 := blk_frozen BK176.out 0
                                                            have hfz62_1 := blk_frozen BK176.out 1
                                                            have hfz62_2 := blk_frozen BK176.out 2
                                                            have p181 : 0 ≤ (x3_2 : Int) := of_decide_eq_true (by assumption)
                                                            have q181 : x3_2 < (l0_2.length : Int) := of_decide_eq_true (by assumption)
                                                            obtain ⟨ad181, A181_0, c181_0, e181, hx181_0, hl181_0, hi181_0⟩ := at_L6 HR0_2.out x3_2 p181 q181
                                                            obtain rfl : ad177 = ad181 := (by injection e181)
                                                            replace hx181_0 := (HB.out.cell (World.block_lt_of_cell? w _ hx181_0)).trans hx181_0
                                                            try (have ea_ := Option.some.inj (hx179_0.symm.trans hx181_0); injection ea_ with ea_ en_ ec_; subst ea_; subst ec_; clear en_)
                                                            have HR181_0 := Aside0.mk hi181_0
                                                            have HC181_0 := Aside0.mk hl181_0
                                                            clear hi181_0 hl181_0
                                                            replace p181 := eq_true p181
                                                            replace q181 := eq_true q181
                                                            have p182 : 0 ≤ (x4_3 : Int) := of_decide_eq_true (by assumption)
                                                            have q182 : x4_3 < ((rd_L6 l0_2 x3_2).length : Int) := of_decide_eq_true (by assumption)
                                                            obtain ⟨ad182, A182_0, c182_0, e182, hx182_0, hl182_0, hi182_0⟩ := at_L5 HR181_0.out x4_3 p182 q182
                                                            cases e182
                                                            replace hx182_0 := (HB.out.cell (World.block_lt_of_cell? w _ hx182_0)).trans hx182_0
                                                            try (have ea_ := Option.some.inj (hx180_0.symm.trans hx182_0); injection ea_ with ea_ en_ ec_; subst ea_; subst ec_; clear en_)
                                                            have HR182_0 := Aside0.mk hi182_0
                                                            have HC182_0 := Aside0.mk hl182_0
                                                            clear hi182_0 hl182_0
                                                            replace p182 := eq_true p182
                                                            replace q182 := eq_true q182
                                                            have p183 : 0 ≤ (x3_2 : Int) := of_decide_eq_true (by assumption)
                                                            have q183 : x3_2 < (l0_2.length : Int) := of_decide_eq_true (by assumption)
                                                            obtain ⟨ad183, A183_0, c183_0, e183, hx183_0, hl183_0, hi183_0⟩ := at_L6 HR0_2.out x3_2 p183 q183
                                                            obtain rfl : ad177 = ad183 := (by injection e183)
                                                            replace hx183_0 := (HB.out.cell (World.block_lt_of_cell? w _ hx183_0)).trans hx183_0
                                                            have HR183_0 := Aside0.mk hi183_0
                                                            have HC183_0 := Aside0.mk hl183_0
                                                            clear hi183_0 hl183_0
                                                            replace p183 := eq_true p183
                                                            replace q183 := eq_true q183
                                                            have ea_ := Option.some.inj (hx181_0.symm.trans hx183_0)
                                                            injection ea_ with ea_ en_ ec_
                                                            subst ea_
                                                            subst ec_
                                                            clear en_
                                                            have p184 : 0 ≤ (x4_3 : Int) := of_decide_eq_true (by assumption)
                                                            have q184 : x4_3 < ((rd_L6 l0_2 x3_2).length : Int) := of_decide_eq_true (by assumption)
                                                            obtain ⟨ad184, A184_0, c184_0, e184, hx184_0, hl184_0, hi184_0⟩ := at_L5 HR183_0.out x4_3 p184 q184
                                                            cases e184
                                                            replace hx184_0 := (HB.out.cell (World.block_lt_of_cell? w _ hx184_0)).trans hx184_0
                                                            try (have ea_ := Option.some.inj (hx182_0.symm.trans hx184_0); injection ea_ with ea_ en_ ec_; subst ea_; subst ec_; clear en_)
                                                            have HR184_0 := Aside0.mk hi184_0
                                                            have HC184_0 := Aside0.mk hl184_0
                                                            clear hi184_0 hl184_0
                                                            replace p184 := eq_true p184
                                                            replace q184 := eq_true q184
                                                            have p185 : 0 ≤ (x5_4 : Int) := of_decide_eq_true (by assumption)
                                                            have q185 : x5_4 < ((rd_L5 (rd_L6 l0_2 x3_2) x4_3).length : Int) := of_decide_eq_true (by assumption)
                                                            obtain ⟨ad185, e185, hx185_0, hx185_1, hx185_2⟩ := at_T63 HR184_0.out x5_4 p185 q185
                                                            cases e185
                                                            replace hx185_0 := (HB.out.cell (World.block_lt_of_cell? w _ hx185_0)).trans hx185_0
                                                            replace hx185_1 := (HB.out.cell (World.block_lt_of_cell? w _ hx185_1)).trans hx185_1
                                                            replace hx185_2 := (HB.out.cell (World.block_lt_of_cell? w _ hx185_2)).trans hx185_2
                                                            replace p185 := eq_true p185
                                                            replace q185 := eq_true q185
                                                            go_wp2_with (first | ((with_reducible refine gate_dst (N := 6) rfl ?_); (try (refine gate_guard (by rfl) ?_; dsimp only)); refine box_event ?hg (N := 6) ?hd (cs := #[.int .i64 0, .int .i64 0, .int .i64 0]) (t := 63) ?hr ?_; (case hd => rfl); (case hg => rfl); (case hr => first | (go_simp; done) | (go_simp; rfl)); intro gb186 hg w63 hbox hb; have n0_ := Aside0.mk (blk_below (g := gb176) (o := .cells #[.slice A0_0 l0_0.length c0_0, .int .i64 a0_1, .slice (some ad177) l0_2.length c0_2] 30 (0, 0)) (by (with_reducible repeat (first | refine blk_drewN ?_ _ | refine blk_drew ?_ | refine blk_alloc ?_ _)); exact BK176.out) hb); have n1_ := Aside0.mk (below_step (by repeat (first | exact HB.out | apply below_alloc | apply pw_below_drewN | apply below_drew1 | refine below_set ?_ GE176.out)) hb); have n2_ := Aside0.mk (hbox); have n3_ := Aside0.mk ((by rw [hg]; exact (below_size (by repeat (first | exact HB.out | apply below_alloc | apply pw_below_drewN | apply below_drew1 | refine below_set ?_ GE176.out))) : w.heap.size ≤ gb186)); have n4_ := Aside0.mk ((by rw [hg]; exact (below_size (by repeat (first | exact HB.out | apply below_alloc | apply pw_below_drewN | apply below_drew1 | refine below_set ?_ GE176.out))) : w.heap.size ≤ gb186)); have n5_ := Aside0.mk ((by rw [hg]; exact Nat.ne_of_lt (blk_lt (g := gb176) (o := .cells #[.slice A0_0 l0_0.length c0_0, .int .i64 a0_1, .slice (some ad177) l0_2.length c0_2] 30 (0, 0)) (by (with_reducible repeat (first | refine blk_drewN ?_ _ | refine blk_drew ?_ | refine blk_alloc ?_ _)); exact BK176.out)) : gb176 ≠ gb186)); have n6_ := Aside0.mk ((by rw [hg]; exact Nat.ne_of_gt (blk_lt (g := gb176) (o := .cells #[.slice A0_0 l0_0.length c0_0, .int .i64 a0_1, .slice (some ad177) l0_2.length c0_2] 30 (0, 0)) (by (with_reducible repeat (first | refine blk_drewN ?_ _ | refine blk_drew ?_ | refine blk_alloc ?_ _)); exact BK176.out)) : gb186 ≠ gb176)); clear BK176; clear HB; have BK176 := n0_; have HB := n1_; have BK186 := n2_; have GW186 := n3_; have GE186 := n4_; have NB176_186 := n5_; have NB186_176 := n6_; clear n0_ n1_ n2_ n3_ n4_ n5_ n6_; clear hb hbox hg; have hnb64 := NB186_176.out; have hnc64 := NB176_186.out; have hcz65_0 : w63.cell? ⟨gb186, 0, none⟩ = some (.int .i64 0) := (blk_cell BK186.out 0).trans rfl; have hcz65_1 : w63.cell? ⟨gb186, 1, none⟩ = some (.int .i64 0) := (blk_cell BK186.out 1).trans rfl; have hcz65_2 : w63.cell? ⟨gb186, 2, none⟩ = some (.int .i64 0) := (blk_cell BK186.out 2).trans rfl; have hfz65_0 := blk_frozen BK186.out 0; have hfz65_1 := blk_frozen BK186.out 1; have hfz65_2 := blk_frozen BK186.out 2; have hcz66_0 : w63.cell? ⟨gb176, 0, none⟩ = some (.slice A0_0 l0_0.length c0_0) := (blk_cell BK176.out 0).trans rfl; have hcz66_1 : w63.cell? ⟨gb176, 1, none⟩ = some (.int .i64 a0_1) := (blk_cell BK176.out 1).trans rfl; have hcz66_2 : w63.cell? ⟨gb176, 2, none⟩ = some (.slice (some ad177) l0_2.length c0_2) := (blk_cell BK176.out 2).trans rfl; have hfz66_0 := blk_frozen BK176.out 0; have hfz66_1 := blk_frozen BK176.out 1; have hfz66_2 := blk_frozen BK176.out 2))
                                                            go_ret
                                                            exact ⟨by first | rfl | (simp <;> rfl) | (simp [*] <;> rfl), by repeat (first | exact HB.out | apply below_alloc | apply pw_below_drewN | apply below_drew1 | refine below_set ?_ GE176.out | refine below_set ?_ GE186.out)⟩
                                                        · rw [if_neg c55] at H
                                                          have c55b0 : (((rd_T63 (rd_L5 (rd_L6 l0_2 x3_2) x4_3) x5_4).f0) == 1) = false := beq_eq_false_iff_ne.mpr c55
                                                          have c55b1 : (((rd_T63 (rd_L5 (rd_L6 l0_2 x3_2) x4_3) x5_4).f0) != 1) = true := bne_iff_ne.mpr c55
                                                          have H' := Aside0.mk H
                                                          clear H
                                                          have hcz67_0 : wr.cell? ⟨gb176, 0, none⟩ = some (.slice A0_0 l0_0.length c0_0) := (blk_cell BK176.out 0).trans rfl
                                                          have hcz67_1 : wr.cell? ⟨gb176, 1, none⟩ = some (.int .i64 a0_1) := (blk_cell BK176.out 1).trans rfl
                                                          have hcz67_2 : wr.cell? ⟨gb176, 2, none⟩ = some (.slice (some ad177) l0_2.length c0_2) := (blk_cell BK176.out 2).trans rfl
                                                          have hfz67_0 := blk_frozen BK176.out 0
                                                          have hfz67_1 := blk_frozen BK176.out 1
                                                          have hfz67_2 := blk_frozen BK176.out 2
                                                          have p181 : 0 ≤ (x3_2 : Int) := of_decide_eq_true (by assumption)
                                                          have q181 : x3_2 < (l0_2.length : Int) := of_decide_eq_true (by assumption)
                                                          obtain ⟨ad181, A181_0, c181_0, e181, hx181_0, hl181_0, hi181_0⟩ := at_L6 HR0_2.out x3_2 p181 q181
                                                          obtain rfl : ad177 = ad181 := (by injection e181)
                                                          replace hx181_0 := (HB.out.cell (World.block_lt_of_cell? w _ hx181_0)).trans hx181_0
                                                          try (have ea_ := Option.some.inj (hx179_0.symm.trans hx181_0); injection ea_ with ea_ en_ ec_; subst ea_; subst ec_; clear en_)
                                                          have HR181_0 := Aside0.mk hi181_0
                                                          have HC181_0 := Aside0.mk hl181_0
                                                          clear hi181_0 hl181_0
                                                          replace p181 := eq_true p181
                                                          replace q181 := eq_true q181
                                                          have p182 : 0 ≤ (x4_3 : Int) := of_decide_eq_true (by assumption)
                                                          have q182 : x4_3 < ((rd_L6 l0_2 x3_2).length : Int) := of_decide_eq_true (by assumption)
                                                          obtain ⟨ad182, A182_0, c182_0, e182, hx182_0, hl182_0, hi182_0⟩ := at_L5 HR181_0.out x4_3 p182 q182
                                                          cases e182
                                                          replace hx182_0 := (HB.out.cell (World.block_lt_of_cell? w _ hx182_0)).trans hx182_0
                                                          try (have ea_ := Option.some.inj (hx180_0.symm.trans hx182_0); injection ea_ with ea_ en_ ec_; subst ea_; subst ec_; clear en_)
                                                          have HR182_0 := Aside0.mk hi182_0
                                                          have HC182_0 := Aside0.mk hl182_0
                                                          clear hi182_0 hl182_0
                                                          replace p182 := eq_true p182
                                                          replace q182 := eq_true q182
                                                          have p183 : 0 ≤ (x3_2 : Int) := of_decide_eq_true (by assumption)
                                                          have q183 : x3_2 < (l0_2.length : Int) := of_decide_eq_true (by assumption)
                                                          obtain ⟨ad183, A183_0, c183_0, e183, hx183_0, hl183_0, hi183_0⟩ := at_L6 HR0_2.out x3_2 p183 q183
                                                          obtain rfl : ad177 = ad183 := (by injection e183)
                                                          replace hx183_0 := (HB.out.cell (World.block_lt_of_cell? w _ hx183_0)).trans hx183_0
                                                          have HR183_0 := Aside0.mk hi183_0
                                                          have HC183_0 := Aside0.mk hl183_0
                                                          clear hi183_0 hl183_0
                                                          replace p183 := eq_true p183
                                                          replace q183 := eq_true q183
                                                          have ea_ := Option.some.inj (hx181_0.symm.trans hx183_0)
                                                          injection ea_ with ea_ en_ ec_
                                                          subst ea_
                                                          subst ec_
                                                          clear en_
                                                          have p184 : 0 ≤ (x4_3 : Int) := of_decide_eq_true (by assumption)
                                                          have q184 : x4_3 < ((rd_L6 l0_2 x3_2).length : Int) := of_decide_eq_true (by assumption)
                                                          obtain ⟨ad184, A184_0, c184_0, e184, hx184_0, hl184_0, hi184_0⟩ := at_L5 HR183_0.out x4_3 p184 q184
                                                          cases e184
                                                          replace hx184_0 := (HB.out.cell (World.block_lt_of_cell? w _ hx184_0)).trans hx184_0
                                                          try (have ea_ := Option.some.inj (hx182_0.symm.trans hx184_0); injection ea_ with ea_ en_ ec_; subst ea_; subst ec_; clear en_)
                                                          have HR184_0 := Aside0.mk hi184_0
                                                          have HC184_0 := Aside0.mk hl184_0
                                                          clear hi184_0 hl184_0
                                                          replace p184 := eq_true p184
                                                          replace q184 := eq_true q184
                                                          have p185 : 0 ≤ (x5_4 : Int) := of_decide_eq_true (by assumption)
                                                          have q185 : x5_4 < ((rd_L5 (rd_L6 l0_2 x3_2) x4_3).length : Int) := of_decide_eq_true (by assumption)
                                                          obtain ⟨ad185, e185, hx185_0, hx185_1, hx185_2⟩ := at_T63 HR184_0.out x5_4 p185 q185
                                                          cases e185
                                                          replace hx185_0 := (HB.out.cell (World.block_lt_of_cell? w _ hx185_0)).trans hx185_0
                                                          replace hx185_1 := (HB.out.cell (World.block_lt_of_cell? w _ hx185_1)).trans hx185_1
                                                          replace hx185_2 := (HB.out.cell (World.block_lt_of_cell? w _ hx185_2)).trans hx185_2
                                                          replace p185 := eq_true p185
                                                          replace q185 := eq_true q185
                                                          go_wp2_with (first | ((with_reducible refine gate_dst (N := 6) rfl ?_); (try (refine gate_guard (by rfl) ?_; dsimp only)); refine box_event ?hg (N := 6) ?hd (cs := #[.int .i64 0, .int .i64 0, .int .i64 0]) (t := 63) ?hr ?_; (case hd => rfl); (case hg => rfl); (case hr => first | (go_simp; done) | (go_simp; rfl)); intro gb186 hg w68 hbox hb; have n0_ := Aside0.mk (blk_below (g := gb176) (o := .cells #[.slice A0_0 l0_0.length c0_0, .int .i64 a0_1, .slice (some ad177) l0_2.length c0_2] 30 (0, 0)) (by (with_reducible repeat (first | refine blk_drewN ?_ _ | refine blk_drew ?_ | refine blk_alloc ?_ _)); exact BK176.out) hb); have n1_ := Aside0.mk (below_step (by repeat (first | exact HB.out | apply below_alloc | apply pw_below_drewN | apply below_drew1 | refine below_set ?_ GE176.out)) hb); have n2_ := Aside0.mk (hbox); have n3_ := Aside0.mk ((by rw [hg]; exact (below_size (by repeat (first | exact HB.out | apply below_alloc | apply pw_below_drewN | apply below_drew1 | refine below_set ?_ GE176.out))) : w.heap.size ≤ gb186)); have n4_ := Aside0.mk ((by rw [hg]; exact (below_size (by repeat (first | exact HB.out | apply below_alloc | apply pw_below_drewN | apply below_drew1 | refine below_set ?_ GE176.out))) : w.heap.size ≤ gb186)); have n5_ := Aside0.mk ((by rw [hg]; exact Nat.ne_of_lt (blk_lt (g := gb176) (o := .cells #[.slice A0_0 l0_0.length c0_0, .int .i64 a0_1, .slice (some ad177) l0_2.length c0_2] 30 (0, 0)) (by (with_reducible repeat (first | refine blk_drewN ?_ _ | refine blk_drew ?_ | refine blk_alloc ?_ _)); exact BK176.out)) : gb176 ≠ gb186)); have n6_ := Aside0.mk ((by rw [hg]; exact Nat.ne_of_gt (blk_lt (g := gb176) (o := .cells #[.slice A0_0 l0_0.length c0_0, .int .i64 a0_1, .slice (some ad177) l0_2.length c0_2] 30 (0, 0)) (by (with_reducible repeat (first | refine blk_drewN ?_ _ | refine blk_drew ?_ | refine blk_alloc ?_ _)); exact BK176.out)) : gb186 ≠ gb176)); clear BK176; clear HB; have BK176 := n0_; have HB := n1_; have BK186 := n2_; have GW186 := n3_; have GE186 := n4_; have NB176_186 := n5_; have NB186_176 := n6_; clear n0_ n1_ n2_ n3_ n4_ n5_ n6_; clear hb hbox hg; have hnb69 := NB186_176.out; have hnc69 := NB176_186.out; have hcz70_0 : w68.cell? ⟨gb186, 0, none⟩ = some (.int .i64 0) := (blk_cell BK186.out 0).trans rfl; have hcz70_1 : w68.cell? ⟨gb186, 1, none⟩ = some (.int .i64 0) := (blk_cell BK186.out 1).trans rfl; have hcz70_2 : w68.cell? ⟨gb186, 2, none⟩ = some (.int .i64 0) := (blk_cell BK186.out 2).trans rfl; have hfz70_0 := blk_frozen BK186.out 0; have hfz70_1 := blk_frozen BK186.out 1; have hfz70_2 := blk_frozen BK186.out 2; have hcz71_0 : w68.cell? ⟨gb176, 0, none⟩ = some (.slice A0_0 l0_0.length c0_0) := (blk_cell BK176.out 0).trans rfl; have hcz71_1 : w68.cell? ⟨gb176, 1, none⟩ = some (.int .i64 a0_1) := (blk_cell BK176.out 1).trans rfl; have hcz71_2 : w68.cell? ⟨gb176, 2, none⟩ = some (.slice (some ad177) l0_2.length c0_2) := (blk_cell BK176.out 2).trans rfl; have hfz71_0 := blk_frozen BK176.out 0; have hfz71_1 := blk_frozen BK176.out 1; have hfz71_2 := blk_frozen BK176.out 2))
                                                          go_roundg k4
                                                          case measure => have := HJ1.out; have := HK2.out; have := HK3.out; have := HK4.out; omega
                                                          case rel => exact ⟨(wrap64 (x5_4 + 1)), (by first | rfl | (simp; done) | (simp [*]; done)), H', ⟨by have := HJ1.out; have := HK2.out; have := HK3.out; have := HK4.out; omega⟩, ⟨by (with_reducible repeat (first | refine blk_drewN ?_ _ | refine blk_drew ?_ | refine blk_alloc ?_ _)); refine blk_far ?_ NB176_186.out _; (with_reducible repeat (first | refine blk_drewN ?_ _ | refine blk_drew ?_ | refine blk_alloc ?_ _)); refine blk_far ?_ NB176_186.out _; (with_reducible repeat (first | refine blk_drewN ?_ _ | refine blk_drew ?_ | refine blk_alloc ?_ _)); refine blk_far ?_ NB176_186.out _; (with_reducible repeat (first | refine blk_drewN ?_ _ | refine blk_drew ?_ | refine blk_alloc ?_ _)); exact BK176.out⟩, ⟨by repeat (first | exact HB.out | apply below_alloc | apply pw_below_drewN | apply below_drew1 | refine below_set ?_ GE176.out | refine below_set ?_ GE186.out)⟩⟩
                                              · rw [if_neg c33] at H
                                                exact absurd H (by simp)
                                            · rw [if_neg c32] at H
                                              have c32b0 : decide (x5_4 < ((rd_L5 (rd_L6 l0_2 x3_2) x4_3).length : Int)) = false := decide_eq_false c32
                                              clear c32
                                              have H' := Aside0.mk H
                                              clear H
                                              have hcz72_0 : wr.cell? ⟨gb176, 0, none⟩ = some (.slice A0_0 l0_0.length c0_0) := (blk_cell BK176.out 0).trans rfl
                                              have hcz72_1 : wr.cell? ⟨gb176, 1, none⟩ = some (.int .i64 a0_1) := (blk_cell BK176.out 1).trans rfl
                                              have hcz72_2 : wr.cell? ⟨gb176, 2, none⟩ = some (.slice (some ad177) l0_2.length c0_2) := (blk_cell BK176.out 2).trans rfl
                                              have hfz72_0 := blk_frozen BK176.out 0
                                              have hfz72_1 := blk_frozen BK176.out 1
                                              have hfz72_2 := blk_frozen BK176.out 2
                                              have p181 : 0 ≤ (x3_2 : Int) := of_decide_eq_true (by assumption)
                                              have q181 : x3_2 < (l0_2.length : Int) := of_decide_eq_true (by assumption)
                                              obtain ⟨ad181, A181_0, c181_0, e181, hx181_0, hl181_0, hi181_0⟩ := at_L6 HR0_2.out x3_2 p181 q181
                                              obtain rfl : ad177 = ad181 := (by injection e181)
                                              replace hx181_0 := (HB.out.cell (World.block_lt_of_cell? w _ hx181_0)).trans hx181_0
                                              try (have ea_ := Option.some.inj (hx179_0.symm.trans hx181_0); injection ea_ with ea_ en_ ec_; subst ea_; subst ec_; clear en_)
                                              have HR181_0 := Aside0.mk hi181_0
                                              have HC181_0 := Aside0.mk hl181_0
                                              clear hi181_0 hl181_0
                                              replace p181 := eq_true p181
                                              replace q181 := eq_true q181
                                              have p182 : 0 ≤ (x4_3 : Int) := of_decide_eq_true (by assumption)
                                              have q182 : x4_3 < ((rd_L6 l0_2 x3_2).length : Int) := of_decide_eq_true (by assumption)
                                              obtain ⟨ad182, A182_0, c182_0, e182, hx182_0, hl182_0, hi182_0⟩ := at_L5 HR181_0.out x4_3 p182 q182
                                              cases e182
                                              replace hx182_0 := (HB.out.cell (World.block_lt_of_cell? w _ hx182_0)).trans hx182_0
                                              try (have ea_ := Option.some.inj (hx180_0.symm.trans hx182_0); injection ea_ with ea_ en_ ec_; subst ea_; subst ec_; clear en_)
                                              have HR182_0 := Aside0.mk hi182_0
                                              have HC182_0 := Aside0.mk hl182_0
                                              clear hi182_0 hl182_0
                                              replace p182 := eq_true p182
                                              replace q182 := eq_true q182
                                              go_wp2
                                              go_roundg k4
                                              case measure => have := HJ1.out; have := HK2.out; have := HK3.out; have := HK4.out; omega
                                              case rel => exact ⟨(wrap64 (x4_3 + 1)), (by first | rfl | (simp; done) | (simp [*]; done)), H', ⟨by have := HJ1.out; have := HK2.out; have := HK3.out; have := HK4.out; omega⟩, ⟨by (with_reducible repeat (first | refine blk_drewN ?_ _ | refine blk_drew ?_ | refine blk_alloc ?_ _)); exact BK176.out⟩, ⟨by repeat (first | exact HB.out | apply below_alloc | apply pw_below_drewN | apply below_drew1 | refine below_set ?_ GE176.out)⟩⟩
                                          · rw [if_neg c31] at H
                                            exact absurd H (by simp)
                                        · rw [if_neg c30] at H
                                          exact absurd H (by simp)
                                      · rw [if_neg c29] at H
                                        exact absurd H (by simp)
                                    · rw [if_neg c28] at H
                                      exact absurd H (by simp)
                            · rw [if_neg c24] at H
                              exact absurd H (by simp)
                          · rw [if_neg c23] at H
                            have c23b0 : decide (x4_3 < ((rd_L6 l0_2 x3_2).length : Int)) = false := decide_eq_false c23
                            clear c23
                            have H' := Aside0.mk H
                            clear H
                            have hcz73_0 : wr.cell? ⟨gb176, 0, none⟩ = some (.slice A0_0 l0_0.length c0_0) := (blk_cell BK176.out 0).trans rfl
                            have hcz73_1 : wr.cell? ⟨gb176, 1, none⟩ = some (.int .i64 a0_1) := (blk_cell BK176.out 1).trans rfl
                            have hcz73_2 : wr.cell? ⟨gb176, 2, none⟩ = some (.slice (some ad177) l0_2.length c0_2) := (blk_cell BK176.out 2).trans rfl
                            have hfz73_0 := blk_frozen BK176.out 0
                            have hfz73_1 := blk_frozen BK176.out 1
                            have hfz73_2 := blk_frozen BK176.out 2
                            have p178 : 0 ≤ (x3_2 : Int) := of_decide_eq_true (by assumption)
                            have q178 : x3_2 < (l0_2.length : Int) := of_decide_eq_true (by assumption)
                            obtain ⟨ad178, A178_0, c178_0, e178, hx178_0, hl178_0, hi178_0⟩ := at_L6 HR0_2.out x3_2 p178 q178
                            obtain rfl : ad177 = ad178 := (by injection e178)
                            replace hx178_0 := (HB.out.cell (World.block_lt_of_cell? w _ hx178_0)).trans hx178_0
                            try (have ea_ := Option.some.inj (hx177_0.symm.trans hx178_0); injection ea_ with ea_ en_ ec_; subst ea_; subst ec_; clear en_)
                            have HR178_0 := Aside0.mk hi178_0
                            have HC178_0 := Aside0.mk hl178_0
                            clear hi178_0 hl178_0
                            replace p178 := eq_true p178
                            replace q178 := eq_true q178
                            go_wp2
                            go_roundg k3
                            case measure => have := HJ1.out; have := HK2.out; have := HK3.out; omega
                            case rel => exact ⟨(wrap64 (x3_2 + 1)), (by first | rfl | (simp; done) | (simp [*]; done)), H', ⟨by have := HJ1.out; have := HK2.out; have := HK3.out; omega⟩, ⟨by (with_reducible repeat (first | refine blk_drewN ?_ _ | refine blk_drew ?_ | refine blk_alloc ?_ _)); exact BK176.out⟩, ⟨by repeat (first | exact HB.out | apply below_alloc | apply pw_below_drewN | apply below_drew1 | refine below_set ?_ GE176.out)⟩⟩
                        · rw [if_neg c22] at H
                          exact absurd H (by simp)
                      · rw [if_neg c21] at H
                        exact absurd H (by simp)
              · rw [if_neg c17] at H
                exact absurd H (by simp)
            · rw [if_neg c16] at H
              have c16b0 : decide (x3_2 < (l0_2.length : Int)) = false := decide_eq_false c16
              clear c16
              obtain rfl := Option.some.inj H
              have hcz74_0 : wr.cell? ⟨gb176, 0, none⟩ = some (.slice A0_0 l0_0.length c0_0) := (blk_cell BK176.out 0).trans rfl
              have hcz74_1 : wr.cell? ⟨gb176, 1, none⟩ = some (.int .i64 a0_1) := (blk_cell BK176.out 1).trans rfl
              have hcz74_2 : wr.cell? ⟨gb176, 2, none⟩ = some (.slice A0_2 l0_2.length c0_2) := (blk_cell BK176.out 2).trans rfl
              have hfz74_0 := blk_frozen BK176.out 0
              have hfz74_1 := blk_frozen BK176.out 1
              have hfz74_2 := blk_frozen BK176.out 2
              go_wp2
              go_ret
              exact ⟨by first | rfl | (simp <;> rfl) | (simp [*] <;> rfl), by repeat (first | exact HB.out | apply below_alloc | apply pw_below_drewN | apply below_drew1 | refine below_set ?_ GE176.out)⟩

end Go.Proofs.Ytonhmkllfbagmaa.PFnExactTxFair
