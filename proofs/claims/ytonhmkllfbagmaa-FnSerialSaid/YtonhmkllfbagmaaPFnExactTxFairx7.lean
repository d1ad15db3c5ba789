-- Written by a program of this session (wip/print2.sh) out of the translation.
import Derived.Test.YtonhmkllfbagmaaPFnExactTxFairx0
namespace Go.Proofs.Ytonhmkllfbagmaa.PFnExactTxFair
open Go.RowKit Go.Proofs.YtonhmkllfbagmaaW.PrintWords Go.Proofs.YtonhmkllfbagmaaW.PrintLast Go.Proofs.YtonhmkllfbagmaaW.PrintMore
attribute [local go_sem] max2_int min2_int max_two min_two max_three min_three max_four min_four   -- for this text's walks alone
set_option linter.unusedVariables false
set_option linter.unusedSimpArgs false

/-! ### impl_TxOK: function 11 -/
mutual
def impl_TxOK.j0 : Nat → Bool → List Int → Int → List (List (List (S63))) → Option (Bool)
  | 0, _, _, _, _ => none
  | k + 1, x40, x249000, x249001, x249002 => if x40 = true then (some false) else (impl_TxOK.l0 k x249002 (x249002.length : Int) 0 x249000 x249001 x249002)
def impl_TxOK.l0 : Nat → List (List (List (S63))) → Int → Int → List Int → Int → List (List (List (S63))) → Option (Bool)
  | 0, _, _, _, _, _, _ => none
  | k + 1, x42, x43, x44, x249000, x249001, x249002 => if x44 < x43 then (if 0 ≤ x44 then (if x44 < (x42.length : Int) then (if ((rd_L6 x42 x44).length : Int) > 8 then (some false) else (impl_TxOK.l1 k x42 x43 x44 (rd_L6 x42 x44) ((rd_L6 x42 x44).length : Int) 0 x249000 x249001 x249002)) else (none)) else (none)) else (some true)
def impl_TxOK.l1 : Nat → List (List (List (S63))) → Int → Int → List (List (S63)) → Int → Int → List Int → Int → List (List (List (S63))) → Option (Bool)
  | 0, _, _, _, _, _, _, _, _, _ => none
  | k + 1, x42, x43, x44, x51, x52, x53, x249000, x249001, x249002 => if x53 < x52 then (if 0 ≤ x53 then (if x53 < (x51.length : Int) then (if ((rd_L5 x51 x53).length : Int) > 8 then (some false) else (impl_TxOK.l2 k x42 x43 x44 x51 x52 x53 (rd_L5 x51 x53) ((rd_L5 x51 x53).length : Int) 0 x249000 x249001 x249002)) else (none)) else (none)) else (impl_TxOK.l0 k x42 x43 (wrap64 (x44 + 1)) x249000 x249001 x249002)
def impl_TxOK.l2 : Nat → List (List (List (S63))) → Int → Int → List (List (S63)) → Int → Int → List (S63) → Int → Int → List Int → Int → List (List (List (S63))) → Option (Bool)
  | 0, _, _, _, _, _, _, _, _, _, _, _, _ => none
  | k + 1, x42, x43, x44, x51, x52, x53, x60, x61, x62, x249000, x249001, x249002 => if x62 < x61 then (if 0 ≤ x62 then (if x62 < (x60.length : Int) then (if ((rd_T63 x60 x62).f0) < 1 then (some false) else (if ((rd_T63 x60 x62).f0) > 3 then (some false) else (if ((rd_T63 x60 x62).f0) = 1 then (if ((rd_T63 x60 x62).f2) = 0 then (if ((rd_T63 x60 x62).f1) < 0 then (some false) else (if ((rd_T63 x60 x62).f1) ≥ (x249000.length : Int) then (some false) else (impl_TxOK.l2 k x42 x43 x44 x51 x52 x53 x60 x61 (wrap64 (x62 + 1)) x249000 x249001 x249002))) else (some false)) else (if ((rd_T63 x60 x62).f1) < 0 then (some false) else (if ((rd_T63 x60 x62).f1) ≥ (x249000.length : Int) then (some false) else (impl_TxOK.l2 k x42 x43 x44 x51 x52 x53 x60 x61 (wrap64 (x62 + 1)) x249000 x249001 x249002)))))) else (none)) else (none)) else (impl_TxOK.l1 k x42 x43 x44 x51 x52 (wrap64 (x53 + 1)) x249000 x249001 x249002)
end
def impl_TxOK.f (k : Nat) (l0_0 : List Int) (a0_1 : Int) (l0_2 : List (List (List (S63)))) : Option (Bool) := if (l0_0.length : Int) < 1 then (impl_TxOK.j0 k true l0_0 a0_1 l0_2) else (if (l0_0.length : Int) > 8 then (impl_TxOK.j0 k true l0_0 a0_1 l0_2) else (if (l0_2.length : Int) < 1 then (impl_TxOK.j0 k true l0_0 a0_1 l0_2) else (if (l0_2.length : Int) > 4 then (impl_TxOK.j0 k true l0_0 a0_1 l0_2) else (if a0_1 < 1 then (impl_TxOK.j0 k true l0_0 a0_1 l0_2) else (impl_TxOK.j0 k (decide (a0_1 > 4)) l0_0 a0_1 l0_2)))))
set_option maxHeartbeats 8000000 in
set_option maxRecDepth 100000 in
theorem impl_TxOK.calls (k : Nat) (A0_0 : Option Addr) (c0_0 : Nat) (l0_0 : List Int) (a0_1 : Int) (A0_2 : Option Addr) (c0_2 : Nat) (l0_2 : List (List (List (S63)))) (r : Bool) (w : World) (hr0_0 : Kd.C (Kd.int .i64) w A0_0 l0_0.length l0_0) (hc0_0 : l0_0.length ≤ c0_0) (hr0_2 : Kd.C (Kd.slice 61 (Kd.slice 63 k63)) w A0_2 l0_2.length l0_2) (hc0_2 : l0_2.length ≤ c0_2) (h : impl_TxOK.f k l0_0 a0_1 l0_2 = some r) :
    Calls Try.prog 11 #[.agg #[.slice A0_0 l0_0.length c0_0, .int .i64 a0_1, .slice A0_2 l0_2.length c0_2]] w fun e w' => e = .returned (.bool r) ∧ Below w.heap.size w w' := by
  have hu30 := Try.underlying30
  have hu63 := Try.underlying63
  have HR0_0 := Aside0.mk hr0_0
  have HC0_0 := Aside0.mk hc0_0
  clear hr0_0 hc0_0
  have HR0_2 := Aside0.mk hr0_2
  have HC0_2 := Aside0.mk hc0_2
  clear hr0_2 hc0_2
  have HB := Aside0.mk (Below.refl w.heap.size w)
  have H : (if (l0_0.length : Int) < 1 then (impl_TxOK.j0 k true l0_0 a0_1 l0_2) else (if (l0_0.length : Int) > 8 then (impl_TxOK.j0 k true l0_0 a0_1 l0_2) else (if (l0_2.length : Int) < 1 then (impl_TxOK.j0 k true l0_0 a0_1 l0_2) else (if (l0_2.length : Int) > 4 then (impl_TxOK.j0 k true l0_0 a0_1 l0_2) else (if a0_1 < 1 then (impl_TxOK.j0 k true l0_0 a0_1 l0_2) else (impl_TxOK.j0 k (decide (a0_1 > 4)) l0_0 a0_1 l0_2)))))) = some r := h
  clear h
  have HC2 := Aside0.mk H
  clear H
  go_enter Try.func11, Try.ntmps11
  go_upto_region 1 with (first | ((with_reducible refine gate_dst (N := 1) rfl ?_); (try (refine gate_guard (by rfl) ?_; dsimp only)); refine box_event ?hg (N := 1) ?hd (cs := #[.slice A0_0 l0_0.length c0_0, .int .i64 a0_1, .slice A0_2 l0_2.length c0_2]) (t := 30) ?hr ?_; (case hd => rfl); (case hg => rfl); (case hr => first | (go_simp; done) | (go_simp; rfl)); intro gb248 hg w3 hbox hb; have n0_ := Aside0.mk (below_step (by repeat (first | exact HB.out | apply below_alloc | apply pw_below_drewN | apply below_drew1)) hb); have n1_ := Aside0.mk (hbox); have n2_ := Aside0.mk ((by rw [hg]; exact (below_size (by repeat (first | exact HB.out | apply below_alloc | apply pw_below_drewN | apply below_drew1))) : w.heap.size ≤ gb248)); have n3_ := Aside0.mk ((by rw [hg]; exact (below_size (by repeat (first | exact HB.out | apply below_alloc | apply pw_below_drewN | apply below_drew1))) : w.heap.size ≤ gb248)); clear HB; have HB := n0_; have BK248 := n1_; have GW248 := n2_; have GE248 := n3_; clear n0_ n1_ n2_ n3_; clear hb hbox hg))
  (try simp only [Act.put, List.setIfInBounds_toArray, List.set_cons_zero, List.set_cons_succ])
  go_cut [40] (fun v40 wc => ∃ (kq : Nat) (x40_1 : Bool), v40 = .bool x40_1 ∧ Aside0 (impl_TxOK.j0 kq x40_1 l0_0 a0_1 l0_2 = some r) ∧ Aside0 (kq ≤ k) ∧ Aside0 (wc.heap[gb248]? = some (.cells #[(.slice A0_0 l0_0.length c0_0), .int .i64 a0_1, (.slice A0_2 l0_2.length c0_2)] 30 (0, 0))) ∧ Aside0 (Below w.heap.size w wc))
  case first =>
    have H := HC2.out
    clear HC2
    by_cases c4 : (l0_0.length : Int) < 1
    · rw [if_pos c4] at H
      have c4b0 : decide ((l0_0.length : Int) < 1) = true := decide_eq_true c4
      have c4b1 : decide (l0_0.length < 1) = true := decide_eq_true (by omega)
      clear c4
      (first | rw [c4b0] | (simp only [i64_w, i32_w]; rw [c4b0]) | skip)
      have H' := Aside0.mk H
      clear H
      have hcz5_0 : w3.cell? ⟨gb248, 0, none⟩ = some (.slice A0_0 l0_0.length c0_0) := (blk_cell BK248.out 0).trans rfl
      have hcz5_1 : w3.cell? ⟨gb248, 1, none⟩ = some (.int .i64 a0_1) := (blk_cell BK248.out 1).trans rfl
      have hcz5_2 : w3.cell? ⟨gb248, 2, none⟩ = some (.slice A0_2 l0_2.length c0_2) := (blk_cell BK248.out 2).trans rfl
      have hfz5_0 := blk_frozen BK248.out 0
      have hfz5_1 := blk_frozen BK248.out 1
      have hfz5_2 := blk_frozen BK248.out 2
      go_wp2
      go_meet
      case rel => exact ⟨_, (true), (by first | rfl | (simp; done) | (simp [*]; done)), H', ⟨by first | omega | exact Nat.le_refl _⟩, ⟨by (with_reducible repeat (first | refine blk_drewN ?_ _ | refine blk_drew ?_ | refine blk_alloc ?_ _)); exact BK248.out⟩, ⟨by repeat (first | exact HB.out | apply below_alloc | apply pw_below_drewN | apply below_drew1 | refine below_set ?_ GE248.out)⟩⟩
    · rw [if_neg c4] at H
      have c4b0 : decide ((l0_0.length : Int) < 1) = false := decide_eq_false c4
      have c4b1 : decide (l0_0.length < 1) = false := decide_eq_false (by omega)
      clear c4
      (first | rw [c4b0] | (simp only [i64_w, i32_w]; rw [c4b0]) | skip)
      by_cases c6 : (l0_0.length : Int) > 8
      · rw [if_pos c6] at H
        have c6b0 : decide (8 < (l0_0.length : Int)) = true := decide_eq_true c6
        have c6b1 : decide (8 < l0_0.length) = true := decide_eq_true (by omega)
        clear c6
        have H' := Aside0.mk H
        clear H
        have hcz7_0 : w3.cell? ⟨gb248, 0, none⟩ = some (.slice A0_0 l0_0.length c0_0) := (blk_cell BK248.out 0).trans rfl
        have hcz7_1 : w3.cell? ⟨gb248, 1, none⟩ = some (.int .i64 a0_1) := (blk_cell BK248.out 1).trans rfl
        have hcz7_2 : w3.cell? ⟨gb248, 2, none⟩ = some (.slice A0_2 l0_2.length c0_2) := (blk_cell BK248.out 2).trans rfl
        have hfz7_0 := blk_frozen BK248.out 0
        have hfz7_1 := blk_frozen BK248.out 1
        have hfz7_2 := blk_frozen BK248.out 2
        go_wp2
        go_meet
        case rel => exact ⟨_, (true), (by first | rfl | (simp; done) | (simp [*]; done)), H', ⟨by first | omega | exact Nat.le_refl _⟩, ⟨by (with_reducible repeat (first | refine blk_drewN ?_ _ | refine blk_drew ?_ | refine blk_alloc ?_ _)); exact BK248.out⟩, ⟨by repeat (first | exact HB.out | apply below_alloc | apply pw_below_drewN | apply below_drew1 | refine below_set ?_ GE248.out)⟩⟩
      · rw [if_neg c6] at H
        have c6b0 : decide (8 < (l0_0.length : Int)) = false := decide_eq_false c6
        have c6b1 : decide (8 < l0_0.length) = false := decide_eq_false (by omega)
        clear c6
        by_cases c8 : (l0_2.length : Int) < 1
        · rw [if_pos c8] at H
          have c8b0 : decide ((l0_2.length : Int) < 1) = true := decide_eq_true c8
          have c8b1 : decide (l0_2.length < 1) = true := decide_eq_true (by omega)
          clear c8
          have H' := Aside0.mk H
          clear H
          have hcz9_0 : w3.cell? ⟨gb248, 0, none⟩ = some (.slice A0_0 l0_0.length c0_0) := (blk_cell BK248.out 0).trans rfl
          have hcz9_1 : w3.cell? ⟨gb248, 1, none⟩ = some (.int .i64 a0_1) := (blk_cell BK248.out 1).trans rfl
          have hcz9_2 : w3.cell? ⟨gb248, 2, none⟩ = some (.slice A0_2 l0_2.length c0_2) := (blk_cell BK248.out 2).trans rfl
          have hfz9_0 := blk_frozen BK248.out 0
          have hfz9_1 := blk_frozen BK248.out 1
          have hfz9_2 := blk_frozen BK248.out 2
          go_wp2
          go_meet
          case rel => exact ⟨_, (true), (by first | rfl | (simp; done) | (simp [*]; done)), H', ⟨by first | omega | exact Nat.le_refl _⟩, ⟨by (with_reducible repeat (first | refine blk_drewN ?_ _ | refine blk_drew ?_ | refine blk_alloc ?_ _)); exact BK248.out⟩, ⟨by repeat (first | exact HB.out | apply below_alloc | apply pw_below_drewN | apply below_drew1 | refine below_set ?_ GE248.out)⟩⟩
        · rw [if_neg c8] at H
          have c8b0 : decide ((l0_2.length : Int) < 1) = false := decide_eq_false c8
          have c8b1 : decide (l0_2.length < 1) = false := decide_eq_false (by omega)
          clear c8
          by_cases c10 : (l0_2.length : Int) > 4
          · rw [if_pos c10] at H
            have c10b0 : decide (4 < (l0_2.length : Int)) = true := decide_eq_true c10
            have c10b1 : decide (4 < l0_2.length) = true := decide_eq_true (by omega)
            clear c10
            have H' := Aside0.mk H
            clear H
            have hcz11_0 : w3.cell? ⟨gb248, 0, none⟩ = some (.slice A0_0 l0_0.length c0_0) := (blk_cell BK248.out 0).trans rfl
            have hcz11_1 : w3.cell? ⟨gb248, 1, none⟩ = some (.int .i64 a0_1) := (blk_cell BK248.out 1).trans rfl
            have hcz11_2 : w3.cell? ⟨gb248, 2, none⟩ = some (.slice A0_2 l0_2.length c0_2) := (blk_cell BK248.out 2).trans rfl
            have hfz11_0 := blk_frozen BK248.out 0
            have hfz11_1 := blk_frozen BK248.out 1
            have hfz11_2 := blk_frozen BK248.out 2
            go_wp2
            go_meet
            case rel => exact ⟨_, (true), (by first | rfl | (simp; done) | (simp [*]; done)), H', ⟨by first | omega | exact Nat.le_refl _⟩, ⟨by (with_reducible repeat (first | refine blk_drewN ?_ _ | refine blk_drew ?_ | refine blk_alloc ?_ _)); exact BK248.out⟩, ⟨by repeat (first | exact HB.out | apply below_alloc | apply pw_below_drewN | apply below_drew1 | refine below_set ?_ GE248.out)⟩⟩
          · rw [if_neg c10] at H
            have c10b0 : decide (4 < (l0_2.length : Int)) = false := decide_eq_false c10
            have c10b1 : decide (4 < l0_2.length) = false := decide_eq_false (by omega)
            clear c10
            by_cases c12 : a0_1 < 1
            · rw [if_pos c12] at H
              have c12b0 : decide (a0_1 < 1) = true := decide_eq_true c12
              clear c12
              have H' := Aside0.mk H
              clear H
              have hcz13_0 : w3.cell? ⟨gb248, 0, none⟩ = some (.slice A0_0 l0_0.length c0_0) := (blk_cell BK248.out 0).trans rfl
              have hcz13_1 : w3.cell? ⟨gb248, 1, none⟩ = some (.int .i64 a0_1) := (blk_cell BK248.out 1).trans rfl
              have hcz13_2 : w3.cell? ⟨gb248, 2, none⟩ = some (.slice A0_2 l0_2.length c0_2) := (blk_cell BK248.out 2).trans rfl
              have hfz13_0 := blk_frozen BK248.out 0
              have hfz13_1 := blk_frozen BK248.out 1
              have hfz13_2 := blk_frozen BK248.out 2
              go_wp2
              go_meet
              case rel => exact ⟨_, (true), (by first | rfl | (simp; done) | (simp [*]; done)), H', ⟨by first | omega | exact Nat.le_refl _⟩, ⟨by (with_reducible repeat (first | refine blk_drewN ?_ _ | refine blk_drew ?_ | refine blk_alloc ?_ _)); exact BK248.out⟩, ⟨by repeat (first | exact HB.out | apply below_alloc | apply pw_below_drewN | apply below_drew1 | refine below_set ?_ GE248.out)⟩⟩
            · rw [if_neg c12] at H
              have c12b0 : decide (a0_1 < 1) = false := decide_eq_false c12
              clear c12
              have H' := Aside0.mk H
              clear H
              have hcz14_0 : w3.cell? ⟨gb248, 0, none⟩ = some (.slice A0_0 l0_0.length c0_0) := (blk_cell BK248.out 0).trans rfl
              have hcz14_1 : w3.cell? ⟨gb248, 1, none⟩ = some (.int .i64 a0_1) := (blk_cell BK248.out 1).trans rfl
              have hcz14_2 : w3.cell? ⟨gb248, 2, none⟩ = some (.slice A0_2 l0_2.length c0_2) := (blk_cell BK248.out 2).trans rfl
              have hfz14_0 := blk_frozen BK248.out 0
              have hfz14_1 := blk_frozen BK248.out 1
              have hfz14_2 := blk_frozen BK248.out 2
              go_wp2
              go_meet
              case rel => exact ⟨_, (decide (a0_1 > 4)), (by first | rfl | (simp; done) | (simp [*]; done)), H', ⟨by first | omega | exact Nat.le_refl _⟩, ⟨by (with_reducible repeat (first | refine blk_drewN ?_ _ | refine blk_drew ?_ | refine blk_alloc ?_ _)); exact BK248.out⟩, ⟨by repeat (first | exact HB.out | apply below_alloc | apply pw_below_drewN | apply below_drew1 | refine below_set ?_ GE248.out)⟩⟩
  case rest =>
    clear HC2
    try clear c1
    try clear p2
    try clear c4
    try clear c4b0
    try clear c4b1
    try clear c6
    try clear c6b0
    try clear c6b1
    try clear c8
    try clear c8b0
    try clear c8b1
    try clear c10
    try clear c10b0
    try clear c10b1
    try clear c11
    try clear c12
    try clear c12b0
    try clear hcz11_0
    try clear hcz11_1
    try clear hcz11_2
    try clear hcz13_0
    try clear hcz13_1
    try clear hcz13_2
    try clear hcz14_0
    try clear hcz14_1
    try clear hcz14_2
    try clear hcz5_0
    try clear hcz5_1
    try clear hcz5_2
    try clear hcz7_0
    try clear hcz7_1
    try clear hcz7_2
    try clear hcz9_0
    try clear hcz9_1
    try clear hcz9_2
    try clear hfz11_0
    try clear hfz11_1
    try clear hfz11_2
    try clear hfz13_0
    try clear hfz13_1
    try clear hfz13_2
    try clear hfz14_0
    try clear hfz14_1
    try clear hfz14_2
    try clear hfz5_0
    try clear hfz5_1
    try clear hfz5_2
    try clear hfz7_0
    try clear hfz7_1
    try clear hfz7_2
    try clear hfz9_0
    try clear hfz9_1
    try clear hfz9_2
    obtain ⟨kq, x40_1, rfl, HA, HJ1, BK248, HB⟩ := hcut
    cases kq with
    | zero => exact absurd HA.out (by simp [impl_TxOK.j0])
    | succ kj1 =>
      have H := HA.out
      clear HA
      simp only [impl_TxOK.j0] at H
      by_cases c15 : x40_1 = true
      · subst c15
        have H1 : (some false) = some r := by rw [if_pos rfl] at H; exact H
        clear H
        have H := H1
        clear H1
        obtain rfl := Option.some.inj H
        go_wp2
        go_ret
        exact ⟨by first | rfl | (simp <;> rfl) | (simp [*] <;> rfl), by repeat (first | exact HB.out | apply below_alloc | apply pw_below_drewN | apply below_drew1 | refine below_set ?_ GE248.out)⟩
      · replace c15 := Bool.eq_false_iff.mpr c15
        subst c15
        have H1 : (impl_TxOK.l0 kj1 l0_2 (l0_2.length : Int) 0 l0_0 a0_1 l0_2) = some r := by rw [if_neg (show ¬ (false = true) by decide)] at H; exact H
        clear H
        have H := H1
        clear H1
        have H' := Aside0.mk H
        clear H
        have hcz16_0 : wc.cell? ⟨gb248, 0, none⟩ = some (.slice A0_0 l0_0.length c0_0) := (blk_cell BK248.out 0).trans rfl
        have hcz16_1 : wc.cell? ⟨gb248, 1, none⟩ = some (.int .i64 a0_1) := (blk_cell BK248.out 1).trans rfl
        have hcz16_2 : wc.cell? ⟨gb248, 2, none⟩ = some (.slice A0_2 l0_2.length c0_2) := (blk_cell BK248.out 2).trans rfl
        have hfz16_0 := blk_frozen BK248.out 0
        have hfz16_1 := blk_frozen BK248.out 1
        have hfz16_2 := blk_frozen BK248.out 2
        go_wp2
        go_loopg [44] kj1 (fun kq v44 w' => ∃ (x44_2 : Int), v44 = .int .i64 x44_2 ∧ Aside0 (impl_TxOK.l0 kq l0_2 (l0_2.length : Int) x44_2 l0_0 a0_1 l0_2 = some r) ∧ Aside0 (kq ≤ kj1) ∧ Aside0 (w'.heap[gb248]? = some (.cells #[(.slice A0_0 l0_0.length c0_0), .int .i64 a0_1, (.slice A0_2 l0_2.length c0_2)] 30 (0, 0))) ∧ Aside0 (Below w.heap.size w w'))
        case atStart => exact ⟨(0), (by first | rfl | (simp; done) | (simp [*]; done)), H', ⟨Nat.le_refl _⟩, ⟨by (with_reducible repeat (first | refine blk_drewN ?_ _ | refine blk_drew ?_ | refine blk_alloc ?_ _)); exact BK248.out⟩, ⟨by repeat (first | exact HB.out | apply below_alloc | apply pw_below_drewN | apply below_drew1 | refine below_set ?_ GE248.out)⟩⟩
        case round =>
          clear H'
          try clear c1
          try clear p2
          try clear c4
          try clear c4b0
          try clear c4b1
          try clear c6
          try clear c6b0
          try clear c6b1
          try clear c8
          try clear c8b0
          try clear c8b1
          try clear c10
          try clear c10b0
          try clear c10b1
          try clear c11
          try clear c12
          try clear c12b0
          try clear c15
          try clear hcz11_0
          try clear hcz11_1
          try clear hcz11_2
          try clear hcz13_0
          try clear hcz13_1
          try clear hcz13_2
          try clear hcz14_0
          try clear hcz14_1
          try clear hcz14_2
          try clear hcz16_0
          try clear hcz16_1
          try clear hcz16_2
          try clear hcz5_0
          try clear hcz5_1
          try clear hcz5_2
          try clear hcz7_0
          try clear hcz7_1
          try clear hcz7_2
          try clear hcz9_0
          try clear hcz9_1
          try clear hcz9_2
          try clear hfz11_0
          try clear hfz11_1
          try clear hfz11_2
          try clear hfz13_0
          try clear hfz13_1
          try clear hfz13_2
          try clear hfz14_0
          try clear hfz14_1
          try clear hfz14_2
          try clear hfz16_0
          try clear hfz16_1
          try clear hfz16_2
          try clear hfz5_0
          try clear hfz5_1
          try clear hfz5_2
          try clear hfz7_0
          try clear hfz7_1
          try clear hfz7_2
          try clear hfz9_0
          try clear hfz9_1
          try clear hfz9_2
          try clear p2
          obtain ⟨x44_2, rfl, HA, HK2, BK248, HB⟩ := hrel
          cases gk with
          | zero => exact absurd HA.out (by simp [impl_TxOK.l0])
          | succ k2 =>
            have H := HA.out
            clear HA
            simp only [impl_TxOK.l0] at H
            by_cases c17 : x44_2 < (l0_2.length : Int)
            · rw [if_pos c17] at H
              have c17b0 : decide (x44_2 < (l0_2.length : Int)) = true := decide_eq_true c17
              clear c17
              by_cases c18 : 0 ≤ x44_2
              · rw [if_pos c18] at H
                have c18b0 : decide (0 ≤ x44_2) = true := decide_eq_true c18
                clear c18
                by_cases c19 : x44_2 < (l0_2.length : Int)
                · rw [if_pos c19] at H
                  have c19b0 : decide (x44_2 < (l0_2.length : Int)) = true := decide_eq_true c19
                  clear c19
                  by_cases c20 : ((rd_L6 l0_2 x44_2).length : Int) > 8
                  · rw [if_pos c20] at H
                    have c20b0 : decide (8 < ((rd_L6 l0_2 x44_2).length : Int)) = true := decide_eq_true c20
                    have c20b1 : decide (8 < (rd_L6 l0_2 x44_2).length) = true := decide_eq_true (by omega)
                    clear c20
                    obtain rfl := Option.some.inj H
                    have p249 : 0 ≤ (x44_2 : Int) := of_decide_eq_true (by assumption)
                    have q249 : x44_2 < (l0_2.length : Int) := of_decide_eq_true (by assumption)
                    obtain ⟨ad249, A249_0, c249_0, e249, hx249_0, hl249_0, hi249_0⟩ := at_L6 HR0_2.out x44_2 p249 q249
                    cases e249
                    replace hx249_0 := (HB.out.cell (World.block_lt_of_cell? w _ hx249_0)).trans hx249_0
                    have HR249_0 := Aside0.mk hi249_0
                    have HC249_0 := Aside0.mk hl249_0
                    clear hi249_0 hl249_0
                    replace p249 := eq_true p249
                    replace q249 := eq_true q249
                    go_wp2
                    go_ret
                    exact ⟨by first | rfl | (simp <;> rfl) | (simp [*] <;> rfl), by repeat (first | exact HB.out | apply below_alloc | apply pw_below_drewN | apply below_drew1 | refine below_set ?_ GE248.out)⟩
                  · rw [if_neg c20] at H
                    have c20b0 : decide (8 < ((rd_L6 l0_2 x44_2).length : Int)) = false := decide_eq_false c20
                    have c20b1 : decide (8 < (rd_L6 l0_2 x44_2).length) = false := decide_eq_false (by omega)
                    clear c20
                    have H' := Aside0.mk H
                    clear H
                    have p249 : 0 ≤ (x44_2 : Int) := of_decide_eq_true (by assumption)
                    have q249 : x44_2 < (l0_2.length : Int) := of_decide_eq_true (by assumption)
                    obtain ⟨ad249, A249_0, c249_0, e249, hx249_0, hl249_0, hi249_0⟩ := at_L6 HR0_2.out x44_2 p249 q249
                    cases e249
                    replace hx249_0 := (HB.out.cell (World.block_lt_of_cell? w _ hx249_0)).trans hx249_0
                    have HR249_0 := Aside0.mk hi249_0
                    have HC249_0 := Aside0.mk hl249_0
                    clear hi249_0 hl249_0
                    replace p249 := eq_true p249
                    replace q249 := eq_true q249
                    go_wp2
                    go_loopg [53] k2 (fun kq v53 w' => ∃ (x53_3 : Int), v53 = .int .i64 x53_3 ∧ Aside0 (impl_TxOK.l1 kq l0_2 (l0_2.length : Int) x44_2 (rd_L6 l0_2 x44_2) ((rd_L6 l0_2 x44_2).length : Int) x53_3 l0_0 a0_1 l0_2 = some r) ∧ Aside0 (kq ≤ k2) ∧ Aside0 (w'.heap[gb248]? = some (.cells #[(.slice A0_0 l0_0.length c0_0), .int .i64 a0_1, (.slice (some ad249) l0_2.length c0_2)] 30 (0, 0))) ∧ Aside0 (Below w.heap.size w w'))
                    case atStart => exact ⟨(0), (by first | rfl | (simp; done) | (simp [*]; done)), H', ⟨Nat.le_refl _⟩, ⟨by (with_reducible repeat (first | refine blk_drewN ?_ _ | refine blk_drew ?_ | refine blk_alloc ?_ _)); exact BK248.out⟩, ⟨by repeat (first | exact HB.out | apply below_alloc | apply pw_below_drewN | apply below_drew1 | refine below_set ?_ GE248.out)⟩⟩
                    case round =>
                      clear H'
                      try clear c1
                      try clear c2
                      try clear p2
                      try clear q2
                      try clear hx2
                      try clear c4
                      try clear c4b0
                      try clear c4b1
                      try clear c6
                      try clear c6b0
                      try clear c6b1
                      try clear c8
                      try clear c8b0
                      try clear c8b1
                      try clear c10
                      try clear c10b0
                      try clear c10b1
                      try clear c11
                      try clear c12
                      try clear c12b0
                      try clear c15
                      try clear c17
                      try clear c17b0
                      try clear c18
                      try clear c18b0
                      try clear c19
                      try clear c19b0
                      try clear c20
                      try clear c20b0
                      try clear c20b1
                      try clear hcz11_0
                      try clear hcz11_1
                      try clear hcz11_2
                      try clear hcz13_0
                      try clear hcz13_1
                      try clear hcz13_2
                      try clear hcz14_0
                      try clear hcz14_1
                      try clear hcz14_2
                      try clear hcz16_0
                      try clear hcz16_1
                      try clear hcz16_2
                      try clear hcz5_0
                      try clear hcz5_1
                      try clear hcz5_2
                      try clear hcz7_0
                      try clear hcz7_1
                      try clear hcz7_2
                      try clear hcz9_0
                      try clear hcz9_1
                      try clear hcz9_2
                      try clear hfz11_0
                      try clear hfz11_1
                      try clear hfz11_2
                      try clear hfz13_0
                      try clear hfz13_1
                      try clear hfz13_2
                      try clear hfz14_0
                      try clear hfz14_1
                      try clear hfz14_2
                      try clear hfz16_0
                      try clear hfz16_1
                      try clear hfz16_2
                      try clear hfz5_0
                      try clear hfz5_1
                      try clear hfz5_2
                      try clear hfz7_0
                      try clear hfz7_1
                      try clear hfz7_2
                      try clear hfz9_0
                      try clear hfz9_1
                      try clear hfz9_2
                      try clear hx249_0
                      try clear p2
                      try clear p249
                      try clear q249
                      obtain ⟨x53_3, rfl, HA, HK3, BK248, HB⟩ := hrel
                      cases gk with
                      | zero => exact absurd HA.out (by simp [impl_TxOK.l1])
                      | succ k3 =>
                        have H := HA.out
                        clear HA
                        simp only [impl_TxOK.l1] at H
                        by_cases c21 : x53_3 < ((rd_L6 l0_2 x44_2).length : Int)
                        · rw [if_pos c21] at H
                          have c21b0 : decide (x53_3 < ((rd_L6 l0_2 x44_2).length : Int)) = true := decide_eq_true c21
                          clear c21
                          by_cases c22 : 0 ≤ x53_3
                          · rw [if_pos c22] at H
                            have c22b0 : decide (0 ≤ x53_3) = true := decide_eq_true c22
                            clear c22
                            by_cases c23 : x53_3 < ((rd_L6 l0_2 x44_2).length : Int)
                            · rw [if_pos c23] at H
                              have c23b0 : decide (x53_3 < ((rd_L6 l0_2 x44_2).length : Int)) = true := decide_eq_true c23
                              clear c23
                              by_cases c24 : ((rd_L5 (rd_L6 l0_2 x44_2) x53_3).length : Int) > 8
                              · rw [if_pos c24] at H
                                have c24b0 : decide (8 < ((rd_L5 (rd_L6 l0_2 x44_2) x53_3).length : Int)) = true := decide_eq_true c24
                                have c24b1 : decide (8 < (rd_L5 (rd_L6 l0_2 x44_2) x53_3).length) = true := decide_eq_true (by omega)
                                clear c24
                                obtain rfl := Option.some.inj H
                                have p250 : 0 ≤ (x53_3 : Int) := of_decide_eq_true (by assumption)
                                have q250 : x53_3 < ((rd_L6 l0_2 x44_2).length : Int) := of_decide_eq_true (by assumption)
                                obtain ⟨ad250, A250_0, c250_0, e250, hx250_0, hl250_0, hi250_0⟩ := at_L5 HR249_0.out x53_3 p250 q250
                                cases e250
                                replace hx250_0 := (HB.out.cell (World.block_lt_of_cell? w _ hx250_0)).trans hx250_0
                                have HR250_0 := Aside0.mk hi250_0
                                have HC250_0 := Aside0.mk hl250_0
                                clear hi250_0 hl250_0
                                replace p250 := eq_true p250
                                replace q250 := eq_true q250
                                go_wp2
                                go_ret
                                exact ⟨by first | rfl | (simp <;> rfl) | (simp [*] <;> rfl), by repeat (first | exact HB.out | apply below_alloc | apply pw_below_drewN | apply below_drew1 | refine below_set ?_ GE248.out)⟩
                              · rw [if_neg c24] at H
                                have c24b0 : decide (8 < ((rd_L5 (rd_L6 l0_2 x44_2) x53_3).length : Int)) = false := decide_eq_false c24
                                have c24b1 : decide (8 < (rd_L5 (rd_L6 l0_2 x44_2) x53_3).length) = false := decide_eq_false (by omega)
                                clear c24
                                have H' := Aside0.mk H
                                clear H
                                have p250 : 0 ≤ (x53_3 : Int) := of_decide_eq_true (by assumption)
                                have q250 : x53_3 < ((rd_L6 l0_2 x44_2).length : Int) := of_decide_eq_true (by assumption)
                                obtain ⟨ad250, A250_0, c250_0, e250, hx250_0, hl250_0, hi250_0⟩ := at_L5 HR249_0.out x53_3 p250 q250
                                cases e250
                                replace hx250_0 := (HB.out.cell (World.block_lt_of_cell? w _ hx250_0)).trans hx250_0
                                have HR250_0 := Aside0.mk hi250_0
                                have HC250_0 := Aside0.mk hl250_0
                                clear hi250_0 hl250_0
                                replace p250 := eq_true p250
                                replace q250 := eq_true q250
                                go_wp2
                                go_loopg [62] k3 (fun kq v62 w' => ∃ (x62_4 : Int), v62 = .int .i64 x62_4 ∧ Aside0 (impl_TxOK.l2 kq l0_2 (l0_2.length : Int) x44_2 (rd_L6 l0_2 x44_2) ((rd_L6 l0_2 x44_2).length : Int) x53_3 (rd_L5 (rd_L6 l0_2 x44_2) x53_3) ((rd_L5 (rd_L6 l0_2 x44_2) x53_3).length : Int) x62_4 l0_0 a0_1 l0_2 = some r) ∧ Aside0 (kq ≤ k3) ∧ Aside0 (w'.heap[gb248]? = some (.cells #[(.slice A0_0 l0_0.length c0_0), .int .i64 a0_1, (.slice (some ad249) l0_2.length c0_2)] 30 (0, 0))) ∧ Aside0 (Below w.heap.size w w'))
                                case atStart => exact ⟨(0), (by first | rfl | (simp; done) | (simp [*]; done)), H', ⟨Nat.le_refl _⟩, ⟨by (with_reducible repeat (first | refine blk_drewN ?_ _ | refine blk_drew ?_ | refine blk_alloc ?_ _)); exact BK248.out⟩, ⟨by repeat (first | exact HB.out | apply below_alloc | apply pw_below_drewN | apply below_drew1 | refine below_set ?_ GE248.out)⟩⟩
                                case round =>
                                  clear H'
                                  try clear c1
                                  try clear c2
                                  try clear p2
                                  try clear q2
                                  try clear hx2
                                  try clear c4
                                  try clear c4b0
                                  try clear c4b1
                                  try clear c6
                                  try clear c6b0
                                  try clear c6b1
                                  try clear c8
                                  try clear c8b0
                                  try clear c8b1
                                  try clear c10
                                  try clear c10b0
                                  try clear c10b1
                                  try clear c11
                                  try clear c12
                                  try clear c12b0
                                  try clear c15
                                  try clear c17
                                  try clear c17b0
                                  try clear c18
                                  try clear c18b0
                                  try clear c19
                                  try clear c19b0
                                  try clear c20
                                  try clear c20b0
                                  try clear c20b1
                                  try clear c21
                                  try clear c21b0
                                  try clear c22
                                  try clear c22b0
                                  try clear c23
                                  try clear c23b0
                                  try clear c24
                                  try clear c24b0
                                  try clear c24b1
                                  try clear p24
                                  try clear q24
                                  try clear hx24
                                  try clear hcz11_0
                                  try clear hcz11_1
                                  try clear hcz11_2
                                  try clear hcz13_0
                                  try clear hcz13_1
                                  try clear hcz13_2
                                  try clear hcz14_0
                                  try clear hcz14_1
                                  try clear hcz14_2
                                  try clear hcz16_0
                                  try clear hcz16_1
                                  try clear hcz16_2
                                  try clear hcz5_0
                                  try clear hcz5_1
                                  try clear hcz5_2
                                  try clear hcz7_0
                                  try clear hcz7_1
                                  try clear hcz7_2
                                  try clear hcz9_0
                                  try clear hcz9_1
                                  try clear hcz9_2
                                  try clear hfz11_0
                                  try clear hfz11_1
                                  try clear hfz11_2
                                  try clear hfz13_0
                                  try clear hfz13_1
                                  try clear hfz13_2
                                  try clear hfz14_0
                                  try clear hfz14_1
                                  try clear hfz14_2
                                  try clear hfz16_0
                                  try clear hfz16_1
                                  try clear hfz16_2
                                  try clear hfz5_0
                                  try clear hfz5_1
                                  try clear hfz5_2
                                  try clear hfz7_0
                                  try clear hfz7_1
                                  try clear hfz7_2
                                  try clear hfz9_0
                                  try clear hfz9_1
                                  try clear hfz9_2
                                  try clear hx249_0
                                  try clear hx250_0
                                  try clear p2
                                  try clear p249
                                  try clear p250
                                  try clear q2
                                  try clear q249
                                  try clear q250
                                  obtain ⟨x62_4, rfl, HA, HK4, BK248, HB⟩ := hrel
                                  cases gk with
                                  | zero => exact absurd HA.out (by simp [impl_TxOK.l2])
                                  | succ k4 =>
                                    have H := HA.out
                                    clear HA
                                    simp only [impl_TxOK.l2] at H
                                    by_cases c25 : x62_4 < ((rd_L5 (rd_L6 l0_2 x44_2) x53_3).length : Int)
                                    · rw [if_pos c25] at H
                                      have c25b0 : decide (x62_4 < ((rd_L5 (rd_L6 l0_2 x44_2) x53_3).length : Int)) = true := decide_eq_true c25
                                      clear c25
                                      by_cases c26 : 0 ≤ x62_4
                                      · rw [if_pos c26] at H
                                        have c26b0 : decide (0 ≤ x62_4) = true := decide_eq_true c26
                                        clear c26
                                        by_cases c27 : x62_4 < ((rd_L5 (rd_L6 l0_2 x44_2) x53_3).length : Int)
                                        · rw [if_pos c27] at H
                                          have c27b0 : decide (x62_4 < ((rd_L5 (rd_L6 l0_2 x44_2) x53_3).length : Int)) = true := decide_eq_true c27
                                          clear c27
                                          by_cases c28 : ((rd_T63 (rd_L5 (rd_L6 l0_2 x44_2) x53_3) x62_4).f0) < 1
                                          · rw [if_pos c28] at H
                                            have c28b0 : decide (((rd_T63 (rd_L5 (rd_L6 l0_2 x44_2) x53_3) x62_4).f0) < 1) = true := decide_eq_true c28
                                            clear c28
                                            obtain rfl := Option.some.inj H
                                            have p251 : 0 ≤ (x62_4 : Int) := of_decide_eq_true (by assumption)
                                            have q251 : x62_4 < ((rd_L5 (rd_L6 l0_2 x44_2) x53_3).length : Int) := of_decide_eq_true (by assumption)
                                            obtain ⟨ad251, e251, hx251_0, hx251_1, hx251_2⟩ := at_T63 HR250_0.out x62_4 p251 q251
                                            cases e251
                                            replace hx251_0 := (HB.out.cell (World.block_lt_of_cell? w _ hx251_0)).trans hx251_0
                                            replace hx251_1 := (HB.out.cell (World.block_lt_of_cell? w _ hx251_1)).trans hx251_1
                                            replace hx251_2 := (HB.out.cell (World.block_lt_of_cell? w _ hx251_2)).trans hx251_2
                                            replace p251 := eq_true p251
                                            replace q251 := eq_true q251
                                            go_wp2_with (first | ((with_reducible refine gate_dst (N := 8) rfl ?_); (try (refine gate_guard (by rfl) ?_; dsimp only)); refine box_event ?hg (N := 8) ?hd (cs := #[.int .i64 0, .int .i64 0, .int .i64 0]) (t := 63) ?hr ?_; (case hd => rfl); (case hg => rfl); (case hr => first | (go_simp; done) | (go_simp; rfl)); intro gb252 hg w29 hbox hb; have n0_ := Aside0.mk (blk_below (g := gb248) (o := .cells #[.slice A0_0 l0_0.length c0_0, .int .i64 a0_1, .slice (some ad249) l0_2.length c0_2] 30 (0, 0)) (by (with_reducible repeat (first | refine blk_drewN ?_ _ | refine blk_drew ?_ | refine blk_alloc ?_ _)); exact BK248.out) hb); have n1_ := Aside0.mk (below_step (by repeat (first | exact HB.out | apply below_alloc | apply pw_below_drewN | apply below_drew1 | refine below_set ?_ GE248.out)) hb); have n2_ := Aside0.mk (hbox); have n3_ := Aside0.mk ((by rw [hg]; exact (below_size (by repeat (first | exact HB.out | apply below_alloc | apply pw_below_drewN | apply below_drew1 | refine below_set ?_ GE248.out))) : w.heap.size ≤ gb252)); have n4_ := Aside0.mk ((by rw [hg]; exact (below_size (by repeat (first | exact HB.out | apply below_alloc | apply pw_below_drewN | apply below_drew1 | refine below_set ?_ GE248.out))) : w.heap.size ≤ gb252)); have n5_ := Aside0.mk ((by rw [hg]; exact Nat.ne_of_lt (blk_lt (g := gb248) (o := .cells #[.slice A0_0 l0_0.length c0_0, .int .i64 a0_1, .slice (some ad249) l0_2.length c0_2] 30 (0, 0)) (by (with_reducible repeat (first | refine blk_drewN ?_ _ | refine blk_drew ?_ | refine blk_alloc ?_ _)); exact BK248.out)) : gb248 ≠ gb252)); have n6_ := Aside0.mk ((by rw [hg]; exact Nat.ne_of_gt (blk_lt (g := gb248) (o := .cells #[.slice A0_0 l0_0.length c0_0, .int .i64 a0_1, .slice (some ad249) l0_2.length c0_2] 30 (0, 0)) (by (with_reducible repeat (first | refine blk_drewN ?_ _ | refine blk_drew ?_ | refine blk_alloc ?_ _)); exact BK248.out)) : gb252 ≠ gb248)); clear BK248; clear HB; have BK248 := n0_; have HB := n1_; have BK252 := n2_; have GW252 := n3_; have GE252 := n4_; have NB248_252 := n5_; have NB252_248 := n6_; clear n0_ n1_ n2_ n3_ n4_ n5_ n6_; clear hb hbox hg; have hnb30 := NB252_248.out; have hnc30 := NB248_252.out; have hcz31_0 : w29.cell? ⟨gb252, 0, none⟩ = some (.int .i64 0) := (blk_cell BK252.out 0).trans rfl; have hcz31_1 : w29.cell? ⟨gb252, 1, none⟩ = some (.int .i64 0) := (blk_cell BK252.out 1).trans rfl; have hcz31_2 : w29.cell? ⟨gb252, 2, none⟩ = some (.int .i64 0) := (blk_cell BK252.out 2).trans rfl; have hfz31_0 := blk_frozen BK252.out 0; have hfz31_1 := blk_frozen BK252.out 1; have hfz31_2 := blk_frozen BK252.out 2))
                                            go_ret
                                            exact ⟨by first | rfl | (simp <;> rfl) | (simp [*] <;> rfl), by repeat (first | exact HB.out | apply below_alloc | apply pw_below_drewN | apply below_drew1 | refine below_set ?_ GE248.out | refine below_set ?_ GE252.out)⟩
                                          · rw [if_neg c28] at H
                                            have c28b0 : decide (((rd_T63 (rd_L5 (rd_L6 l0_2 x44_2) x53_3) x62_4).f0) < 1) = false := decide_eq_false c28
                                            clear c28
                                            by_cases c32 : ((rd_T63 (rd_L5 (rd_L6 l0_2 x44_2) x53_3) x62_4).f0) > 3
                                            · rw [if_pos c32] at H
                                              have c32b0 : decide (3 < ((rd_T63 (rd_L5 (rd_L6 l0_2 x44_2) x53_3) x62_4).f0)) = true := decide_eq_true c32
                                              clear c32
                                              obtain rfl := Option.some.inj H
                                              have p251 : 0 ≤ (x62_4 : Int) := of_decide_eq_true (by assumption)
                                              have q251 : x62_4 < ((rd_L5 (rd_L6 l0_2 x44_2) x53_3).length : Int) := of_decide_eq_true (by assumption)
                                              obtain ⟨ad251, e251, hx251_0, hx251_1, hx251_2⟩ := at_T63 HR250_0.out x62_4 p251 q251
                                              cases e251
                                              replace hx251_0 := (HB.out.cell (World.block_lt_of_cell? w _ hx251_0)).trans hx251_0
                                              replace hx251_1 := (HB.out.cell (World.block_lt_of_cell? w _ hx251_1)).trans hx251_1
                                              replace hx251_2 := (HB.out.cell (World.block_lt_of_cell? w _ hx251_2)).trans hx251_2
                                              replace p251 := eq_true p251
                                              replace q251 := eq_true q251
                                              go_wp2_with (first | ((with_reducible refine gate_dst (N := 8) rfl ?_); (try (refine gate_guard (by rfl) ?_; dsimp only)); refine box_event ?hg (N := 8) ?hd (cs := #[.int .i64 0, .int .i64 0, .int .i64 0]) (t := 63) ?hr ?_; (case hd => rfl); (case hg => rfl); (case hr => first | (go_simp; done) | (go_simp; rfl)); intro gb252 hg w33 hbox hb; have n0_ := Aside0.mk (blk_below (g := gb248) (o := .cells #[.slice A0_0 l0_0.length c0_0, .int .i64 a0_1, .slice (some ad249) l0_2.length c0_2] 30 (0, 0)) (by (with_reducible repeat (first | refine blk_drewN ?_ _ | refine blk_drew ?_ | refine blk_alloc ?_ _)); exact BK248.out) hb); have n1_ := Aside0.mk (below_step (by repeat (first | exact HB.out | apply below_alloc | apply pw_below_drewN | apply below_drew1 | refine below_set ?_ GE248.out)) hb); have n2_ := Aside0.mk (hbox); have n3_ := Aside0.mk ((by rw [hg]; exact (below_size (by repeat (first | exact HB.out | apply below_alloc | apply pw_below_drewN | apply below_drew1 | refine below_set ?_ GE248.out))) : w.heap.size ≤ gb252)); have n4_ := Aside0.mk ((by rw [hg]; exact (below_size (by repeat (first | exact HB.out | apply below_alloc | apply pw_below_drewN | apply below_drew1 | refine below_set ?_ GE248.out))) : w.heap.size ≤ gb252)); have n5_ := Aside0.mk ((by rw [hg]; exact Nat.ne_of_lt (blk_lt (g := gb248) (o := .cells #[.slice A0_0 l0_0.length c0_0, .int .i64 a0_1, .slice (some ad249) l0_2.length c0_2] 30 (0, 0)) (by (with_reducible repeat (first | refine blk_drewN ?_ _ | refine blk_drew ?_ | refine blk_alloc ?_ _)); exact BK248.out)) : gb248 ≠ gb252)); have n6_ := Aside0.mk ((by rw [hg]; exact Nat.ne_of_gt (blk_lt (g := gb248) (o := .cells #[.slice A0_0 l0_0.length c0_0, .int .i64 a0_1, .slice (some ad249) l0_2.length c0_2] 30 (0, 0)) (by (with_reducible repeat (first | refine blk_drewN ?_ _ | refine blk_drew ?_ | refine blk_alloc ?_ _)); exact BK248.out)) : gb252 ≠ gb248)); clear BK248; clear HB; have BK248 := n0_; have HB := n1_; have BK252 := n2_; have GW252 := n3_; have GE252 := n4_; have NB248_252 := n5_; have NB252_248 := n6_; clear n0_ n1_ n2_ n3_ n4_ n5_ n6_; clear hb hbox hg; have hnb34 := NB252_248.out; have hnc34 := NB248_252.out; have hcz35_0 : w33.cell? ⟨gb252, 0, none⟩ = some (.int .i64 0) := (blk_cell BK252.out 0).trans rfl; have hcz35_1 : w33.cell? ⟨gb252, 1, none⟩ = some (.int .i64 0) := (blk_cell BK252.out 1).trans rfl; have hcz35_2 : w33.cell? ⟨gb252, 2, none⟩ = some (.int .i64 0) := (blk_cell BK252.out 2).trans rfl; have hfz35_0 := blk_frozen BK252.out 0; have hfz35_1 := blk_frozen BK252.out 1; have hfz35_2 := blk_frozen BK252.out 2))
                                              go_ret
                                              exact ⟨by first | rfl | (simp <;> rfl) | (simp [*] <;> rfl), by repeat (first | exact HB.out | apply below_alloc | apply pw_below_drewN | apply below_drew1 | refine below_set ?_ GE248.out | refine below_set ?_ GE252.out)⟩
                                            · rw [if_neg c32] at H
                                              have c32b0 : decide (3 < ((rd_T63 (rd_L5 (rd_L6 l0_2 x44_2) x53_3) x62_4).f0)) = false := decide_eq_false c32
                                              clear c32
                                              by_cases c36 : ((rd_T63 (rd_L5 (rd_L6 l0_2 x44_2) x53_3) x62_4).f0) = 1
                                              · rw [if_pos c36] at H
                                                have c36b0 : (((rd_T63 (rd_L5 (rd_L6 l0_2 x44_2) x53_3) x62_4).f0) == 1) = true := beq_iff_eq.mpr c36
                                                have c36b1 : (((rd_T63 (rd_L5 (rd_L6 l0_2 x44_2) x53_3) x62_4).f0) != 1) = false := bne_eq_false_iff_eq.mpr c36
                                                clear c36
                                                by_cases c37 : ((rd_T63 (rd_L5 (rd_L6 l0_2 x44_2) x53_3) x62_4).f2) = 0
                                                · rw [if_pos c37] at H
                                                  have c37b0 : (((rd_T63 (rd_L5 (rd_L6 l0_2 x44_2) x53_3) x62_4).f2) == 0) = true := beq_iff_eq.mpr c37
                                                  have c37b1 : (((rd_T63 (rd_L5 (rd_L6 l0_2 x44_2) x53_3) x62_4).f2) != 0) = false := bne_eq_false_iff_eq.mpr c37
                                                  clear c37
                                                  by_cases c38 : ((rd_T63 (rd_L5 (rd_L6 l0_2 x44_2) x53_3) x62_4).f1) < 0
                                                  · rw [if_pos c38] at H
                                                    have c38b0 : decide (((rd_T63 (rd_L5 (rd_L6 l0_2 x44_2) x53_3) x62_4).f1) < 0) = true := decide_eq_true c38
                                                    clear c38
                                                    obtain rfl := Option.some.inj H
                                                    have p251 : 0 ≤ (x62_4 : Int) := of_decide_eq_true (by assumption)
                                                    have q251 : x62_4 < ((rd_L5 (rd_L6 l0_2 x44_2) x53_3).length : Int) := of_decide_eq_true (by assumption)
                                                    obtain ⟨ad251, e251, hx251_0, hx251_1, hx251_2⟩ := at_T63 HR250_0.out x62_4 p251 q251
                                                    cases e251
                                                    replace hx251_0 := (HB.out.cell (World.block_lt_of_cell? w _ hx251_0)).trans hx251_0
                                                    replace hx251_1 := (HB.out.cell (World.block_lt_of_cell? w _ hx251_1)).trans hx251_1
                                                    replace hx251_2 := (HB.out.cell (World.block_lt_of_cell? w _ hx251_2)).trans hx251_2
                                                    replace p251 := eq_true p251
                                                    replace q251 := eq_true q251
                                                    go_wp2_with (first | ((with_reducible refine gate_dst (N := 8) rfl ?_); (try (refine gate_guard (by rfl) ?_; dsimp only)); refine box_event ?hg (N := 8) ?hd (cs := #[.int .i64 0, .int .i64 0, .int .i64 0]) (t := 63) ?hr ?_; (case hd => rfl); (case hg => rfl); (case hr => first | (go_simp; done) | (go_simp; rfl)); intro gb252 hg w39 hbox hb; have n0_ := Aside0.mk (blk_below (g := gb248) (o := .cells #[.slice A0_0 l0_0.length c0_0, .int .i64 a0_1, .slice (some ad249) l0_2.length c0_2] 30 (0, 0)) (by (with_reducible repeat (first | refine blk_drewN ?_ _ | refine blk_drew ?_ | refine blk_alloc ?_ _)); exact BK248.out) hb); have n1_ := Aside0.mk (below_step (by repeat (first | exact HB.out | apply below_alloc | apply pw_below_drewN | apply below_drew1 | refine below_set ?_ GE248.out)) hb); have n2_ := Aside0.mk (hbox); have n3_ := Aside0.mk ((by rw [hg]; exact (below_size (by repeat (first | exact HB.out | apply below_alloc | apply pw_below_drewN | apply below_drew1 | refine below_set ?_ GE248.out))) : w.heap.size ≤ gb252)); have n4_ := Aside0.mk ((by rw [hg]; exact (below_size (by repeat (first | exact HB.out | apply below_alloc | apply pw_below_drewN | apply below_drew1 | refine below_set ?_ GE248.out))) : w.heap.size ≤ gb252)); have n5_ := Aside0.mk ((by rw [hg]; exact Nat.ne_of_lt (blk_lt (g := gb248) (o := .cells #[.slice A0_0 l0_0.length c0_0, .int .i64 a0_1, .slice (some ad249) l0_2.length c0_2] 30 (0, 0)) (by (with_reducible repeat (first | refine blk_drewN ?_ _ | refine blk_drew ?_ | refine blk_alloc ?_ _)); exact BK248.out)) : gb248 ≠ gb252)); have n6_ := Aside0.mk ((by rw [hg]; exact Nat.ne_of_gt (blk_lt (g := gb248) (o := .cells #[.slice A0_0 l0_0.length c0_0, .int .i64 a0_1, .slice (some ad249) l0_2.length c0_2] 30 (0, 0)) (by (with_reducible repeat (first | refine blk_drewN ?_ _ | refine blk_drew ?_ | refine blk_alloc ?_ _)); exact BK248.out)) : gb252 ≠ gb248)); clear BK248; clear HB; have BK248 := n0_; have HB := n1_; have BK252 := n2_; have GW252 := n3_; have GE252 := n4_; have NB248_252 := n5_; have NB252_248 := n6_; clear n0_ n1_ n2_ n3_ n4_ n5_ n6_; clear hb hbox hg; have hnb40 := NB252_248.out; have hnc40 := NB248_252.out; have hcz41_0 : w39.cell? ⟨gb252, 0, none⟩ = some (.int .i64 0) := (blk_cell BK252.out 0).trans rfl; have hcz41_1 : w39.cell? ⟨gb252, 1, none⟩ = some (.int .i64 0) := (blk_cell BK252.out 1).trans rfl; have hcz41_2 : w39.cell? ⟨gb252, 2, none⟩ = some (.int .i64 0) := (blk_cell BK252.out 2).trans rfl; have hfz41_0 := blk_frozen BK252.out 0; have hfz41_1 := blk_frozen BK252.out 1; have hfz41_2 := blk_frozen BK252.out 2))
                                                    go_ret
                                                    exact ⟨by first | rfl | (simp <;> rfl) | (simp [*] <;> rfl), by repeat (first | exact HB.out | apply below_alloc | apply pw_below_drewN | apply below_drew1 | refine below_set ?_ GE248.out | refine below_set ?_ GE252.out)⟩
                                                  · rw [if_neg c38] at H
                                                    have c38b0 : decide (((rd_T63 (rd_L5 (rd_L6 l0_2 x44_2) x53_3) x62_4).f1) < 0) = false := decide_eq_false c38
                                                    clear c38
                                                    by_cases c42 : ((rd_T63 (rd_L5 (rd_L6 l0_2 x44_2) x53_3) x62_4).f1) ≥ (l0_0.length : Int)
                                                    · rw [if_pos c42] at H
                                                      have c42b0 : decide ((l0_0.length : Int) ≤ ((rd_T63 (rd_L5 (rd_L6 l0_2 x44_2) x53_3) x62_4).f1)) = true := decide_eq_true c42
                                                      clear c42
                                                      obtain rfl := Option.some.inj H
                                                      have p251 : 0 ≤ (x62_4 : Int) := of_decide_eq_true (by assumption)
                                                      have q251 : x62_4 < ((rd_L5 (rd_L6 l0_2 x44_2) x53_3).length : Int) := of_decide_eq_true (by assumption)
                                                      obtain ⟨ad251, e251, hx251_0, hx251_1, hx251_2⟩ := at_T63 HR250_0.out x62_4 p251 q251
                                                      cases e251
                                                      replace hx251_0 := (HB.out.cell (World.block_lt_of_cell? w _ hx251_0)).trans hx251_0
                                                      replace hx251_1 := (HB.out.cell (World.block_lt_of_cell? w _ hx251_1)).trans hx251_1
                                                      replace hx251_2 := (HB.out.cell (World.block_lt_of_cell? w _ hx251_2)).trans hx251_2
                                                      replace p251 := eq_true p251
                                                      replace q251 := eq_true q251
                                                      go_wp2_with (first | ((with_reducible refine gate_dst (N := 8) rfl ?_); (try (refine gate_guard (by rfl) ?_; dsimp only)); refine box_event ?hg (N := 8) ?hd (cs := #[.int .i64 0, .int .i64 0, .int .i64 0]) (t := 63) ?hr ?_; (case hd => rfl); (case hg => rfl); (case hr => first | (go_simp; done) | (go_simp; rfl)); intro gb252 hg w43 hbox hb; have n0_ := Aside0.mk (blk_below (g := gb248) (o := .cells #[.slice A0_0 l0_0.length c0_0, .int .i64 a0_1, .slice (some ad249) l0_2.length c0_2] 30 (0, 0)) (by (with_reducible repeat (first | refine blk_drewN ?_ _ | refine blk_drew ?_ | refine blk_alloc ?_ _)); exact BK248.out) hb); have n1_ := Aside0.mk (below_step (by repeat (first | exact HB.out | apply below_alloc | apply pw_below_drewN | apply below_drew1 | refine below_set ?_ GE248.out)) hb); have n2_ := Aside0.mk (hbox); have n3_ := Aside0.mk ((by rw [hg]; exact (below_size (by repeat (first | exact HB.out | apply below_alloc | apply pw_below_drewN | apply below_drew1 | refine below_set ?_ GE248.out))) : w.heap.size ≤ gb252)); have n4_ := Aside0.mk ((by rw [hg]; exact (below_size (by repeat (first | exact HB.out | apply below_alloc | apply pw_below_drewN | apply below_drew1 | refine below_set ?_ GE248.out))) : w.heap.size ≤ gb252)); have n5_ := Aside0.mk ((by rw [hg]; exact Nat.ne_of_lt (blk_lt (g := gb248) (o := .cells #[.slice A0_0 l0_0.length c0_0, .int .i64 a0_1, .slice (some ad249) l0_2.length c0_2] 30 (0, 0)) (by (with_reducible repeat (first | refine blk_drewN ?_ _ | refine blk_drew ?_ | refine blk_alloc ?_ _)); exact BK248.out)) : gb248 ≠ gb252)); have n6_ := Aside0.mk ((by rw [hg]; exact Nat.ne_of_gt (blk_lt (g := gb248) (o := .cells #[.slice A0_0 l0_0.length c0_0, .int .i64 a0_1, .slice (some ad249) l0_2.length c0_2] 30 (0, 0)) (by (with_reducible repeat (first | refine blk_drewN ?_ _ | refine blk_drew ?_ | refine blk_alloc ?_ _)); exact BK248.out)) : gb252 ≠ gb248)); clear BK248; clear HB; have BK248 := n0_; have HB := n1_; have BK252 := n2_; have GW252 := n3_; have GE252 := n4_; have NB248_252 := n5_; have NB252_248 := n6_; clear n0_ n1_ n2_ n3_ n4_ n5_ n6_; clear hb hbox hg; have hnb44 := NB252_248.out; have hnc44 := NB248_252.out; have hcz45_0 : w43.cell? ⟨gb252, 0, none⟩ = some (.int .i64 0) := (blk_cell BK252.out 0).trans rfl; have hcz45_1 : w43.cell? ⟨gb252, 1, none⟩ = some (.int .i64 0) := (blk_cell BK252.out 1).trans rfl; have hcz45_2 : w43.cell? ⟨gb252, 2, none⟩ = some (.int .i64 0) := (blk_cell BK252.out 2).trans rfl; have hfz45_0 := blk_frozen BK252.out 0; have hfz45_1 := blk_frozen BK252.out 1; have hfz45_2 := blk_frozen BK252.out 2; have hcz46_0 : w43.cell? ⟨gb248, 0, none⟩ = some (.slice A0_0 l0_0.length c0_0) := (blk_cell BK248.out 0).trans rfl; have hcz46_1 : w43.cell? ⟨gb248, 1, none⟩ = some (.int .i64 a0_1) := (blk_cell BK248.out 1).trans rfl; have hcz46_2 : w43.cell? ⟨gb248, 2, none⟩ = some (.slice (some ad249) l0_2.length c0_2) := (blk_cell BK248.out 2).trans rfl; have hfz46_0 := blk_frozen BK248.out 0; have hfz46_1 := blk_frozen BK248.out 1; have hfz46_2 := blk_frozen BK248.out 2))
                                                      go_ret
                                                      exact ⟨by first | rfl | (simp <;> rfl) | (simp [*] <;> rfl), by repeat (first | exact HB.out | apply below_alloc | apply pw_below_drewN | apply below_drew1 | refine below_set ?_ GE248.out | refine below_set ?_ GE252.out)⟩
                                                    · rw [if_neg c42] at H
                                                      have c42b0 : decide ((l0_0.length : Int) ≤ ((rd_T63 (rd_L5 (rd_L6 l0_2 x44_2) x53_3) x62_4).f1)) = false := decide_eq_false c42
                                                      clear c42
                                                      have H' := Aside0.mk H
                                                      clear H
                                                      have p251 : 0 ≤ (x62_4 : Int) := of_decide_eq_true (by assumption)
                                                      have q251 : x62_4 < ((rd_L5 (rd_L6 l0_2 x44_2) x53_3).length : Int) := of_decide_eq_true (by assumption)
                                                      obtain ⟨ad251, e251, hx251_0, hx251_1, hx251_2⟩ := at_T63 HR250_0.out x62_4 p251 q251
                                                      cases e251
                                                      replace hx251_0 := (HB.out.cell (World.block_lt_of_cell? w _ hx251_0)).trans hx251_0
                                                      replace hx251_1 := (HB.out.cell (World.block_lt_of_cell? w _ hx251_1)).trans hx251_1
                                                      replace hx251_2 := (HB.out.cell (World.block_lt_of_cell? w _ hx251_2)).trans hx251_2
                                                      replace p251 := eq_true p251
                                                      replace q251 := eq_true q251
                                                      go_wp2_with (first | ((with_reducible refine gate_dst (N := 8) rfl ?_); (try (refine gate_guard (by rfl) ?_; dsimp only)); refine box_event ?hg (N := 8) ?hd (cs := #[.int .i64 0, .int .i64 0, .int .i64 0]) (t := 63) ?hr ?_; (case hd => rfl); (case hg => rfl); (case hr => first | (go_simp; done) | (go_simp; rfl)); intro gb252 hg w47 hbox hb; have n0_ := Aside0.mk (blk_below (g := gb248) (o := .cells #[.slice A0_0 l0_0.length c0_0, .int .i64 a0_1, .slice (some ad249) l0_2.length c0_2] 30 (0, 0)) (by (with_reducible repeat (first | refine blk_drewN ?_ _ | refine blk_drew ?_ | refine blk_alloc ?_ _)); exact BK248.out) hb); have n1_ := Aside0.mk (below_step (by repeat (first | exact HB.out | apply below_alloc | apply pw_below_drewN | apply below_drew1 | refine below_set ?_ GE248.out)) hb); have n2_ := Aside0.mk (hbox); have n3_ := Aside0.mk ((by rw [hg]; exact (below_size (by repeat (first | exact HB.out | apply below_alloc | apply pw_below_drewN | apply below_drew1 | refine below_set ?_ GE248.out))) : w.heap.size ≤ gb252)); have n4_ := Aside0.mk ((by rw [hg]; exact (below_size (by repeat (first | exact HB.out | apply below_alloc | apply pw_below_drewN | apply below_drew1 | refine below_set ?_ GE248.out))) : w.heap.size ≤ gb252)); have n5_ := Aside0.mk ((by rw [hg]; exact Nat.ne_of_lt (blk_lt (g := gb248) (o := .cells #[.slice A0_0 l0_0.length c0_0, .int .i64 a0_1, .slice (some ad249) l0_2.length c0_2] 30 (0, 0)) (by (with_reducible repeat (first | refine blk_drewN ?_ _ | refine blk_drew ?_ | refine blk_alloc ?_ _)); exact BK248.out)) : gb248 ≠ gb252)); have n6_ := Aside0.mk ((by rw [hg]; exact Nat.ne_of_gt (blk_lt (g := gb248) (o := .cells #[.slice A0_0 l0_0.length c0_0, .int .i64 a0_1, .slice (some ad249) l0_2.length c0_2] 30 (0, 0)) (by (with_reducible repeat (first | refine blk_drewN ?_ _ | refine blk_drew ?_ | refine blk_alloc ?_ _)); exact BK248.out)) : gb252 ≠ gb248)); clear BK248; clear HB; have BK248 := n0_; have HB := n1_; have BK252 := n2_; have GW252 := n3_; have GE252 := n4_; have NB248_252 := n5_; have NB252_248 := n6_; clear n0_ n1_ n2_ n3_ n4_ n5_ n6_; clear hb hbox hg; have hnb48 := NB252_248.out; have hnc48 := NB248_252.out; have hcz49_0 : w47.cell? ⟨gb252, 0, none⟩ = some (.int .i64 0) := (blk_cell BK252.out 0).trans rfl; have hcz49_1 : w47.cell? ⟨gb252, 1, none⟩ = some (.int .i64 0) := (blk_cell BK252.out 1).trans rfl; have hcz49_2 : w47.cell? ⟨gb252, 2, none⟩ = some (.int .i64 0) := (blk_cell BK252.out 2).trans rfl; have hfz49_0 := blk_frozen BK252.out 0; have hfz49_1 := blk_frozen BK252.out 1; have hfz49_2 := blk_frozen BK252.out 2; have hcz50_0 : w47.cell? ⟨gb248, 0, none⟩ = some (.slice A0_0 l0_0.length c0_0) := (blk_cell BK248.out 0).trans rfl; have hcz50_1 : w47.cell? ⟨gb248, 1, none⟩ = some (.int .i64 a0_1) := (blk_cell BK248.out 1).trans rfl; have hcz50_2 : w47.cell? ⟨gb248, 2, none⟩ = some (.slice (some ad249) l0_2.length c0_2) := (blk_cell BK248.out 2).trans rfl; have hfz50_0 := blk_frozen BK248.out 0; have hfz50_1 := blk_frozen BK248.out 1; have hfz50_2 := blk_frozen BK248.out 2))
                                                      go_roundg k4
                                                      case measure => have := HJ1.out; have := HK2.out; have := HK3.out; have := HK4.out; omega
                                                      case rel => exact ⟨(wrap64 (x62_4 + 1)), (by first | rfl | (simp; done) | (simp [*]; done)), H', ⟨by have := HJ1.out; have := HK2.out; have := HK3.out; have := HK4.out; omega⟩, ⟨by (with_reducible repeat (first | refine blk_drewN ?_ _ | refine blk_drew ?_ | refine blk_alloc ?_ _)); refine blk_far ?_ NB248_252.out _; (with_reducible repeat (first | refine blk_drewN ?_ _ | refine blk_drew ?_ | refine blk_alloc ?_ _)); refine blk_far ?_ NB248_252.out _; (with_reducible repeat (first | refine blk_drewN ?_ _ | refine blk_drew ?_ | refine blk_alloc ?_ _)); refine blk_far ?_ NB248_252.out _; (with_reducible repeat (first | refine blk_drewN ?_ _ | refine blk_drew ?_ | refine blk_alloc ?_ _)); exact BK248.out⟩, ⟨by repeat (first | exact HB.out | apply below_alloc | apply pw_below_drewN | apply below_drew1 | refine below_set ?_ GE248.out | refine below_set ?_ GE252.out)⟩⟩
                                                · rw [if_neg c37] at H
                                                  have c37b0 : (((rd_T63 (rd_L5 (rd_L6 l0_2 x44_2) x53_3) x62_4).f2) == 0) = false := beq_eq_false_iff_ne.mpr c37
                                                  have c37b1 : (((rd_T63 (rd_L5 (rd_L6 l0_2 x44_2) x53_3) x62_4).f2) != 0) = true := bne_iff_ne.mpr c37
                                                  obtain rfl := Option.some.inj H
                                                  have p251 : 0 ≤ (x62_4 : Int) := of_decide_eq_true (by assumption)
                                                  have q251 : x62_4 < ((rd_L5 (rd_L6 l0_2 x44_2) x53_3).length : Int) := of_decide_eq_true (by assumption)
                                                  obtain ⟨ad251, e251, hx251_0, hx251_1, hx251_2⟩ := at_T63 HR250_0.out x62_4 p251 q251
                                                  cases e251
                                                  replace hx251_0 := (HB.out.cell (World.block_lt_of_cell? w _ hx251_0)).trans hx251_0
                                                  replace hx251_1 := (HB.out.cell (World.block_lt_of_cell? w _ hx251_1)).trans hx251_1
                                                  replace hx251_2 := (HB.out.cell (World.block_lt_of_cell? w _ hx251_2)).trans hx251_2
                                                  replace p251 := eq_true p251
                                                  replace q251 := eq_true q251
                                                  go_wp2_with (first | ((with_reducible refine gate_dst (N := 8) rfl ?_); (try (refine gate_guard (by rfl) ?_; dsimp only)); refine box_event ?hg (N := 8) ?hd (cs := #[.int .i64 0, .int .i64 0, .int .i64 0]) (t := 63) ?hr ?_; (case hd => rfl); (case hg => rfl); (case hr => first | (go_simp; done) | (go_simp; rfl)); intro gb252 hg w51 hbox hb; have n0_ := Aside0.mk (blk_below (g := gb248) (o := .cells #[.slice A0_0 l0_0.length c0_0, .int .i64 a0_1, .slice (some ad249) l0_2.length c0_2] 30 (0, 0)) (by (with_reducible repeat (first | refine blk_drewN ?_ _ | refine blk_drew ?_ | refine blk_alloc ?_ _)); exact BK248.out) hb); have n1_ := Aside0.mk (below_step (by repeat (first | exact HB.out | apply below_alloc | apply pw_below_drewN | apply below_drew1 | refine below_set ?_ GE248.out)) hb); have n2_ := Aside0.mk (hbox); have n3_ := Aside0.mk ((by rw [hg]; exact (below_size (by repeat (first | exact HB.out | apply below_alloc | apply pw_below_drewN | apply below_drew1 | refine below_set ?_ GE248.out))) : w.heap.size ≤ gb252)); have n4_ := Aside0.mk ((by rw [hg]; exact (below_size (by repeat (first | exact HB.out | apply below_alloc | apply pw_below_drewN | apply below_drew1 | refine below_set ?_ GE248.out))) : w.heap.size ≤ gb252)); have n5_ := Aside0.mk ((by rw [hg]; exact Nat.ne_of_lt (blk_lt (g := gb248) (o := .cells #[.slice A0_0 l0_0.length c0_0, .int .i64 a0_1, .slice (some ad249) l0_2.length c0_2] 30 (0, 0)) (by (with_reducible repeat (first | refine blk_drewN ?_ _ | refine blk_drew ?_ | refine blk_alloc ?_ _)); exact BK248.out)) : gb248 ≠ gb252)); have n6_ := Aside0.mk ((by rw [hg]; exact Nat.ne_of_gt (blk_lt (g := gb248) (o := .cells #[.slice A0_0 l0_0.length c0_0, .int .i64 a0_1, .slice (some ad249) l0_2.length c0_2] 30 (0, 0)) (by (with_reducible repeat (first | refine blk_drewN ?_ _ | refine blk_drew ?_ | refine blk_alloc ?_ _)); exact BK248.out)) : gb252 ≠ gb248)); clear BK248; clear HB; have BK248 := n0_; have HB := n1_; have BK252 := n2_; have GW252 := n3_; have GE252 := n4_; have NB248_252 := n5_; have NB252_248 := n6_; clear n0_ n1_ n2_ n3_ n4_ n5_ n6_; clear hb hbox hg; have hnb52 := NB252_248.out; have hnc52 := NB248_252.out; have hcz53_0 : w51.cell? ⟨gb252, 0, none⟩ = some (.int .i64 0) := (blk_cell BK252.out 0).trans rfl; have hcz53_1 : w51.cell? ⟨gb252, 1, none⟩ = some (.int .i64 0) := (blk_cell BK252.out 1).trans rfl; have hcz53_2 : w51.cell? ⟨gb252, 2, none⟩ = some (.int .i64 0) := (blk_cell BK252.out 2).trans rfl; have hfz53_0 := blk_frozen BK252.out 0; have hfz53_1 := blk_frozen BK252.out 1; have hfz53_2 := blk_frozen BK252.out 2))
                                                  go_ret
                                                  exact ⟨by first | rfl | (simp <;> rfl) | (simp [*] <;> rfl), by repeat (first | exact HB.out | apply below_alloc | apply pw_below_drewN | apply below_drew1 | refine below_set ?_ GE248.out | refine below_set ?_ GE252.out)⟩
                                              · rw [if_neg c36] at H
                                                have c36b0 : (((rd_T63 (rd_L5 (rd_L6 l0_2 x44_2) x53_3) x62_4).f0) == 1) = false := beq_eq_false_iff_ne.mpr c36
                                                have c36b1 : (((rd_T63 (rd_L5 (rd_L6 l0_2 x44_2) x53_3) x62_4).f0) != 1) = true := bne_iff_ne.mpr c36
                                                by_cases c54 : ((rd_T63 (rd_L5 (rd_L6 l0_2 x44_2) x53_3) x62_4).f1) < 0
                                                · rw [if_pos c54] at H
                                                  have c54b0 : decide (((rd_T63 (rd_L5 (rd_L6 l0_2 x44_2) x53_3) x62_4).f1) < 0) = true := decide_eq_true c54
                                                  clear c54
                                                  obtain rfl := Option.some.inj H
                                                  have p251 : 0 ≤ (x62_4 : Int) := of_decide_eq_true (by assumption)
                                                  have q251 : x62_4 < ((rd_L5 (rd_L6 l0_2 x44_2) x53_3).length : Int) := of_decide_eq_true (by assumption)
                                                  obtain ⟨ad251, e251, hx251_0, hx251_1, hx251_2⟩ := at_T63 HR250_0.out x62_4 p251 q251
                                                  cases e251
                                                  replace hx251_0 := (HB.out.cell (World.block_lt_of_cell? w _ hx251_0)).trans hx251_0
                                                  replace hx251_1 := (HB.out.cell (World.block_lt_of_cell? w _ hx251_1)).trans hx251_1
                                                  replace hx251_2 := (HB.out.cell (World.block_lt_of_cell? w _ hx251_2)).trans hx251_2
                                                  replace p251 := eq_true p251
                                                  replace q251 := eq_true q251
                                                  go_wp2_with (first | ((with_reducible refine gate_dst (N := 8) rfl ?_); (try (refine gate_guard (by rfl) ?_; dsimp only)); refine box_event ?hg (N := 8) ?hd (cs := #[.int .i64 0, .int .i64 0, .int .i64 0]) (t := 63) ?hr ?_; (case hd => rfl); (case hg => rfl); (case hr => first | (go_simp; done) | (go_simp; rfl)); intro gb252 hg w55 hbox hb; have n0_ := Aside0.mk (blk_below (g := gb248) (o := .cells #[.slice A0_0 l0_0.length c0_0, .int .i64 a0_1, .slice (some ad249) l0_2.length c0_2] 30 (0, 0)) (by (with_reducible repeat (first | refine blk_drewN ?_ _ | refine blk_drew ?_ | refine blk_alloc ?_ _)); exact BK248.out) hb); have n1_ := Aside0.mk (below_step (by repeat (first | exact HB.out | apply below_alloc | apply pw_below_drewN | apply below_drew1 | refine below_set ?_ GE248.out)) hb); have n2_ := Aside0.mk (hbox); have n3_ := Aside0.mk ((by rw [hg]; exact (below_size (by repeat (first | exact HB.out | apply below_alloc | apply pw_below_drewN | apply below_drew1 | refine below_set ?_ GE248.out))) : w.heap.size ≤ gb252)); have n4_ := Aside0.mk ((by rw [hg]; exact (below_size (by repeat (first | exact HB.out | apply below_alloc | apply pw_below_drewN | apply below_drew1 | refine below_set ?_ GE248.out))) : w.heap.size ≤ gb252)); have n5_ := Aside0.mk ((by rw [hg]; exact Nat.ne_of_lt (blk_lt (g := gb248) (o := .cells #[.slice A0_0 l0_0.length c0_0, .int .i64 a0_1, .slice (some ad249) l0_2.length c0_2] 30 (0, 0)) (by (with_reducible repeat (first | refine blk_drewN ?_ _ | refine blk_drew ?_ | refine blk_alloc ?_ _)); exact BK248.out)) : gb248 ≠ gb252)); have n6_ := Aside0.mk ((by rw [hg]; exact Nat.ne_of_gt (blk_lt (g := gb248) (o := .cells #[.slice A0_0 l0_0.length c0_0, .int .i64 a0_1, .slice (some ad249) l0_2.length c0_2] 30 (0, 0)) (by (with_reducible repeat (first | refine blk_drewN ?_ _ | refine blk_drew ?_ | refine blk_alloc ?_ _)); exact BK248.out)) : gb252 ≠ gb248)); clear BK248; clear HB; have BK248 := n0_; have HB := n1_; have BK252 := n2_; have GW252 := n3_; have GE252 := n4_; have NB248_252 := n5_; have NB252_248 := n6_; clear n0_ n1_ n2_ n3_ n4_ n5_ n6_; clear hb hbox hg; have hnb56 := NB252_248.out; have hnc56 := NB248_252.out; have hcz57_0 : w55.cell? ⟨gb252, 0, none⟩ = some (.int .i64 0) := (blk_cell BK252.out 0).trans rfl; have hcz57_1 : w55.cell? ⟨gb252, 1, none⟩ = some (.int .i64 0) := (blk_cell BK252.out 1).trans rfl; have hcz57_2 : w55.cell? ⟨gb252, 2, none⟩ = some (.int .i64 0) := (blk_cell BK252.out 2).trans rfl; have hfz57_0 := blk_frozen BK252.out 0; have hfz57_1 := blk_frozen BK252.out 1; have hfz57_2 := blk_frozen BK252.out 2))
                                                  go_ret
                                                  exact ⟨by first | rfl | (simp <;> rfl) | (simp [*] <;> rfl), by repeat (first | exact HB.out | apply below_alloc | apply pw_below_drewN | apply below_drew1 | refine below_set ?_ GE248.out | refine below_set ?_ GE252.out)⟩
                                                · rw [if_neg c54] at H
                                                  have c54b0 : decide (((rd_T63 (rd_L5 (rd_L6 l0_2 x44_2) x53_3) x62_4).f1) < 0) = false := decide_eq_false c54
                                                  clear c54
                                                  by_cases c58 : ((rd_T63 (rd_L5 (rd_L6 l0_2 x44_2) x53_3) x62_4).f1) ≥ (l0_0.length : Int)
                                                  · rw [if_pos c58] at H
                                                    have c58b0 : decide ((l0_0.length : Int) ≤ ((rd_T63 (rd_L5 (rd_L6 l0_2 x44_2) x53_3) x62_4).f1)) = true := decide_eq_true c58
                                                    clear c58
                                                    obtain rfl := Option.some.inj H
                                                    have p251 : 0 ≤ (x62_4 : Int) := of_decide_eq_true (by assumption)
                                                    have q251 : x62_4 < ((rd_L5 (rd_L6 l0_2 x44_2) x53_3).length : Int) := of_decide_eq_true (by assumption)
                                                    obtain ⟨ad251, e251, hx251_0, hx251_1, hx251_2⟩ := at_T63 HR250_0.out x62_4 p251 q251
                                                    cases e251
                                                    replace hx251_0 := (HB.out.cell (World.block_lt_of_cell? w _ hx251_0)).trans hx251_0
                                                    replace hx251_1 := (HB.out.cell (World.block_lt_of_cell? w _ hx251_1)).trans hx251_1
                                                    replace hx251_2 := (HB.out.cell (World.block_lt_of_cell? w _ hx251_2)).trans hx251_2
                                                    replace p251 := eq_true p251
                                                    replace q251 := eq_true q251
                                                    go_wp2_with (first | ((with_reducible refine gate_dst (N := 8) rfl ?_); (try (refine gate_guard (by rfl) ?_; dsimp only)); refine box_event ?hg (N := 8) ?hd (cs := #[.int .i64 0, .int .i64 0, .int .i64 0]) (t := 63) ?hr ?_; (case hd => rfl); (case hg => rfl); (case hr => first | (go_simp; done) | (go_simp; rfl)); intro gb252 hg w59 hbox hb; have n0_ := Aside0.mk (blk_below (g := gb248) (o := .cells #[.slice A0_0 l0_0.length c0_0, .int .i64 a0_1, .slice (some ad249) l0_2.length c0_2] 30 (0, 0)) (by (with_reducible repeat (first | refine blk_drewN ?_ _ | refine blk_drew ?_ | refine blk_alloc ?_ _)); exact BK248.out) hb); have n1_ := Aside0.mk (below_step (by repeat (first | exact HB.out | apply below_alloc | apply pw_below_drewN | apply below_drew1 | refine below_set ?_ GE248.out)) hb); have n2_ := Aside0.mk (hbox); have n3_ := Aside0.mk ((by rw [hg]; exact (below_size (by repeat (first | exact HB.out | apply below_alloc | apply pw_below_drewN | apply below_drew1 | refine below_set ?_ GE248.out))) : w.heap.size ≤ gb252)); have n4_ := Aside0.mk ((by rw [hg]; exact (below_size (by repeat (first | exact HB.out | apply below_alloc | apply pw_below_drewN | apply below_drew1 | refine below_set ?_ GE248.out))) : w.heap.size ≤ gb252)); have n5_ := Aside0.mk ((by rw [hg]; exact Nat.ne_of_lt (blk_lt (g := gb248) (o := .cells #[.slice A0_0 l0_0.length c0_0, .int .i64 a0_1, .slice (some ad249) l0_2.length c0_2] 30 (0, 0)) (by (with_reducible repeat (first | refine blk_drewN ?_ _ | refine blk_drew ?_ | refine blk_alloc ?_ _)); exact BK248.out)) : gb248 ≠ gb252)); have n6_ := Aside0.mk ((by rw [hg]; exact Nat.ne_of_gt (blk_lt (g := gb248) (o := .cells #[.slice A0_0 l0_0.length c0_0, .int .i64 a0_1, .slice (some ad249) l0_2.length c0_2] 30 (0, 0)) (by (with_reducible repeat (first | refine blk_drewN ?_ _ | refine blk_drew ?_ | refine blk_alloc ?_ _)); exact BK248.out)) : gb252 ≠ gb248)); clear BK248; clear HB; have BK248 := n0_; have HB := n1_; have BK252 := n2_; have GW252 := n3_; have GE252 := n4_; have NB248_252 := n5_; have NB252_248 := n6_; clear n0_ n1_ n2_ n3_ n4_ n5_ n6_; clear hb hbox hg; have hnb60 := NB252_248.out; have hnc60 := NB248_252.out; have hcz61_0 : w59.cell? ⟨gb252, 0, none⟩ = some (.int .i64 0) := (blk_cell BK252.out 0).trans rfl; have hcz61_1 : w59.cell? ⟨gb252, 1, none⟩ = some (.int .i64 0) := (blk_cell BK252.out 1).trans rfl; have hcz61_2 : w59.cell? ⟨gb252, 2, none⟩ = some (.int .i64 0) := (blk_cell BK252.out 2).trans rfl; have hfz61_0 := blk_frozen BK252.out 0; have hfz61_1 := blk_frozen BK252.out 1; have hfz61_2 := blk_frozen BK252.out 2; have hcz62_0 : w59.cell? ⟨gb248, 0, none⟩ = some (.slice A0_0 l0_0.length c0_0) := (blk_cell BK248.out 0).trans rfl; have hcz62_1 : w59.cell? ⟨gb248, 1, none⟩ = some (.int .i64 a0_1) := (blk_cell BK248.out 1).trans rfl; have hcz62_2 : w59.cell? ⟨gb248, 2, none⟩ = some (.slice (some ad249) l0_2.length c0_2) := (blk_cell BK248.out 2).trans rfl; have hfz62_0 := blk_frozen BK248.out 0; have hfz62_1 := blk_frozen BK248.out 1; have hfz62_2 := blk_frozen BK248.out 2))
                                                    go_ret
                                                    exact ⟨by first | rfl | (simp <;> rfl) | (simp [*] <;> rfl), by repeat (first | exact HB.out | apply below_alloc | apply pw_below_drewN | apply below_drew1 | refine below_set ?_ GE248.out | refine below_set ?_ GE252.out)⟩
                                                  · rw [if_neg c58] at H
                                                    have c58b0 : decide ((l0_0.length : Int) ≤ ((rd_T63 (rd_L5 (rd_L6 l0_2 x44_2) x53_3) x62_4).f1)) = false := decide_eq_false c58
                                                    clear c58
                                                    have H' := Aside0.mk H
                                                    clear H
                                                    have p251 : 0 ≤ (x62_4 : Int) := of_decide_eq_true (by assumption)
                                                    have q251 : x62_4 < ((rd_L5 (rd_L6 l0_2 x44_2) x53_3).length : Int) := of_decide_eq_true (by assumption)
                                                    obtain ⟨ad251, e251, hx251_0, hx251_1, hx251_2⟩ := at_T63 HR250_0.out x62_4 p251 q251
                                                    cases e251
                                                    replace hx251_0 := (HB.out.cell (World.block_lt_of_cell? w _ hx251_0)).trans hx251_0
                                                    replace hx251_1 := (HB.out.cell (World.block_lt_of_cell? w _ hx251_1)).trans hx251_1
                                                    replace hx251_2 := (HB.out.cell (World.block_lt_of_cell? w _ hx251_2)).trans hx251_2
                                                    replace p251 := eq_true p251
                                                    replace q251 := eq_true q251
                                                    go_wp2_with (first | ((with_reducible refine gate_dst (N := 8) rfl ?_); (try (refine gate_guard (by rfl) ?_; dsimp only)); refine box_event ?hg (N := 8) ?hd (cs := #[.int .i64 0, .int .i64 0, .int .i64 0]) (t := 63) ?hr ?_; (case hd => rfl); (case hg => rfl); (case hr => first | (go_simp; done) | (go_simp; rfl)); intro gb252 hg w63 hbox hb; have n0_ := Aside0.mk (blk_below (g := gb248) (o := .cells #[.slice A0_0 l0_0.length c0_0, .int .i64 a0_1, .slice (some ad249) l0_2.length c0_2] 30 (0, 0)) (by (with_reducible repeat (first | refine blk_drewN ?_ _ | refine blk_drew ?_ | refine blk_alloc ?_ _)); exact BK248.out) hb); have n1_ := Aside0.mk (below_step (by repeat (first | exact HB.out | apply below_alloc | apply pw_below_drewN | apply below_drew1 | refine below_set ?_ GE248.out)) hb); have n2_ := Aside0.mk (hbox); have n3_ := Aside0.mk ((by rw [hg]; exact (below_size (by repeat (first | exact HB.out | apply below_alloc | apply pw_below_drewN | apply below_drew1 | refine below_set ?_ GE248.out))) : w.heap.size ≤ gb252)); have n4_ := Aside0.mk ((by rw [hg]; exact (below_size (by repeat (first | exact HB.out | apply below_alloc | apply pw_below_drewN | apply below_drew1 | refine below_set ?_ GE248.out))) : w.heap.size ≤ gb252)); have n5_ := Aside0.mk ((by rw [hg]; exact Nat.ne_of_lt (blk_lt (g := gb248) (o := .cells #[.slice A0_0 l0_0.length c0_0, .int .i64 a0_1, .slice (some ad249) l0_2.length c0_2] 30 (0, 0)) (by (with_reducible repeat (first | refine blk_drewN ?_ _ | refine blk_drew ?_ | refine blk_alloc ?_ _)); exact BK248.out)) : gb248 ≠ gb252)); have n6_ := Aside0.mk ((by rw [hg]; exact Nat.ne_of_gt (blk_lt (g := gb248) (o := .cells #[.slice A0_0 l0_0.length c0_0, .int .i64 a0_1, .slice (some ad249) l0_2.length c0_2] 30 (0, 0)) (by (with_reducible repeat (first | refine blk_drewN ?_ _ | refine blk_drew ?_ | refine blk_alloc ?_ _)); exact BK248.out)) : gb252 ≠ gb248)); clear BK248; clear HB; have BK248 := n0_; have HB := n1_; have BK252 := n2_; have GW252 := n3_; have GE252 := n4_; have NB248_252 := n5_; have NB252_248 := n6_; clear n0_ n1_ n2_ n3_ n4_ n5_ n6_; clear hb hbox hg; have hnb64 := NB252_248.out; have hnc64 := NB248_252.out; have hcz65_0 : w63.cell? ⟨gb252, 0, none⟩ = some (.int .i64 0) := (blk_cell BK252.out 0).trans rfl; have hcz65_1 : w63.cell? ⟨gb252, 1, none⟩ = some (.int .i64 0) := (blk_cell BK252.out 1).trans rfl; have hcz65_2 : w63.cell? ⟨gb252, 2, none⟩ = some (.int .i64 0) := (blk_cell BK252.out 2).trans rfl; have hfz65_0 := blk_frozen BK252.out 0; have hfz65_1 := blk_frozen BK252.out 1; have hfz65_2 := blk_frozen BK252.out 2; have hcz66_0 : w63.cell? ⟨gb248, 0, none⟩ = some (.slice A0_0 l0_0.length c0_0) := (blk_cell BK248.out 0).trans rfl; have hcz66_1 : w63.cell? ⟨gb248, 1, none⟩ = some (.int .i64 a0_1) := (blk_cell BK248.out 1).trans rfl; have hcz66_2 : w63.cell? ⟨gb248, 2, none⟩ = some (.slice (some ad249) l0_2.length c0_2) := (blk_cell BK248.out 2).trans rfl; have hfz66_0 := blk_frozen BK248.out 0; have hfz66_1 := blk_frozen BK248.out 1; have hfz66_2 := blk_frozen BK248.out 2))
                                                    go_roundg k4
                                                    case measure => have := HJ1.out; have := HK2.out; have := HK3.out; have := HK4.out; omega
                                                    case rel => exact ⟨(wrap64 (x62_4 + 1)), (by first | rfl | (simp; done) | (simp [*]; done)), H', ⟨by have := HJ1.out; have := HK2.out; have := HK3.out; have := HK4.out; omega⟩, ⟨by (with_reducible repeat (first | refine blk_drewN ?_ _ | refine blk_drew ?_ | refine blk_alloc ?_ _)); refine blk_far ?_ NB248_252.out _; (with_reducible repeat (first | refine blk_drewN ?_ _ | refine blk_drew ?_ | refine blk_alloc ?_ _)); refine blk_far ?_ NB248_252.out _; (with_reducible repeat (first | refine blk_drewN ?_ _ | refine blk_drew ?_ | refine blk_alloc ?_ _)); refine blk_far ?_ NB248_252.out _; (with_reducible repeat (first | refine blk_drewN ?_ _ | refine blk_drew ?_ | refine blk_alloc ?_ _)); exact BK248.out⟩, ⟨by repeat (first | exact HB.out | apply below_alloc | apply pw_below_drewN | apply below_drew1 | refine below_set ?_ GE248.out | refine below_set ?_ GE252.out)⟩⟩
                                        · rw [if_neg c27] at H
                                          exact absurd H (by simp)
                                      · rw [if_neg c26] at H
                                        exact absurd H (by simp)
                                    · rw [if_neg c25] at H
                                      have c25b0 : decide (x62_4 < ((rd_L5 (rd_L6 l0_2 x44_2) x53_3).length : Int)) = false := decide_eq_false c25
                                      clear c25
                                      have H' := Aside0.mk H
                                      clear H
                                      go_wp2
                                      go_roundg k4
                                      case measure => have := HJ1.out; have := HK2.out; have := HK3.out; have := HK4.out; omega
                                      case rel => exact ⟨(wrap64 (x53_3 + 1)), (by first | rfl | (simp; done) | (simp [*]; done)), H', ⟨by have := HJ1.out; have := HK2.out; have := HK3.out; have := HK4.out; omega⟩, ⟨by (with_reducible repeat (first | refine blk_drewN ?_ _ | refine blk_drew ?_ | refine blk_alloc ?_ _)); exact BK248.out⟩, ⟨by repeat (first | exact HB.out | apply below_alloc | apply pw_below_drewN | apply below_drew1 | refine below_set ?_ GE248.out)⟩⟩
                            · rw [if_neg c23] at H
                              exact absurd H (by simp)
                          · rw [if_neg c22] at H
                            exact absurd H (by simp)
                        · rw [if_neg c21] at H
                          have c21b0 : decide (x53_3 < ((rd_L6 l0_2 x44_2).length : Int)) = false := decide_eq_false c21
                          clear c21
                          have H' := Aside0.mk H
                          clear H
                          go_wp2
                          go_roundg k3
                          case measure => have := HJ1.out; have := HK2.out; have := HK3.out; omega
                          case rel => exact ⟨(wrap64 (x44_2 + 1)), (by first | rfl | (simp; done) | (simp [*]; done)), H', ⟨by have := HJ1.out; have := HK2.out; have := HK3.out; omega⟩, ⟨by (with_reducible repeat (first | refine blk_drewN ?_ _ | refine blk_drew ?_ | refine blk_alloc ?_ _)); exact BK248.out⟩, ⟨by repeat (first | exact HB.out | apply below_alloc | apply pw_below_drewN | apply below_drew1 | refine below_set ?_ GE248.out)⟩⟩
                · rw [if_neg c19] at H
                  exact absurd H (by simp)
              · rw [if_neg c18] at H
                exact absurd H (by simp)
            · rw [if_neg c17] at H
              have c17b0 : decide (x44_2 < (l0_2.length : Int)) = false := decide_eq_false c17
              clear c17
              obtain rfl := Option.some.inj H
              go_wp2
              go_ret
              exact ⟨by first | rfl | (simp <;> rfl) | (simp [*] <;> rfl), by repeat (first | exact HB.out | apply below_alloc | apply pw_below_drewN | apply below_drew1 | refine below_set ?_ GE248.out)⟩

end Go.Proofs.Ytonhmkllfbagmaa.PFnExactTxFair
