-- Written by a program of this session (wip/print2.sh) out of the translation.
import Derived.Test.YtonhmkllfbagmaaPFnExactTxOKx0
namespace Go.Proofs.Ytonhmkllfbagmaa.PFnExactTxOK
open Go.RowKit Go.Proofs.YtonhmkllfbagmaaW.PrintWords Go.Proofs.YtonhmkllfbagmaaW.PrintLast Go.Proofs.YtonhmkllfbagmaaW.PrintMore
attribute [local go_sem] max2_int min2_int max_two min_two max_three min_three max_four min_four   -- for this text's walks alone
set_option linter.unusedVariables false
set_option linter.unusedSimpArgs false

/-! ### spec_TxOK: function 9 -/
mutual
def spec_TxOK.j0 : Nat → Bool → List Int → Int → List (List (List (S63))) → Option (Bool)
  | 0, _, _, _, _ => none
  | k + 1, x38, x109000, x109001, x109002 => if x38 = true then (some false) else (spec_TxOK.l0 k 0 x109000 x109001 x109002)
def spec_TxOK.l0 : Nat → Int → List Int → Int → List (List (List (S63))) → Option (Bool)
  | 0, _, _, _, _ => none
  | k + 1, x3, x109000, x109001, x109002 => if x3 < (x109002.length : Int) then (if 0 ≤ x3 then (if ((rd_L6 x109002 x3).length : Int) > 8 then (some false) else (spec_TxOK.l1 k x3 0 x109000 x109001 x109002)) else (none)) else (some true)
def spec_TxOK.l1 : Nat → Int → Int → List Int → Int → List (List (List (S63))) → Option (Bool)
  | 0, _, _, _, _, _ => none
  | k + 1, x3, x4, x109000, x109001, x109002 => if 0 ≤ x3 then (if x3 < (x109002.length : Int) then (if x4 < ((rd_L6 x109002 x3).length : Int) then (if 0 ≤ x4 then (if ((rd_L5 (rd_L6 x109002 x3) x4).length : Int) > 8 then (some false) else (spec_TxOK.l2 k x3 x4 0 x109000 x109001 x109002)) else (none)) else (spec_TxOK.l0 k (wrap64 (x3 + 1)) x109000 x109001 x109002)) else (none)) else (none)
def spec_TxOK.l2 : Nat → Int → Int → Int → List Int → Int → List (List (List (S63))) → Option (Bool)
  | 0, _, _, _, _, _, _ => none
  | k + 1, x3, x4, x5, x109000, x109001, x109002 => if 0 ≤ x3 then (if x3 < (x109002.length : Int) then (if 0 ≤ x4 then (if x4 < ((rd_L6 x109002 x3).length : Int) then (if x5 < ((rd_L5 (rd_L6 x109002 x3) x4).length : Int) then (if 0 ≤ x5 then (if ((rd_T63 (rd_L5 (rd_L6 x109002 x3) x4) x5).f0) < 1 then (some false) else (if ((rd_T63 (rd_L5 (rd_L6 x109002 x3) x4) x5).f0) > 3 then (some false) else (if ((rd_T63 (rd_L5 (rd_L6 x109002 x3) x4) x5).f1) < 0 then (some false) else (if ((rd_T63 (rd_L5 (rd_L6 x109002 x3) x4) x5).f1) ≥ (x109000.length : Int) then (some false) else (if ((rd_T63 (rd_L5 (rd_L6 x109002 x3) x4) x5).f0) = 1 then (if ((rd_T63 (rd_L5 (rd_L6 x109002 x3) x4) x5).f2) = 0 then (spec_TxOK.l2 k x3 x4 (wrap64 (x5 + 1)) x109000 x109001 x109002) else (some false)) else (spec_TxOK.l2 k x3 x4 (wrap64 (x5 + 1)) x109000 x109001 x109002)))))) else (none)) else (spec_TxOK.l1 k x3 (wrap64 (x4 + 1)) x109000 x109001 x109002)) else (none)) else (none)) else (none)) else (none)
end
def spec_TxOK.f (k : Nat) (l0_0 : List Int) (a0_1 : Int) (l0_2 : List (List (List (S63)))) : Option (Bool) := if (l0_0.length : Int) < 1 then (spec_TxOK.j0 k true l0_0 a0_1 l0_2) else (if (l0_0.length : Int) > 8 then (spec_TxOK.j0 k true l0_0 a0_1 l0_2) else (if (l0_2.length : Int) < 1 then (spec_TxOK.j0 k true l0_0 a0_1 l0_2) else (if (l0_2.length : Int) > 4 then (spec_TxOK.j0 k true l0_0 a0_1 l0_2) else (if a0_1 < 1 then (spec_TxOK.j0 k true l0_0 a0_1 l0_2) else (spec_TxOK.j0 k (decide (a0_1 > 4)) l0_0 a0_1 l0_2)))))
theorem spec_TxOK.mono_l : ∀ k, (∀ y0 y1 y2 y3, LeO (spec_TxOK.j0 k y0 y1 y2 y3) (spec_TxOK.j0 (k + 1) y0 y1 y2 y3)) ∧ (∀ y0 y1 y2 y3, LeO (spec_TxOK.l0 k y0 y1 y2 y3) (spec_TxOK.l0 (k + 1) y0 y1 y2 y3)) ∧ (∀ y0 y1 y2 y3 y4, LeO (spec_TxOK.l1 k y0 y1 y2 y3 y4) (spec_TxOK.l1 (k + 1) y0 y1 y2 y3 y4)) ∧ (∀ y0 y1 y2 y3 y4 y5, LeO (spec_TxOK.l2 k y0 y1 y2 y3 y4 y5) (spec_TxOK.l2 (k + 1) y0 y1 y2 y3 y4 y5))
  | 0 => ⟨fun _ _ _ _ r h => by simp [spec_TxOK.j0] at h, fun _ _ _ _ r h => by simp [spec_TxOK.l0] at h, fun _ _ _ _ _ r h => by simp [spec_TxOK.l1] at h, fun _ _ _ _ _ _ r h => by simp [spec_TxOK.l2] at h⟩
  | k + 1 => by
    obtain ⟨ih0, ih1, ih2, ih3⟩ := spec_TxOK.mono_l k
    refine ⟨?_, ?_, ?_, ?_⟩
    · intro y0 y1 y2 y3
      unfold spec_TxOK.j0
      repeat' first
      | (with_reducible exact ih0 _ _ _ _)
      | (with_reducible exact ih1 _ _ _ _)
      | (with_reducible exact ih2 _ _ _ _ _)
      | (with_reducible exact ih3 _ _ _ _ _ _)
      | (with_reducible exact LeO.refl _)
      | (with_reducible exact LeO.none _)
      | (with_reducible refine LeO.ite ?_ ?_)
      | (with_reducible refine LeO.bind ?_ (fun _ => ?_))
      | exact ih0 _ _ _ _
      | exact ih1 _ _ _ _
      | exact ih2 _ _ _ _ _
      | exact ih3 _ _ _ _ _ _
      | exact LeO.none _
      | refine LeO.ite ?_ ?_
      | refine LeO.bind ?_ (fun _ => ?_)
    · intro y0 y1 y2 y3
      unfold spec_TxOK.l0
      repeat' first
      | (with_reducible exact ih0 _ _ _ _)
      | (with_reducible exact ih1 _ _ _ _)
      | (with_reducible exact ih2 _ _ _ _ _)
      | (with_reducible exact ih3 _ _ _ _ _ _)
      | (with_reducible exact LeO.refl _)
      | (with_reducible exact LeO.none _)
      | (with_reducible refine LeO.ite ?_ ?_)
      | (with_reducible refine LeO.bind ?_ (fun _ => ?_))
      | exact ih0 _ _ _ _
      | exact ih1 _ _ _ _
      | exact ih2 _ _ _ _ _
      | exact ih3 _ _ _ _ _ _
      | exact LeO.none _
      | refine LeO.ite ?_ ?_
      | refine LeO.bind ?_ (fun _ => ?_)
    · intro y0 y1 y2 y3 y4
      unfold spec_TxOK.l1
      repeat' first
      | (with_reducible exact ih0 _ _ _ _)
      | (with_reducible exact ih1 _ _ _ _)
      | (with_reducible exact ih2 _ _ _ _ _)
      | (with_reducible exact ih3 _ _ _ _ _ _)
      | (with_reducible exact LeO.refl _)
      | (with_reducible exact LeO.none _)
      | (with_reducible refine LeO.ite ?_ ?_)
      | (with_reducible refine LeO.bind ?_ (fun _ => ?_))
      | exact ih0 _ _ _ _
      | exact ih1 _ _ _ _
      | exact ih2 _ _ _ _ _
      | exact ih3 _ _ _ _ _ _
      | exact LeO.none _
      | refine LeO.ite ?_ ?_
      | refine LeO.bind ?_ (fun _ => ?_)
    · intro y0 y1 y2 y3 y4 y5
      unfold spec_TxOK.l2
      repeat' first
      | (with_reducible exact ih0 _ _ _ _)
      | (with_reducible exact ih1 _ _ _ _)
      | (with_reducible exact ih2 _ _ _ _ _)
      | (with_reducible exact ih3 _ _ _ _ _ _)
      | (with_reducible exact LeO.refl _)
      | (with_reducible exact LeO.none _)
      | (with_reducible refine LeO.ite ?_ ?_)
      | (with_reducible refine LeO.bind ?_ (fun _ => ?_))
      | exact ih0 _ _ _ _
      | exact ih1 _ _ _ _
      | exact ih2 _ _ _ _ _
      | exact ih3 _ _ _ _ _ _
      | exact LeO.none _
      | refine LeO.ite ?_ ?_
      | refine LeO.bind ?_ (fun _ => ?_)
theorem spec_TxOK.mono : ∀ a0 a1 a2 k, LeO (spec_TxOK.f k a0 a1 a2) (spec_TxOK.f (k + 1) a0 a1 a2) := by
  intro a0 a1 a2 k
  obtain ⟨ih0, ih1, ih2, ih3⟩ := spec_TxOK.mono_l k
  unfold spec_TxOK.f
  repeat' first
      | (with_reducible exact ih0 _ _ _ _)
      | (with_reducible exact ih1 _ _ _ _)
      | (with_reducible exact ih2 _ _ _ _ _)
      | (with_reducible exact ih3 _ _ _ _ _ _)
      | (with_reducible exact LeO.refl _)
      | (with_reducible exact LeO.none _)
      | (with_reducible refine LeO.ite ?_ ?_)
      | (with_reducible refine LeO.bind ?_ (fun _ => ?_))
      | exact ih0 _ _ _ _
      | exact ih1 _ _ _ _
      | exact ih2 _ _ _ _ _
      | exact ih3 _ _ _ _ _ _
      | exact LeO.none _
      | refine LeO.ite ?_ ?_
      | refine LeO.bind ?_ (fun _ => ?_)
set_option maxHeartbeats 8000000 in
set_option maxRecDepth 100000 in
theorem spec_TxOK.calls (k : Nat) (A0_0 : Option Addr) (c0_0 : Nat) (l0_0 : List Int) (a0_1 : Int) (A0_2 : Option Addr) (c0_2 : Nat) (l0_2 : List (List (List (S63)))) (r : Bool) (w : World) (hr0_0 : Kd.C (Kd.int .i64) w A0_0 l0_0.length l0_0) (hc0_0 : l0_0.length ≤ c0_0) (hr0_2 : Kd.C (Kd.slice 61 (Kd.slice 63 k63)) w A0_2 l0_2.length l0_2) (hc0_2 : l0_2.length ≤ c0_2) (h : spec_TxOK.f k l0_0 a0_1 l0_2 = some r) :
    Calls Try.prog 9 #[.agg #[.slice A0_0 l0_0.length c0_0, .int .i64 a0_1, .slice A0_2 l0_2.length c0_2]] w fun e w' => e = .returned (.bool r) ∧ Below w.heap.size w w' := by
  have hu30 := Try.underlying30
  have hu63 := Try.underlying63
  have HR0_0 := Aside0.mk hr0_0
  have HC0_0 := Aside0.mk hc0_0
  clear hr0_0 hc0_0
  have HR0_2 := Aside0.mk hr0_2
  have HC0_2 := Aside0.mk hc0_2
  clear hr0_2 hc0_2
  have HB := Aside0.mk (Below.refl w.heap.size w)
  have H : (if (l0_0.length : Int) < 1 then (spec_TxOK.j0 k true l0_0 a0_1 l0_2) else (if (l0_0.length : Int) > 8 then (spec_TxOK.j0 k true l0_0 a0_1 l0_2) else (if (l0_2.length : Int) < 1 then (spec_TxOK.j0 k true l0_0 a0_1 l0_2) else (if (l0_2.length : Int) > 4 then (spec_TxOK.j0 k true l0_0 a0_1 l0_2) else (if a0_1 < 1 then (spec_TxOK.j0 k true l0_0 a0_1 l0_2) else (spec_TxOK.j0 k (decide (a0_1 > 4)) l0_0 a0_1 l0_2)))))) = some r := h
  clear h
  have HC2 := Aside0.mk H
  clear H
  go_enter Try.func9, Try.ntmps9
  go_upto_region 1 with (first | ((with_reducible refine gate_dst (N := 1) rfl ?_); (try (refine gate_guard (by rfl) ?_; dsimp only)); refine box_event ?hg (N := 1) ?hd (cs := #[.slice A0_0 l0_0.length c0_0, .int .i64 a0_1, .slice A0_2 l0_2.length c0_2]) (t := 30) ?hr ?_; (case hd => rfl); (case hg => rfl); (case hr => first | (go_simp; done) | (go_simp; rfl)); intro gb108 hg w3 hbox hb; have n0_ := Aside0.mk (below_step (by repeat (first | (with_reducible first | exact HB.out | apply below_alloc | apply pw_below_drewN | apply below_drew1) | exact HB.out)) hb); have n1_ := Aside0.mk (hbox); have n2_ := Aside0.mk ((by rw [hg]; exact (below_size (by repeat (first | (with_reducible first | exact HB.out | apply below_alloc | apply pw_below_drewN | apply below_drew1) | exact HB.out))) : w.heap.size ≤ gb108)); have n3_ := Aside0.mk ((by rw [hg]; exact (below_size (by repeat (first | (with_reducible first | exact HB.out | apply below_alloc | apply pw_below_drewN | apply below_drew1) | exact HB.out))) : w.heap.size ≤ gb108)); clear HB; have HB := n0_; have BK108 := n1_; have GW108 := n2_; have GE108 := n3_; clear n0_ n1_ n2_ n3_; clear hb hbox hg))
  (try simp only [Act.put, List.setIfInBounds_toArray, List.set_cons_zero, List.set_cons_succ])
  go_cut [38] (fun v38 wc => ∃ (kq : Nat) (x38_1 : Bool), v38 = .bool x38_1 ∧ Aside0 (spec_TxOK.j0 kq x38_1 l0_0 a0_1 l0_2 = some r) ∧ Aside0 (kq ≤ k) ∧ Aside0 (wc.heap[gb108]? = some (.cells #[(.slice A0_0 l0_0.length c0_0), .int .i64 a0_1, (.slice A0_2 l0_2.length c0_2)] 30 (0, 0))) ∧ Aside0 (Below w.heap.size w wc))
  case first =>
    have H := HC2.out
    clear HC2
    by_cases c4 : (l0_0.length : Int) < 1
    · rw [if_pos c4] at H
      have c4b0 : decide ((l0_0.length : Int) < 1) = true := decide_eq_true c4
      have c4b1 : decide (l0_0.length < 1) = true := decide_eq_true (by omega)
      clear c4
      (first | rw [c4b0] | (simp only [i64_w, i32_w]; rw [c4b0]) | skip)
      have H' := Aside0.mk H
      clear H
      have hcz5_0 : w3.cell? ⟨gb108, 0, none⟩ = some (.slice A0_0 l0_0.length c0_0) := (blk_cell BK108.out 0).trans rfl
      have hcz5_1 : w3.cell? ⟨gb108, 1, none⟩ = some (.int .i64 a0_1) := (blk_cell BK108.out 1).trans rfl
      have hcz5_2 : w3.cell? ⟨gb108, 2, none⟩ = some (.slice A0_2 l0_2.length c0_2) := (blk_cell BK108.out 2).trans rfl
      have hfz5_0 := blk_frozen BK108.out 0
      have hfz5_1 := blk_frozen BK108.out 1
      have hfz5_2 := blk_frozen BK108.out 2
      go_wp2
      go_meet
      case rel => exact ⟨_, (true), (by first | rfl | (simp; done) | (simp [*]; done)), H', ⟨by first | omega | exact Nat.le_refl _⟩, ⟨by (with_reducible repeat (first | refine blk_drewN ?_ _ | refine blk_drew ?_ | refine blk_alloc ?_ _)); exact BK108.out⟩, ⟨by repeat (first | (with_reducible first | exact HB.out | apply below_alloc | apply pw_below_drewN | apply below_drew1 | refine below_set ?_ GE108.out) | exact HB.out)⟩⟩
    · rw [if_neg c4] at H
      have c4b0 : decide ((l0_0.length : Int) < 1) = false := decide_eq_false c4
      have c4b1 : decide (l0_0.length < 1) = false := decide_eq_false (by omega)
      clear c4
      (first | rw [c4b0] | (simp only [i64_w, i32_w]; rw [c4b0]) | skip)
      by_cases c6 : (l0_0.length : Int) > 8
      · rw [if_pos c6] at H
        have c6b0 : decide (8 < (l0_0.length : Int)) = true := decide_eq_true c6
        have c6b1 : decide (8 < l0_0.length) = true := decide_eq_true (by omega)
        clear c6
        have H' := Aside0.mk H
        clear H
        have hcz7_0 : w3.cell? ⟨gb108, 0, none⟩ = some (.slice A0_0 l0_0.length c0_0) := (blk_cell BK108.out 0).trans rfl
        have hcz7_1 : w3.cell? ⟨gb108, 1, none⟩ = some (.int .i64 a0_1) := (blk_cell BK108.out 1).trans rfl
        have hcz7_2 : w3.cell? ⟨gb108, 2, none⟩ = some (.slice A0_2 l0_2.length c0_2) := (blk_cell BK108.out 2).trans rfl
        have hfz7_0 := blk_frozen BK108.out 0
        have hfz7_1 := blk_frozen BK108.out 1
        have hfz7_2 := blk_frozen BK108.out 2
        go_wp2
        go_meet
        case rel => exact ⟨_, (true), (by first | rfl | (simp; done) | (simp [*]; done)), H', ⟨by first | omega | exact Nat.le_refl _⟩, ⟨by (with_reducible repeat (first | refine blk_drewN ?_ _ | refine blk_drew ?_ | refine blk_alloc ?_ _)); exact BK108.out⟩, ⟨by repeat (first | (with_reducible first | exact HB.out | apply below_alloc | apply pw_below_drewN | apply below_drew1 | refine below_set ?_ GE108.out) | exact HB.out)⟩⟩
      · rw [if_neg c6] at H
        have c6b0 : decide (8 < (l0_0.length : Int)) = false := decide_eq_false c6
        have c6b1 : decide (8 < l0_0.length) = false := decide_eq_false (by omega)
        clear c6
        by_cases c8 : (l0_2.length : Int) < 1
        · rw [if_pos c8] at H
          have c8b0 : decide ((l0_2.length : Int) < 1) = true := decide_eq_true c8
          have c8b1 : decide (l0_2.length < 1) = true := decide_eq_true (by omega)
          clear c8
          have H' := Aside0.mk H
          clear H
          have hcz9_0 : w3.cell? ⟨gb108, 0, none⟩ = some (.slice A0_0 l0_0.length c0_0) := (blk_cell BK108.out 0).trans rfl
          have hcz9_1 : w3.cell? ⟨gb108, 1, none⟩ = some (.int .i64 a0_1) := (blk_cell BK108.out 1).trans rfl
          have hcz9_2 : w3.cell? ⟨gb108, 2, none⟩ = some (.slice A0_2 l0_2.length c0_2) := (blk_cell BK108.out 2).trans rfl
          have hfz9_0 := blk_frozen BK108.out 0
          have hfz9_1 := blk_frozen BK108.out 1
          have hfz9_2 := blk_frozen BK108.out 2
          go_wp2
          go_meet
          case rel => exact ⟨_, (true), (by first | rfl | (simp; done) | (simp [*]; done)), H', ⟨by first | omega | exact Nat.le_refl _⟩, ⟨by (with_reducible repeat (first | refine blk_drewN ?_ _ | refine blk_drew ?_ | refine blk_alloc ?_ _)); exact BK108.out⟩, ⟨by repeat (first | (with_reducible first | exact HB.out | apply below_alloc | apply pw_below_drewN | apply below_drew1 | refine below_set ?_ GE108.out) | exact HB.out)⟩⟩
        · rw [if_neg c8] at H
          have c8b0 : decide ((l0_2.length : Int) < 1) = false := decide_eq_false c8
          have c8b1 : decide (l0_2.length < 1) = false := decide_eq_false (by omega)
          clear c8
          by_cases c10 : (l0_2.length : Int) > 4
          · rw [if_pos c10] at H
            have c10b0 : decide (4 < (l0_2.length : Int)) = true := decide_eq_true c10
            have c10b1 : decide (4 < l0_2.length) = true := decide_eq_true (by omega)
            clear c10
            have H' := Aside0.mk H
            clear H
            have hcz11_0 : w3.cell? ⟨gb108, 0, none⟩ = some (.slice A0_0 l0_0.length c0_0) := (blk_cell BK108.out 0).trans rfl
            have hcz11_1 : w3.cell? ⟨gb108, 1, none⟩ = some (.int .i64 a0_1) := (blk_cell BK108.out 1).trans rfl
            have hcz11_2 : w3.cell? ⟨gb108, 2, none⟩ = some (.slice A0_2 l0_2.length c0_2) := (blk_cell BK108.out 2).trans rfl
            have hfz11_0 := blk_frozen BK108.out 0
            have hfz11_1 := blk_frozen BK108.out 1
            have hfz11_2 := blk_frozen BK108.out 2
            go_wp2
            go_meet
            case rel => exact ⟨_, (true), (by first | rfl | (simp; done) | (simp [*]; done)), H', ⟨by first | omega | exact Nat.le_refl _⟩, ⟨by (with_reducible repeat (first | refine blk_drewN ?_ _ | refine blk_drew ?_ | refine blk_alloc ?_ _)); exact BK108.out⟩, ⟨by repeat (first | (with_reducible first | exact HB.out | apply below_alloc | apply pw_below_drewN | apply below_drew1 | refine below_set ?_ GE108.out) | exact HB.out)⟩⟩
          · rw [if_neg c10] at H
            have c10b0 : decide (4 < (l0_2.length : Int)) = false := decide_eq_false c10
            have c10b1 : decide (4 < l0_2.length) = false := decide_eq_false (by omega)
            clear c10
            by_cases c12 : a0_1 < 1
            · rw [if_pos c12] at H
              have c12b0 : decide (a0_1 < 1) = true := decide_eq_true c12
              clear c12
              have H' := Aside0.mk H
              clear H
              have hcz13_0 : w3.cell? ⟨gb108, 0, none⟩ = some (.slice A0_0 l0_0.length c0_0) := (blk_cell BK108.out 0).trans rfl
              have hcz13_1 : w3.cell? ⟨gb108, 1, none⟩ = some (.int .i64 a0_1) := (blk_cell BK108.out 1).trans rfl
              have hcz13_2 : w3.cell? ⟨gb108, 2, none⟩ = some (.slice A0_2 l0_2.length c0_2) := (blk_cell BK108.out 2).trans rfl
              have hfz13_0 := blk_frozen BK108.out 0
              have hfz13_1 := blk_frozen BK108.out 1
              have hfz13_2 := blk_frozen BK108.out 2
              go_wp2
              go_meet
              case rel => exact ⟨_, (true), (by first | rfl | (simp; done) | (simp [*]; done)), H', ⟨by first | omega | exact Nat.le_refl _⟩, ⟨by (with_reducible repeat (first | refine blk_drewN ?_ _ | refine blk_drew ?_ | refine blk_alloc ?_ _)); exact BK108.out⟩, ⟨by repeat (first | (with_reducible first | exact HB.out | apply below_alloc | apply pw_below_drewN | apply below_drew1 | refine below_set ?_ GE108.out) | exact HB.out)⟩⟩
            · rw [if_neg c12] at H
              have c12b0 : decide (a0_1 < 1) = false := decide_eq_false c12
              clear c12
              have H' := Aside0.mk H
              clear H
              have hcz14_0 : w3.cell? ⟨gb108, 0, none⟩ = some (.slice A0_0 l0_0.length c0_0) := (blk_cell BK108.out 0).trans rfl
              have hcz14_1 : w3.cell? ⟨gb108, 1, none⟩ = some (.int .i64 a0_1) := (blk_cell BK108.out 1).trans rfl
              have hcz14_2 : w3.cell? ⟨gb108, 2, none⟩ = some (.slice A0_2 l0_2.length c0_2) := (blk_cell BK108.out 2).trans rfl
              have hfz14_0 := blk_frozen BK108.out 0
              have hfz14_1 := blk_frozen BK108.out 1
              have hfz14_2 := blk_frozen BK108.out 2
              go_wp2
              go_meet
              case rel => exact ⟨_, (decide (a0_1 > 4)), (by first | rfl | (simp; done) | (simp [*]; done)), H', ⟨by first | omega | exact Nat.le_refl _⟩, ⟨by (with_reducible repeat (first | refine blk_drewN ?_ _ | refine blk_drew ?_ | refine blk_alloc ?_ _)); exact BK108.out⟩, ⟨by repeat (first | (with_reducible first | exact HB.out | apply below_alloc | apply pw_below_drewN | apply below_drew1 | refine below_set ?_ GE108.out) | exact HB.out)⟩⟩
  case rest =>
    clear HC2
    try clear c1
    try clear p2
    try clear c4
    try clear c4b0
    try clear c4b1
    try clear c6
    try clear c6b0
    try clear c6b1
    try clear c8
    try clear c8b0
    try clear c8b1
    try clear c9
    try clear c10
    try clear c10b0
    try clear c10b1
    try clear c12
    try clear c12b0
    try clear hcz11_0
    try clear hcz11_1
    try clear hcz11_2
    try clear hcz13_0
    try clear hcz13_1
    try clear hcz13_2
    try clear hcz14_0
    try clear hcz14_1
    try clear hcz14_2
    try clear hcz5_0
    try clear hcz5_1
    try clear hcz5_2
    try clear hcz7_0
    try clear hcz7_1
    try clear hcz7_2
    try clear hcz9_0
    try clear hcz9_1
    try clear hcz9_2
    try clear hfz11_0
    try clear hfz11_1
    try clear hfz11_2
    try clear hfz13_0
    try clear hfz13_1
    try clear hfz13_2
    try clear hfz14_0
    try clear hfz14_1
    try clear hfz14_2
    try clear hfz5_0
    try clear hfz5_1
    try clear hfz5_2
    try clear hfz7_0
    try clear hfz7_1
    try clear hfz7_2
    try clear hfz9_0
    try clear hfz9_1
    try clear hfz9_2
    obtain ⟨kq, x38_1, rfl, HA, HJ1, BK108, HB⟩ := hcut
    cases kq with
    | zero => exact absurd HA.out (by simp [spec_TxOK.j0])
    | succ kj1 =>
      have H := HA.out
      clear HA
      simp only [spec_TxOK.j0] at H
      by_cases c15 : x38_1 = true
      · subst c15
        have H1 : (some false) = some r := by rw [if_pos rfl] at H; exact H
        clear H
        have H := H1
        clear H1
        obtain rfl := Option.some.inj H
        go_wp2
        go_ret
        exact ⟨by first | rfl | (simp [errW_none, errW_some] <;> rfl) | (simp [*, errW_none, errW_some] <;> rfl), by repeat (first | (with_reducible first | exact HB.out | apply below_alloc | apply pw_below_drewN | apply below_drew1 | refine below_set ?_ GE108.out) | exact HB.out)⟩
      · replace c15 := Bool.eq_false_iff.mpr c15
        subst c15
        have H1 : (spec_TxOK.l0 kj1 0 l0_0 a0_1 l0_2) = some r := by rw [if_neg (show ¬ (false = true) by decide)] at H; exact H
        clear H
        have H := H1
        clear H1
        have H' := Aside0.mk H
        clear H
        go_wp2
        go_loopg [3] kj1 (fun kq v3 w' => ∃ (x3_2 : Int), v3 = .int .i64 x3_2 ∧ Aside0 (spec_TxOK.l0 kq x3_2 l0_0 a0_1 l0_2 = some r) ∧ Aside0 (kq ≤ kj1) ∧ Aside0 (w'.heap[gb108]? = some (.cells #[(.slice A0_0 l0_0.length c0_0), .int .i64 a0_1, (.slice A0_2 l0_2.length c0_2)] 30 (0, 0))) ∧ Aside0 (Below w.heap.size w w'))
        case atStart => exact ⟨(0), (by first | rfl | (simp; done) | (simp [*]; done)), H', ⟨Nat.le_refl _⟩, ⟨by (with_reducible repeat (first | refine blk_drewN ?_ _ | refine blk_drew ?_ | refine blk_alloc ?_ _)); exact BK108.out⟩, ⟨by repeat (first | (with_reducible first | exact HB.out | apply below_alloc | apply pw_below_drewN | apply below_drew1 | refine below_set ?_ GE108.out) | exact HB.out)⟩⟩
        case round =>
          clear H'
          try clear c1
          try clear p2
          try clear c4
          try clear c4b0
          try clear c4b1
          try clear c6
          try clear c6b0
          try clear c6b1
          try clear c8
          try clear c8b0
          try clear c8b1
          try clear c9
          try clear c10
          try clear c10b0
          try clear c10b1
          try clear c12
          try clear c12b0
          try clear c15
          try clear hcz11_0
          try clear hcz11_1
          try clear hcz11_2
          try clear hcz13_0
          try clear hcz13_1
          try clear hcz13_2
          try clear hcz14_0
          try clear hcz14_1
          try clear hcz14_2
          try clear hcz5_0
          try clear hcz5_1
          try clear hcz5_2
          try clear hcz7_0
          try clear hcz7_1
          try clear hcz7_2
          try clear hcz9_0
          try clear hcz9_1
          try clear hcz9_2
          try clear hfz11_0
          try clear hfz11_1
          try clear hfz11_2
          try clear hfz13_0
          try clear hfz13_1
          try clear hfz13_2
          try clear hfz14_0
          try clear hfz14_1
          try clear hfz14_2
          try clear hfz5_0
          try clear hfz5_1
          try clear hfz5_2
          try clear hfz7_0
          try clear hfz7_1
          try clear hfz7_2
          try clear hfz9_0
          try clear hfz9_1
          try clear hfz9_2
          try clear p2
          obtain ⟨x3_2, rfl, HA, HK2, BK108, HB⟩ := hrel
          cases gk with
          | zero => exact absurd HA.out (by simp [spec_TxOK.l0])
          | succ k2 =>
            have H := HA.out
            clear HA
            simp only [spec_TxOK.l0] at H
            by_cases c16 : x3_2 < (l0_2.length : Int)
            · rw [if_pos c16] at H
              have c16b0 : decide (x3_2 < (l0_2.length : Int)) = true := decide_eq_true c16
              clear c16
              by_cases c17 : 0 ≤ x3_2
              · rw [if_pos c17] at H
                have c17b0 : decide (0 ≤ x3_2) = true := decide_eq_true c17
                clear c17
                by_cases c18 : ((rd_L6 l0_2 x3_2).length : Int) > 8
                · rw [if_pos c18] at H
                  have c18b0 : decide (8 < ((rd_L6 l0_2 x3_2).length : Int)) = true := decide_eq_true c18
                  have c18b1 : decide (8 < (rd_L6 l0_2 x3_2).length) = true := decide_eq_true (by omega)
                  clear c18
                  obtain rfl := Option.some.inj H
                  have hcz19_0 : wr.cell? ⟨gb108, 0, none⟩ = some (.slice A0_0 l0_0.length c0_0) := (blk_cell BK108.out 0).trans rfl
                  have hcz19_1 : wr.cell? ⟨gb108, 1, none⟩ = some (.int .i64 a0_1) := (blk_cell BK108.out 1).trans rfl
                  have hcz19_2 : wr.cell? ⟨gb108, 2, none⟩ = some (.slice A0_2 l0_2.length c0_2) := (blk_cell BK108.out 2).trans rfl
                  have hfz19_0 := blk_frozen BK108.out 0
                  have hfz19_1 := blk_frozen BK108.out 1
                  have hfz19_2 := blk_frozen BK108.out 2
                  have p109 : 0 ≤ (x3_2 : Int) := of_decide_eq_true (by first | (with_reducible assumption) | assumption)
                  have q109 : x3_2 < (l0_2.length : Int) := of_decide_eq_true (by first | (with_reducible assumption) | assumption)
                  obtain ⟨ad109, A109_0, c109_0, e109, hx109_0, hl109_0, hi109_0⟩ := at_L6 HR0_2.out x3_2 p109 q109
                  cases e109
                  replace hx109_0 := (HB.out.cell (World.block_lt_of_cell? w _ hx109_0)).trans hx109_0
                  have HR109_0 := Aside0.mk hi109_0
                  have HC109_0 := Aside0.mk hl109_0
                  clear hi109_0 hl109_0
                  replace p109 := eq_true p109
                  replace q109 := eq_true q109
                  go_wp2
                  go_ret
                  exact ⟨by first | rfl | (simp [errW_none, errW_some] <;> rfl) | (simp [*, errW_none, errW_some] <;> rfl), by repeat (first | (with_reducible first | exact HB.out | apply below_alloc | apply pw_below_drewN | apply below_drew1 | refine below_set ?_ GE108.out) | exact HB.out)⟩
                · rw [if_neg c18] at H
                  have c18b0 : decide (8 < ((rd_L6 l0_2 x3_2).length : Int)) = false := decide_eq_false c18
                  have c18b1 : decide (8 < (rd_L6 l0_2 x3_2).length) = false := decide_eq_false (by omega)
                  clear c18
                  have H' := Aside0.mk H
                  clear H
                  have hcz20_0 : wr.cell? ⟨gb108, 0, none⟩ = some (.slice A0_0 l0_0.length c0_0) := (blk_cell BK108.out 0).trans rfl
                  have hcz20_1 : wr.cell? ⟨gb108, 1, none⟩ = some (.int .i64 a0_1) := (blk_cell BK108.out 1).trans rfl
                  have hcz20_2 : wr.cell? ⟨gb108, 2, none⟩ = some (.slice A0_2 l0_2.length c0_2) := (blk_cell BK108.out 2).trans rfl
                  have hfz20_0 := blk_frozen BK108.out 0
                  have hfz20_1 := blk_frozen BK108.out 1
                  have hfz20_2 := blk_frozen BK108.out 2
                  have p109 : 0 ≤ (x3_2 : Int) := of_decide_eq_true (by first | (with_reducible assumption) | assumption)
                  have q109 : x3_2 < (l0_2.length : Int) := of_decide_eq_true (by first | (with_reducible assumption) | assumption)
                  obtain ⟨ad109, A109_0, c109_0, e109, hx109_0, hl109_0, hi109_0⟩ := at_L6 HR0_2.out x3_2 p109 q109
                  cases e109
                  replace hx109_0 := (HB.out.cell (World.block_lt_of_cell? w _ hx109_0)).trans hx109_0
                  have HR109_0 := Aside0.mk hi109_0
                  have HC109_0 := Aside0.mk hl109_0
                  clear hi109_0 hl109_0
                  replace p109 := eq_true p109
                  replace q109 := eq_true q109
                  go_wp2
                  go_loopg [4] k2 (fun kq v4 w' => ∃ (x4_3 : Int), v4 = .int .i64 x4_3 ∧ Aside0 (spec_TxOK.l1 kq x3_2 x4_3 l0_0 a0_1 l0_2 = some r) ∧ Aside0 (kq ≤ k2) ∧ Aside0 (w'.heap[gb108]? = some (.cells #[(.slice A0_0 l0_0.length c0_0), .int .i64 a0_1, (.slice (some ad109) l0_2.length c0_2)] 30 (0, 0))) ∧ Aside0 (Below w.heap.size w w'))
                  case atStart => exact ⟨(0), (by first | rfl | (simp; done) | (simp [*]; done)), H', ⟨Nat.le_refl _⟩, ⟨by (with_reducible repeat (first | refine blk_drewN ?_ _ | refine blk_drew ?_ | refine blk_alloc ?_ _)); exact BK108.out⟩, ⟨by repeat (first | (with_reducible first | exact HB.out | apply below_alloc | apply pw_below_drewN | apply below_drew1 | refine below_set ?_ GE108.out) | exact HB.out)⟩⟩
                  case round =>
                    clear H'
                    try clear c1
                    try clear p1
                    try clear q1
                    try clear hx1
                    try clear p2
                    try clear c4
                    try clear c4b0
                    try clear c4b1
                    try clear c6
                    try clear c6b0
                    try clear c6b1
                    try clear c8
                    try clear c8b0
                    try clear c8b1
                    try clear c9
                    try clear c10
                    try clear c10b0
                    try clear c10b1
                    try clear p10
                    try clear q10
                    try clear hx10
                    try clear c12
                    try clear c12b0
                    try clear c15
                    try clear c16
                    try clear c16b0
                    try clear c17
                    try clear c17b0
                    try clear c18
                    try clear c18b0
                    try clear c18b1
                    try clear hcz11_0
                    try clear hcz11_1
                    try clear hcz11_2
                    try clear hcz13_0
                    try clear hcz13_1
                    try clear hcz13_2
                    try clear hcz14_0
                    try clear hcz14_1
                    try clear hcz14_2
                    try clear hcz19_0
                    try clear hcz19_1
                    try clear hcz19_2
                    try clear hcz20_0
                    try clear hcz20_1
                    try clear hcz20_2
                    try clear hcz5_0
                    try clear hcz5_1
                    try clear hcz5_2
                    try clear hcz7_0
                    try clear hcz7_1
                    try clear hcz7_2
                    try clear hcz9_0
                    try clear hcz9_1
                    try clear hcz9_2
                    try clear hfz11_0
                    try clear hfz11_1
                    try clear hfz11_2
                    try clear hfz13_0
                    try clear hfz13_1
                    try clear hfz13_2
                    try clear hfz14_0
                    try clear hfz14_1
                    try clear hfz14_2
                    try clear hfz19_0
                    try clear hfz19_1
                    try clear hfz19_2
                    try clear hfz20_0
                    try clear hfz20_1
                    try clear hfz20_2
                    try clear hfz5_0
                    try clear hfz5_1
                    try clear hfz5_2
                    try clear hfz7_0
                    try clear hfz7_1
                    try clear hfz7_2
                    try clear hfz9_0
                    try clear hfz9_1
                    try clear hfz9_2
                    try clear hx109_0
                    try clear p109
                    try clear p2
                    try clear q109
                    obtain ⟨x4_3, rfl, HA, HK3, BK108, HB⟩ := hrel
                    cases gk with
                    | zero => exact absurd HA.out (by simp [spec_TxOK.l1])
                    | succ k3 =>
                      have H := HA.out
                      clear HA
                      simp only [spec_TxOK.l1] at H
                      by_cases c21 : 0 ≤ x3_2
                      · rw [if_pos c21] at H
                        have c21b0 : decide (0 ≤ x3_2) = true := decide_eq_true c21
                        clear c21
                        by_cases c22 : x3_2 < (l0_2.length : Int)
                        · rw [if_pos c22] at H
                          have c22b0 : decide (x3_2 < (l0_2.length : Int)) = true := decide_eq_true c22
                          clear c22
                          by_cases c23 : x4_3 < ((rd_L6 l0_2 x3_2).length : Int)
                          · rw [if_pos c23] at H
                            have c23b0 : decide (x4_3 < ((rd_L6 l0_2 x3_2).length : Int)) = true := decide_eq_true c23
                            clear c23
                            by_cases c24 : 0 ≤ x4_3
                            · rw [if_pos c24] at H
                              have c24b0 : decide (0 ≤ x4_3) = true := decide_eq_true c24
                              clear c24
                              by_cases c25 : ((rd_L5 (rd_L6 l0_2 x3_2) x4_3).length : Int) > 8
                              · rw [if_pos c25] at H
                                have c25b0 : decide (8 < ((rd_L5 (rd_L6 l0_2 x3_2) x4_3).length : Int)) = true := decide_eq_true c25
                                have c25b1 : decide (8 < (rd_L5 (rd_L6 l0_2 x3_2) x4_3).length) = true := decide_eq_true (by omega)
                                clear c25
                                obtain rfl := Option.some.inj H
                                have hcz26_0 : wr.cell? ⟨gb108, 0, none⟩ = some (.slice A0_0 l0_0.length c0_0) := (blk_cell BK108.out 0).trans rfl
                                have hcz26_1 : wr.cell? ⟨gb108, 1, none⟩ = some (.int .i64 a0_1) := (blk_cell BK108.out 1).trans rfl
                                have hcz26_2 : wr.cell? ⟨gb108, 2, none⟩ = some (.slice (some ad109) l0_2.length c0_2) := (blk_cell BK108.out 2).trans rfl
                                have hfz26_0 := blk_frozen BK108.out 0
                                have hfz26_1 := blk_frozen BK108.out 1
                                have hfz26_2 := blk_frozen BK108.out 2
                                have p110 : 0 ≤ (x3_2 : Int) := of_decide_eq_true (by first | (with_reducible assumption) | assumption)
                                have q110 : x3_2 < (l0_2.length : Int) := of_decide_eq_true (by first | (with_reducible assumption) | assumption)
                                obtain ⟨ad110, A110_0, c110_0, e110, hx110_0, hl110_0, hi110_0⟩ := at_L6 HR0_2.out x3_2 p110 q110
                                obtain rfl : ad109 = ad110 := (by injection e110)
                                replace hx110_0 := (HB.out.cell (World.block_lt_of_cell? w _ hx110_0)).trans hx110_0
                                try (have ea_ := Option.some.inj (hx109_0.symm.trans hx110_0); injection ea_ with ea_ en_ ec_; subst ea_; subst ec_; clear en_)
                                have HR110_0 := Aside0.mk hi110_0
                                have HC110_0 := Aside0.mk hl110_0
                                clear hi110_0 hl110_0
                                replace p110 := eq_true p110
                                replace q110 := eq_true q110
                                have p111 : 0 ≤ (x3_2 : Int) := of_decide_eq_true (by first | (with_reducible assumption) | assumption)
                                have q111 : x3_2 < (l0_2.length : Int) := of_decide_eq_true (by first | (with_reducible assumption) | assumption)
                                obtain ⟨ad111, A111_0, c111_0, e111, hx111_0, hl111_0, hi111_0⟩ := at_L6 HR0_2.out x3_2 p111 q111
                                obtain rfl : ad109 = ad111 := (by injection e111)
                                replace hx111_0 := (HB.out.cell (World.block_lt_of_cell? w _ hx111_0)).trans hx111_0
                                have HR111_0 := Aside0.mk hi111_0
                                have HC111_0 := Aside0.mk hl111_0
                                clear hi111_0 hl111_0
                                replace p111 := eq_true p111
                                replace q111 := eq_true q111
                                have ea_ := Option.some.inj (hx110_0.symm.trans hx111_0)
                                injection ea_ with ea_ en_ ec_
                                subst ea_
                                subst ec_
                                clear en_
                                have p112 : 0 ≤ (x4_3 : Int) := of_decide_eq_true (by first | (with_reducible assumption) | assumption)
                                have q112 : x4_3 < ((rd_L6 l0_2 x3_2).length : Int) := of_decide_eq_true (by first | (with_reducible assumption) | assumption)
                                obtain ⟨ad112, A112_0, c112_0, e112, hx112_0, hl112_0, hi112_0⟩ := at_L5 HR111_0.out x4_3 p112 q112
                                cases e112
                                replace hx112_0 := (HB.out.cell (World.block_lt_of_cell? w _ hx112_0)).trans hx112_0
                                have HR112_0 := Aside0.mk hi112_0
                                have HC112_0 := Aside0.mk hl112_0
                                clear hi112_0 hl112_0
                                replace p112 := eq_true p112
                                replace q112 := eq_true q112
                                go_wp2
                                go_ret
                                exact ⟨by first | rfl | (simp [errW_none, errW_some] <;> rfl) | (simp [*, errW_none, errW_some] <;> rfl), by repeat (first | (with_reducible first | exact HB.out | apply below_alloc | apply pw_below_drewN | apply below_drew1 | refine below_set ?_ GE108.out) | exact HB.out)⟩
                              · rw [if_neg c25] at H
                                have c25b0 : decide (8 < ((rd_L5 (rd_L6 l0_2 x3_2) x4_3).length : Int)) = false := decide_eq_false c25
                                have c25b1 : decide (8 < (rd_L5 (rd_L6 l0_2 x3_2) x4_3).length) = false := decide_eq_false (by omega)
                                clear c25
                                have H' := Aside0.mk H
                                clear H
                                have hcz27_0 : wr.cell? ⟨gb108, 0, none⟩ = some (.slice A0_0 l0_0.length c0_0) := (blk_cell BK108.out 0).trans rfl
                                have hcz27_1 : wr.cell? ⟨gb108, 1, none⟩ = some (.int .i64 a0_1) := (blk_cell BK108.out 1).trans rfl
                                have hcz27_2 : wr.cell? ⟨gb108, 2, none⟩ = some (.slice (some ad109) l0_2.length c0_2) := (blk_cell BK108.out 2).trans rfl
                                have hfz27_0 := blk_frozen BK108.out 0
                                have hfz27_1 := blk_frozen BK108.out 1
                                have hfz27_2 := blk_frozen BK108.out 2
                                have p110 : 0 ≤ (x3_2 : Int) := of_decide_eq_true (by first | (with_reducible assumption) | assumption)
                                have q110 : x3_2 < (l0_2.length : Int) := of_decide_eq_true (by first | (with_reducible assumption) | assumption)
                                obtain ⟨ad110, A110_0, c110_0, e110, hx110_0, hl110_0, hi110_0⟩ := at_L6 HR0_2.out x3_2 p110 q110
                                obtain rfl : ad109 = ad110 := (by injection e110)
                                replace hx110_0 := (HB.out.cell (World.block_lt_of_cell? w _ hx110_0)).trans hx110_0
                                try (have ea_ := Option.some.inj (hx109_0.symm.trans hx110_0); injection ea_ with ea_ en_ ec_; subst ea_; subst ec_; clear en_)
                                have HR110_0 := Aside0.mk hi110_0
                                have HC110_0 := Aside0.mk hl110_0
                                clear hi110_0 hl110_0
                                replace p110 := eq_true p110
                                replace q110 := eq_true q110
                                have p111 : 0 ≤ (x3_2 : Int) := of_decide_eq_true (by first | (with_reducible assumption) | assumption)
                                have q111 : x3_2 < (l0_2.length : Int) := of_decide_eq_true (by first | (with_reducible assumption) | assumption)
                                obtain ⟨ad111, A111_0, c111_0, e111, hx111_0, hl111_0, hi111_0⟩ := at_L6 HR0_2.out x3_2 p111 q111
                                obtain rfl : ad109 = ad111 := (by injection e111)
                                replace hx111_0 := (HB.out.cell (World.block_lt_of_cell? w _ hx111_0)).trans hx111_0
                                have HR111_0 := Aside0.mk hi111_0
                                have HC111_0 := Aside0.mk hl111_0
                                clear hi111_0 hl111_0
                                replace p111 := eq_true p111
                                replace q111 := eq_true q111
                                have ea_ := Option.some.inj (hx110_0.symm.trans hx111_0)
                                injection ea_ with ea_ en_ ec_
                                subst ea_
                                subst ec_
                                clear en_
                                have p112 : 0 ≤ (x4_3 : Int) := of_decide_eq_true (by first | (with_reducible assumption) | assumption)
                                have q112 : x4_3 < ((rd_L6 l0_2 x3_2).length : Int) := of_decide_eq_true (by first | (with_reducible assumption) | assumption)
                                obtain ⟨ad112, A112_0, c112_0, e112, hx112_0, hl112_0, hi112_0⟩ := at_L5 HR111_0.out x4_3 p112 q112
                                cases e112
                                replace hx112_0 := (HB.out.cell (World.block_lt_of_cell? w _ hx112_0)).trans hx112_0
                                have HR112_0 := Aside0.mk hi112_0
                                have HC112_0 := Aside0.mk hl112_0
                                clear hi112_0 hl112_0
                                replace p112 := eq_true p112
                                replace q112 := eq_true q112
                                go_wp2
                                go_loopg [5] k3 (fun kq v5 w' => ∃ (x5_4 : Int), v5 = .int .i64 x5_4 ∧ Aside0 (spec_TxOK.l2 kq x3_2 x4_3 x5_4 l0_0 a0_1 l0_2 = some r) ∧ Aside0 (kq ≤ k3) ∧ Aside0 (w'.heap[gb108]? = some (.cells #[(.slice A0_0 l0_0.length c0_0), .int .i64 a0_1, (.slice (some ad109) l0_2.length c0_2)] 30 (0, 0))) ∧ Aside0 (Below w.heap.size w w'))
                                case atStart => exact ⟨(0), (by first | rfl | (simp; done) | (simp [*]; done)), H', ⟨Nat.le_refl _⟩, ⟨by (with_reducible repeat (first | refine blk_drewN ?_ _ | refine blk_drew ?_ | refine blk_alloc ?_ _)); exact BK108.out⟩, ⟨by repeat (first | (with_reducible first | exact HB.out | apply below_alloc | apply pw_below_drewN | apply below_drew1 | refine below_set ?_ GE108.out) | exact HB.out)⟩⟩
                                case round =>
                                  clear H'
                                  try clear c1
                                  try clear p1
                                  try clear q1
                                  try clear hx1
                                  try clear c2
                                  try clear p2
                                  try clear c4
                                  try clear c4b0
                                  try clear c4b1
                                  try clear c6
                                  try clear c6b0
                                  try clear c6b1
                                  try clear c8
                                  try clear c8b0
                                  try clear c8b1
                                  try clear c9
                                  try clear c10
                                  try clear c10b0
                                  try clear c10b1
                                  try clear p10
                                  try clear q10
                                  try clear hx10
                                  try clear c11
                                  try clear p11
                                  try clear q11
                                  try clear hx11
                                  try clear c12
                                  try clear c12b0
                                  try clear c15
                                  try clear c16
                                  try clear c16b0
                                  try clear c17
                                  try clear c17b0
                                  try clear c18
                                  try clear c18b0
                                  try clear c18b1
                                  try clear c21
                                  try clear c21b0
                                  try clear c22
                                  try clear c22b0
                                  try clear c23
                                  try clear c23b0
                                  try clear c24
                                  try clear c24b0
                                  try clear c25
                                  try clear c25b0
                                  try clear c25b1
                                  try clear hcz11_0
                                  try clear hcz11_1
                                  try clear hcz11_2
                                  try clear hcz13_0
                                  try clear hcz13_1
                                  try clear hcz13_2
                                  try clear hcz14_0
                                  try clear hcz14_1
                                  try clear hcz14_2
                                  try clear hcz19_0
                                  try clear hcz19_1
                                  try clear hcz19_2
                                  try clear hcz20_0
                                  try clear hcz20_1
                                  try clear hcz20_2
                                  try clear hcz26_0
                                  try clear hcz26_1
                                  try clear hcz26_2
                                  try clear hcz27_0
                                  try clear hcz27_1
                                  try clear hcz27_2
                                  try clear hcz5_0
                                  try clear hcz5_1
                                  try clear hcz5_2
                                  try clear hcz7_0
                                  try clear hcz7_1
                                  try clear hcz7_2
                                  try clear hcz9_0
                                  try clear hcz9_1
                                  try clear hcz9_2
                                  try clear hfz11_0
                                  try clear hfz11_1
                                  try clear hfz11_2
                                  try clear hfz13_0
                                  try clear hfz13_1
                                  try clear hfz13_2
                                  try clear hfz14_0
                                  try clear hfz14_1
                                  try clear hfz14_2
                                  try clear hfz19_0
                                  try clear hfz19_1
                                  try clear hfz19_2
                                  try clear hfz20_0
                                  try clear hfz20_1
                                  try clear hfz20_2
                                  try clear hfz26_0
                                  try clear hfz26_1
                                  try clear hfz26_2
                                  try clear hfz27_0
                                  try clear hfz27_1
                                  try clear hfz27_2
                                  try clear hfz5_0
                                  try clear hfz5_1
                                  try clear hfz5_2
                                  try clear hfz7_0
                                  try clear hfz7_1
                                  try clear hfz7_2
                                  try clear hfz9_0
                                  try clear hfz9_1
                                  try clear hfz9_2
                                  try clear hx109_0
                                  try clear hx110_0
                                  try clear hx111_0
                                  try clear hx112_0
                                  try clear p1
                                  try clear p10
                                  try clear p109
                                  try clear p110
                                  try clear p111
                                  try clear p112
                                  try clear p2
                                  try clear q1
                                  try clear q10
                                  try clear q109
                                  try clear q110
                                  try clear q111
                                  try clear q112
                                  obtain ⟨x5_4, rfl, HA, HK4, BK108, HB⟩ := hrel
                                  cases gk with
                                  | zero => exact absurd HA.out (by simp [spec_TxOK.l2])
                                  | succ k4 =>
                                    have H := HA.out
                                    clear HA
                                    simp only [spec_TxOK.l2] at H
                                    by_cases c28 : 0 ≤ x3_2
                                    · rw [if_pos c28] at H
                                      have c28b0 : decide (0 ≤ x3_2) = true := decide_eq_true c28
                                      clear c28
                                      by_cases c29 : x3_2 < (l0_2.length : Int)
                                      · rw [if_pos c29] at H
                                        have c29b0 : decide (x3_2 < (l0_2.length : Int)) = true := decide_eq_true c29
                                        clear c29
                                        by_cases c30 : 0 ≤ x4_3
                                        · rw [if_pos c30] at H
                                          have c30b0 : decide (0 ≤ x4_3) = true := decide_eq_true c30
                                          clear c30
                                          by_cases c31 : x4_3 < ((rd_L6 l0_2 x3_2).length : Int)
                                          · rw [if_pos c31] at H
                                            have c31b0 : decide (x4_3 < ((rd_L6 l0_2 x3_2).length : Int)) = true := decide_eq_true c31
                                            clear c31
                                            by_cases c32 : x5_4 < ((rd_L5 (rd_L6 l0_2 x3_2) x4_3).length : Int)
                                            · rw [if_pos c32] at H
                                              have c32b0 : decide (x5_4 < ((rd_L5 (rd_L6 l0_2 x3_2) x4_3).length : Int)) = true := decide_eq_true c32
                                              clear c32
                                              by_cases c33 : 0 ≤ x5_4
                                              · rw [if_pos c33] at H
                                                have c33b0 : decide (0 ≤ x5_4) = true := decide_eq_true c33
                                                clear c33
                                                by_cases c34 : ((rd_T63 (rd_L5 (rd_L6 l0_2 x3_2) x4_3) x5_4).f0) < 1
                                                · rw [if_pos c34] at H
                                                  have c34b0 : decide (((rd_T63 (rd_L5 (rd_L6 l0_2 x3_2) x4_3) x5_4).f0) < 1) = true := decide_eq_true c34
                                                  clear c34
                                                  obtain rfl := Option.some.inj H
                                                  have hcz35_0 : wr.cell? ⟨gb108, 0, none⟩ = some (.slice A0_0 l0_0.length c0_0) := (blk_cell BK108.out 0).trans rfl
                                                  have hcz35_1 : wr.cell? ⟨gb108, 1, none⟩ = some (.int .i64 a0_1) := (blk_cell BK108.out 1).trans rfl
                                                  have hcz35_2 : wr.cell? ⟨gb108, 2, none⟩ = some (.slice (some ad109) l0_2.length c0_2) := (blk_cell BK108.out 2).trans rfl
                                                  have hfz35_0 := blk_frozen BK108.out 0
                                                  have hfz35_1 := blk_frozen BK108.out 1
                                                  have hfz35_2 := blk_frozen BK108.out 2
                                                  have p113 : 0 ≤ (x3_2 : Int) := of_decide_eq_true (by first | (with_reducible assumption) | assumption)
                                                  have q113 : x3_2 < (l0_2.length : Int) := of_decide_eq_true (by first | (with_reducible assumption) | assumption)
                                                  obtain ⟨ad113, A113_0, c113_0, e113, hx113_0, hl113_0, hi113_0⟩ := at_L6 HR0_2.out x3_2 p113 q113
                                                  obtain rfl : ad109 = ad113 := (by injection e113)
                                                  replace hx113_0 := (HB.out.cell (World.block_lt_of_cell? w _ hx113_0)).trans hx113_0
                                                  try (have ea_ := Option.some.inj (hx111_0.symm.trans hx113_0); injection ea_ with ea_ en_ ec_; subst ea_; subst ec_; clear en_)
                                                  have HR113_0 := Aside0.mk hi113_0
                                                  have HC113_0 := Aside0.mk hl113_0
                                                  clear hi113_0 hl113_0
                                                  replace p113 := eq_true p113
                                                  replace q113 := eq_true q113
                                                  have p114 : 0 ≤ (x4_3 : Int) := of_decide_eq_true (by first | (with_reducible assumption) | assumption)
                                                  have q114 : x4_3 < ((rd_L6 l0_2 x3_2).length : Int) := of_decide_eq_true (by first | (with_reducible assumption) | assumption)
                                                  obtain ⟨ad114, A114_0, c114_0, e114, hx114_0, hl114_0, hi114_0⟩ := at_L5 HR113_0.out x4_3 p114 q114
                                                  cases e114
                                                  replace hx114_0 := (HB.out.cell (World.block_lt_of_cell? w _ hx114_0)).trans hx114_0
                                                  try (have ea_ := Option.some.inj (hx112_0.symm.trans hx114_0); injection ea_ with ea_ en_ ec_; subst ea_; subst ec_; clear en_)
                                                  have HR114_0 := Aside0.mk hi114_0
                                                  have HC114_0 := Aside0.mk hl114_0
                                                  clear hi114_0 hl114_0
                                                  replace p114 := eq_true p114
                                                  replace q114 := eq_true q114
                                                  have p115 : 0 ≤ (x3_2 : Int) := of_decide_eq_true (by first | (with_reducible assumption) | assumption)
                                                  have q115 : x3_2 < (l0_2.length : Int) := of_decide_eq_true (by first | (with_reducible assumption) | assumption)
                                                  obtain ⟨ad115, A115_0, c115_0, e115, hx115_0, hl115_0, hi115_0⟩ := at_L6 HR0_2.out x3_2 p115 q115
                                                  obtain rfl : ad109 = ad115 := (by injection e115)
                                                  replace hx115_0 := (HB.out.cell (World.block_lt_of_cell? w _ hx115_0)).trans hx115_0
                                                  have HR115_0 := Aside0.mk hi115_0
                                                  have HC115_0 := Aside0.mk hl115_0
                                                  clear hi115_0 hl115_0
                                                  replace p115 := eq_true p115
                                                  replace q115 := eq_true q115
                                                  have ea_ := Option.some.inj (hx113_0.symm.trans hx115_0)
                                                  injection ea_ with ea_ en_ ec_
                                                  subst ea_
                                                  subst ec_
                                                  clear en_
                                                  have p116 : 0 ≤ (x4_3 : Int) := of_decide_eq_true (by first | (with_reducible assumption) | assumption)
                                                  have q116 : x4_3 < ((rd_L6 l0_2 x3_2).length : Int) := of_decide_eq_true (by first | (with_reducible assumption) | assumption)
                                                  obtain ⟨ad116, A116_0, c116_0, e116, hx116_0, hl116_0, hi116_0⟩ := at_L5 HR115_0.out x4_3 p116 q116
                                                  cases e116
                                                  replace hx116_0 := (HB.out.cell (World.block_lt_of_cell? w _ hx116_0)).trans hx116_0
                                                  try (have ea_ := Option.some.inj (hx114_0.symm.trans hx116_0); injection ea_ with ea_ en_ ec_; subst ea_; subst ec_; clear en_)
                                                  have HR116_0 := Aside0.mk hi116_0
                                                  have HC116_0 := Aside0.mk hl116_0
                                                  clear hi116_0 hl116_0
                                                  replace p116 := eq_true p116
                                                  replace q116 := eq_true q116
                                                  have p117 : 0 ≤ (x5_4 : Int) := of_decide_eq_true (by first | (with_reducible assumption) | assumption)
                                                  have q117 : x5_4 < ((rd_L5 (rd_L6 l0_2 x3_2) x4_3).length : Int) := of_decide_eq_true (by first | (with_reducible assumption) | assumption)
                                                  obtain ⟨ad117, e117, hx117_0, hx117_1, hx117_2⟩ := at_T63 HR116_0.out x5_4 p117 q117
                                                  cases e117
                                                  replace hx117_0 := (HB.out.cell (World.block_lt_of_cell? w _ hx117_0)).trans hx117_0
                                                  replace hx117_1 := (HB.out.cell (World.block_lt_of_cell? w _ hx117_1)).trans hx117_1
                                                  replace hx117_2 := (HB.out.cell (World.block_lt_of_cell? w _ hx117_2)).trans hx117_2
                                                  replace p117 := eq_true p117
                                                  replace q117 := eq_true q117
                                                  go_wp2_with (first | ((with_reducible refine gate_dst (N := 6) rfl ?_); (try (refine gate_guard (by rfl) ?_; dsimp only)); refine box_event ?hg (N := 6) ?hd (cs := #[.int .i64 0, .int .i64 0, .int .i64 0]) (t := 63) ?hr ?_; (case hd => rfl); (case hg => rfl); (case hr => first | (go_simp; done) | (go_simp; rfl)); intro gb118 hg w36 hbox hb; have n0_ := Aside0.mk (blk_below (g := gb108) (o := .cells #[.slice A0_0 l0_0.length c0_0, .int .i64 a0_1, .slice (some ad109) l0_2.length c0_2] 30 (0, 0)) (by (with_reducible repeat (first | refine blk_drewN ?_ _ | refine blk_drew ?_ | refine blk_alloc ?_ _)); exact BK108.out) hb); have n1_ := Aside0.mk (below_step (by repeat (first | (with_reducible first | exact HB.out | apply below_alloc | apply pw_below_drewN | apply below_drew1 | refine below_set ?_ GE108.out) | exact HB.out)) hb); have n2_ := Aside0.mk (hbox); have n3_ := Aside0.mk ((by rw [hg]; exact (below_size (by repeat (first | (with_reducible first | exact HB.out | apply below_alloc | apply pw_below_drewN | apply below_drew1 | refine below_set ?_ GE108.out) | exact HB.out))) : w.heap.size ≤ gb118)); have n4_ := Aside0.mk ((by rw [hg]; exact (below_size (by repeat (first | (with_reducible first | exact HB.out | apply below_alloc | apply pw_below_drewN | apply below_drew1 | refine below_set ?_ GE108.out) | exact HB.out))) : w.heap.size ≤ gb118)); have n5_ := Aside0.mk ((by rw [hg]; exact Nat.ne_of_lt (blk_lt (g := gb108) (o := .cells #[.slice A0_0 l0_0.length c0_0, .int .i64 a0_1, .slice (some ad109) l0_2.length c0_2] 30 (0, 0)) (by (with_reducible repeat (first | refine blk_drewN ?_ _ | refine blk_drew ?_ | refine blk_alloc ?_ _)); exact BK108.out)) : gb108 ≠ gb118)); have n6_ := Aside0.mk ((by rw [hg]; exact Nat.ne_of_gt (blk_lt (g := gb108) (o := .cells #[.slice A0_0 l0_0.length c0_0, .int .i64 a0_1, .slice (some ad109) l0_2.length c0_2] 30 (0, 0)) (by (with_reducible repeat (first | refine blk_drewN ?_ _ | refine blk_drew ?_ | refine blk_alloc ?_ _)); exact BK108.out)) : gb118 ≠ gb108)); clear BK108; clear HB; have BK108 := n0_; have HB := n1_; have BK118 := n2_; have GW118 := n3_; have GE118 := n4_; have NB108_118 := n5_; have NB118_108 := n6_; clear n0_ n1_ n2_ n3_ n4_ n5_ n6_; clear hb hbox hg; have hnb37 := NB118_108.out; have hnc37 := NB108_118.out; have hcz38_0 : w36.cell? ⟨gb118, 0, none⟩ = some (.int .i64 0) := (blk_cell BK118.out 0).trans rfl; have hcz38_1 : w36.cell? ⟨gb118, 1, none⟩ = some (.int .i64 0) := (blk_cell BK118.out 1).trans rfl; have hcz38_2 : w36.cell? ⟨gb118, 2, none⟩ = some (.int .i64 0) := (blk_cell BK118.out 2).trans rfl; have hfz38_0 := blk_frozen BK118.out 0; have hfz38_1 := blk_frozen BK118.out 1; have hfz38_2 := blk_frozen BK118.out 2))
                                                  go_ret
                                                  exact ⟨by first | rfl | (simp [errW_none, errW_some] <;> rfl) | (simp [*, errW_none, errW_some] <;> rfl), by repeat (first | (with_reducible first | exact HB.out | apply below_alloc | apply pw_below_drewN | apply below_drew1 | refine below_set ?_ GE108.out | refine below_set ?_ GE118.out) | exact HB.out)⟩
                                                · rw [if_neg c34] at H
                                                  have c34b0 : decide (((rd_T63 (rd_L5 (rd_L6 l0_2 x3_2) x4_3) x5_4).f0) < 1) = false := decide_eq_false c34
                                                  clear c34
                                                  by_cases c39 : ((rd_T63 (rd_L5 (rd_L6 l0_2 x3_2) x4_3) x5_4).f0) > 3
                                                  · rw [if_pos c39] at H
                                                    have c39b0 : decide (3 < ((rd_T63 (rd_L5 (rd_L6 l0_2 x3_2) x4_3) x5_4).f0)) = true := decide_eq_true c39
                                                    clear c39
                                                    obtain rfl := Option.some.inj H
                                                    have hcz40_0 : wr.cell? ⟨gb108, 0, none⟩ = some (.slice A0_0 l0_0.length c0_0) := (blk_cell BK108.out 0).trans rfl
                                                    have hcz40_1 : wr.cell? ⟨gb108, 1, none⟩ = some (.int .i64 a0_1) := (blk_cell BK108.out 1).trans rfl
                                                    have hcz40_2 : wr.cell? ⟨gb108, 2, none⟩ = some (.slice (some ad109) l0_2.length c0_2) := (blk_cell BK108.out 2).trans rfl
                                                    have hfz40_0 := blk_frozen BK108.out 0
                                                    have hfz40_1 := blk_frozen BK108.out 1
                                                    have hfz40_2 := blk_frozen BK108.out 2
                                                    have p113 : 0 ≤ (x3_2 : Int) := of_decide_eq_true (by first | (with_reducible assumption) | assumption)
                                                    have q113 : x3_2 < (l0_2.length : Int) := of_decide_eq_true (by first | (with_reducible assumption) | assumption)
                                                    obtain ⟨ad113, A113_0, c113_0, e113, hx113_0, hl113_0, hi113_0⟩ := at_L6 HR0_2.out x3_2 p113 q113
                                                    obtain rfl : ad109 = ad113 := (by injection e113)
                                                    replace hx113_0 := (HB.out.cell (World.block_lt_of_cell? w _ hx113_0)).trans hx113_0
                                                    try (have ea_ := Option.some.inj (hx111_0.symm.trans hx113_0); injection ea_ with ea_ en_ ec_; subst ea_; subst ec_; clear en_)
                                                    have HR113_0 := Aside0.mk hi113_0
                                                    have HC113_0 := Aside0.mk hl113_0
                                                    clear hi113_0 hl113_0
                                                    replace p113 := eq_true p113
                                                    replace q113 := eq_true q113
                                                    have p114 : 0 ≤ (x4_3 : Int) := of_decide_eq_true (by first | (with_reducible assumption) | assumption)
                                                    have q114 : x4_3 < ((rd_L6 l0_2 x3_2).length : Int) := of_decide_eq_true (by first | (with_reducible assumption) | assumption)
                                                    obtain ⟨ad114, A114_0, c114_0, e114, hx114_0, hl114_0, hi114_0⟩ := at_L5 HR113_0.out x4_3 p114 q114
                                                    cases e114
                                                    replace hx114_0 := (HB.out.cell (World.block_lt_of_cell? w _ hx114_0)).trans hx114_0
                                                    try (have ea_ := Option.some.inj (hx112_0.symm.trans hx114_0); injection ea_ with ea_ en_ ec_; subst ea_; subst ec_; clear en_)
                                                    have HR114_0 := Aside0.mk hi114_0
                                                    have HC114_0 := Aside0.mk hl114_0
                                                    clear hi114_0 hl114_0
                                                    replace p114 := eq_true p114
                                                    replace q114 := eq_true q114
                                                    have p115 : 0 ≤ (x3_2 : Int) := of_decide_eq_true (by first | (with_reducible assumption) | assumption)
                                                    have q115 : x3_2 < (l0_2.length : Int) := of_decide_eq_true (by first | (with_reducible assumption) | assumption)
                                                    obtain ⟨ad115, A115_0, c115_0, e115, hx115_0, hl115_0, hi115_0⟩ := at_L6 HR0_2.out x3_2 p115 q115
                                                    obtain rfl : ad109 = ad115 := (by injection e115)
                                                    replace hx115_0 := (HB.out.cell (World.block_lt_of_cell? w _ hx115_0)).trans hx115_0
                                                    have HR115_0 := Aside0.mk hi115_0
                                                    have HC115_0 := Aside0.mk hl115_0
                                                    clear hi115_0 hl115_0
                                                    replace p115 := eq_true p115
                                                    replace q115 := eq_true q115
                                                    have ea_ := Option.some.inj (hx113_0.symm.trans hx115_0)
                                                    injection ea_ with ea_ en_ ec_
                                                    subst ea_
                                                    subst ec_
                                                    clear en_
                                                    have p116 : 0 ≤ (x4_3 : Int) := of_decide_eq_true (by first | (with_reducible assumption) | assumption)
                                                    have q116 : x4_3 < ((rd_L6 l0_2 x3_2).length : Int) := of_decide_eq_true (by first | (with_reducible assumption) | assumption)
                                                    obtain ⟨ad116, A116_0, c116_0, e116, hx116_0, hl116_0, hi116_0⟩ := at_L5 HR115_0.out x4_3 p116 q116
                                                    cases e116
                                                    replace hx116_0 := (HB.out.cell (World.block_lt_of_cell? w _ hx116_0)).trans hx116_0
                                                    try (have ea_ := Option.some.inj (hx114_0.symm.trans hx116_0); injection ea_ with ea_ en_ ec_; subst ea_; subst ec_; clear en_)
                                                    have HR116_0 := Aside0.mk hi116_0
                                                    have HC116_0 := Aside0.mk hl116_0
                                                    clear hi116_0 hl116_0
                                                    replace p116 := eq_true p116
                                                    replace q116 := eq_true q116
                                                    have p117 : 0 ≤ (x5_4 : Int) := of_decide_eq_true (by first | (with_reducible assumption) | assumption)
                                                    have q117 : x5_4 < ((rd_L5 (rd_L6 l0_2 x3_2) x4_3).length : Int) := of_decide_eq_true (by first | (with_reducible assumption) | assumption)
                                                    obtain ⟨ad117, e117, hx117_0, hx117_1, hx117_2⟩ := at_T63 HR116_0.out x5_4 p117 q117
                                                    cases e117
                                                    replace hx117_0 := (HB.out.cell (World.block_lt_of_cell? w _ hx117_0)).trans hx117_0
                                                    replace hx117_1 := (HB.out.cell (World.block_lt_of_cell? w _ hx117_1)).trans hx117_1
                                                    replace hx117_2 := (HB.out.cell (World.block_lt_of_cell? w _ hx117_2)).trans hx117_2
                                                    replace p117 := eq_true p117
                                                    replace q117 := eq_true q117
                                                    go_wp2_with (first | ((with_reducible refine gate_dst (N := 6) rfl ?_); (try (refine gate_guard (by rfl) ?_; dsimp only)); refine box_event ?hg (N := 6) ?hd (cs := #[.int .i64 0, .int .i64 0, .int .i64 0]) (t := 63) ?hr ?_; (case hd => rfl); (case hg => rfl); (case hr => first | (go_simp; done) | (go_simp; rfl)); intro gb118 hg w41 hbox hb; have n0_ := Aside0.mk (blk_below (g := gb108) (o := .cells #[.slice A0_0 l0_0.length c0_0, .int .i64 a0_1, .slice (some ad109) l0_2.length c0_2] 30 (0, 0)) (by (with_reducible repeat (first | refine blk_drewN ?_ _ | refine blk_drew ?_ | refine blk_alloc ?_ _)); exact BK108.out) hb); have n1_ := Aside0.mk (below_step (by repeat (first | (with_reducible first | exact HB.out | apply below_alloc | apply pw_below_drewN | apply below_drew1 | refine below_set ?_ GE108.out) | exact HB.out)) hb); have n2_ := Aside0.mk (hbox); have n3_ := Aside0.mk ((by rw [hg]; exact (below_size (by repeat (first | (with_reducible first | exact HB.out | apply below_alloc | apply pw_below_drewN | apply below_drew1 | refine below_set ?_ GE108.out) | exact HB.out))) : w.heap.size ≤ gb118)); have n4_ := Aside0.mk ((by rw [hg]; exact (below_size (by repeat (first | (with_reducible first | exact HB.out | apply below_alloc | apply pw_below_drewN | apply below_drew1 | refine below_set ?_ GE108.out) | exact HB.out))) : w.heap.size ≤ gb118)); have n5_ := Aside0.mk ((by rw [hg]; exact Nat.ne_of_lt (blk_lt (g := gb108) (o := .cells #[.slice A0_0 l0_0.length c0_0, .int .i64 a0_1, .slice (some ad109) l0_2.length c0_2] 30 (0, 0)) (by (with_reducible repeat (first | refine blk_drewN ?_ _ | refine blk_drew ?_ | refine blk_alloc ?_ _)); exact BK108.out)) : gb108 ≠ gb118)); have n6_ := Aside0.mk ((by rw [hg]; exact Nat.ne_of_gt (blk_lt (g := gb108) (o := .cells #[.slice A0_0 l0_0.length c0_0, .int .i64 a0_1, .slice (some ad109) l0_2.length c0_2] 30 (0, 0)) (by (with_reducible repeat (first | refine blk_drewN ?_ _ | refine blk_drew ?_ | refine blk_alloc ?_ _)); exact BK108.out)) : gb118 ≠ gb108)); clear BK108; clear HB; have BK108 := n0_; have HB := n1_; have BK118 := n2_; have GW118 := n3_; have GE118 := n4_; have NB108_118 := n5_; have NB118_108 := n6_; clear n0_ n1_ n2_ n3_ n4_ n5_ n6_; clear hb hbox hg; have hnb42 := NB118_108.out; have hnc42 := NB108_118.out; have hcz43_0 : w41.cell? ⟨gb118, 0, none⟩ = some (.int .i64 0) := (blk_cell BK118.out 0).trans rfl; have hcz43_1 : w41.cell? ⟨gb118, 1, none⟩ = some (.int .i64 0) := (blk_cell BK118.out 1).trans rfl; have hcz43_2 : w41.cell? ⟨gb118, 2, none⟩ = some (.int .i64 0) := (blk_cell BK118.out 2).trans rfl; have hfz43_0 := blk_frozen BK118.out 0; have hfz43_1 := blk_frozen BK118.out 1; have hfz43_2 := blk_frozen BK118.out 2))
                                                    go_ret
                                                    exact ⟨by first | rfl | (simp [errW_none, errW_some] <;> rfl) | (simp [*, errW_none, errW_some] <;> rfl), by repeat (first | (with_reducible first | exact HB.out | apply below_alloc | apply pw_below_drewN | apply below_drew1 | refine below_set ?_ GE108.out | refine below_set ?_ GE118.out) | exact HB.out)⟩
                                                  · rw [if_neg c39] at H
                                                    have c39b0 : decide (3 < ((rd_T63 (rd_L5 (rd_L6 l0_2 x3_2) x4_3) x5_4).f0)) = false := decide_eq_false c39
                                                    clear c39
                                                    by_cases c44 : ((rd_T63 (rd_L5 (rd_L6 l0_2 x3_2) x4_3) x5_4).f1) < 0
                                                    · rw [if_pos c44] at H
                                                      have c44b0 : decide (((rd_T63 (rd_L5 (rd_L6 l0_2 x3_2) x4_3) x5_4).f1) < 0) = true := decide_eq_true c44
                                                      clear c44
                                                      obtain rfl := Option.some.inj H
                                                      have hcz45_0 : wr.cell? ⟨gb108, 0, none⟩ = some (.slice A0_0 l0_0.length c0_0) := (blk_cell BK108.out 0).trans rfl
                                                      have hcz45_1 : wr.cell? ⟨gb108, 1, none⟩ = some (.int .i64 a0_1) := (blk_cell BK108.out 1).trans rfl
                                                      have hcz45_2 : wr.cell? ⟨gb108, 2, none⟩ = some (.slice (some ad109) l0_2.length c0_2) := (blk_cell BK108.out 2).trans rfl
                                                      have hfz45_0 := blk_frozen BK108.out 0
                                                      have hfz45_1 := blk_frozen BK108.out 1
                                                      have hfz45_2 := blk_frozen BK108.out 2
                                                      have p113 : 0 ≤ (x3_2 : Int) := of_decide_eq_true (by first | (with_reducible assumption) | assumption)
                                                      have q113 : x3_2 < (l0_2.length : Int) := of_decide_eq_true (by first | (with_reducible assumption) | assumption)
                                                      obtain ⟨ad113, A113_0, c113_0, e113, hx113_0, hl113_0, hi113_0⟩ := at_L6 HR0_2.out x3_2 p113 q113
                                                      obtain rfl : ad109 = ad113 := (by injection e113)
                                                      replace hx113_0 := (HB.out.cell (World.block_lt_of_cell? w _ hx113_0)).trans hx113_0
                                                      try (have ea_ := Option.some.inj (hx111_0.symm.trans hx113_0); injection ea_ with ea_ en_ ec_; subst ea_; subst ec_; clear en_)
                                                      have HR113_0 := Aside0.mk hi113_0
                                                      have HC113_0 := Aside0.mk hl113_0
                                                      clear hi113_0 hl113_0
                                                      replace p113 := eq_true p113
                                                      replace q113 := eq_true q113
                                                      have p114 : 0 ≤ (x4_3 : Int) := of_decide_eq_true (by first | (with_reducible assumption) | assumption)
                                                      have q114 : x4_3 < ((rd_L6 l0_2 x3_2).length : Int) := of_decide_eq_true (by first | (with_reducible assumption) | assumption)
                                                      obtain ⟨ad114, A114_0, c114_0, e114, hx114_0, hl114_0, hi114_0⟩ := at_L5 HR113_0.out x4_3 p114 q114
                                                      cases e114
                                                      replace hx114_0 := (HB.out.cell (World.block_lt_of_cell? w _ hx114_0)).trans hx114_0
                                                      try (have ea_ := Option.some.inj (hx112_0.symm.trans hx114_0); injection ea_ with ea_ en_ ec_; subst ea_; subst ec_; clear en_)
                                                      have HR114_0 := Aside0.mk hi114_0
                                                      have HC114_0 := Aside0.mk hl114_0
                                                      clear hi114_0 hl114_0
                                                      replace p114 := eq_true p114
                                                      replace q114 := eq_true q114
                                                      have p115 : 0 ≤ (x3_2 : Int) := of_decide_eq_true (by first | (with_reducible assumption) | assumption)
                                                      have q115 : x3_2 < (l0_2.length : Int) := of_decide_eq_true (by first | (with_reducible assumption) | assumption)
                                                      obtain ⟨ad115, A115_0, c115_0, e115, hx115_0, hl115_0, hi115_0⟩ := at_L6 HR0_2.out x3_2 p115 q115
                                                      obtain rfl : ad109 = ad115 := (by injection e115)
                                                      replace hx115_0 := (HB.out.cell (World.block_lt_of_cell? w _ hx115_0)).trans hx115_0
                                                      have HR115_0 := Aside0.mk hi115_0
                                                      have HC115_0 := Aside0.mk hl115_0
                                                      clear hi115_0 hl115_0
                                                      replace p115 := eq_true p115
                                                      replace q115 := eq_true q115
                                                      have ea_ := Option.some.inj (hx113_0.symm.trans hx115_0)
                                                      injection ea_ with ea_ en_ ec_
                                                      subst ea_
                                                      subst ec_
                                                      clear en_
                                                      have p116 : 0 ≤ (x4_3 : Int) := of_decide_eq_true (by first | (with_reducible assumption) | assumption)
                                                      have q116 : x4_3 < ((rd_L6 l0_2 x3_2).length : Int) := of_decide_eq_true (by first | (with_reducible assumption) | assumption)
                                                      obtain ⟨ad116, A116_0, c116_0, e116, hx116_0, hl116_0, hi116_0⟩ := at_L5 HR115_0.out x4_3 p116 q116
                                                      cases e116
                                                      replace hx116_0 := (HB.out.cell (World.block_lt_of_cell? w _ hx116_0)).trans hx116_0
                                                      try (have ea_ := Option.some.inj (hx114_0.symm.trans hx116_0); injection ea_ with ea_ en_ ec_; subst ea_; subst ec_; clear en_)
                                                      have HR116_0 := Aside0.mk hi116_0
                                                      have HC116_0 := Aside0.mk hl116_0
                                                      clear hi116_0 hl116_0
                                                      replace p116 := eq_true p116
                                                      replace q116 := eq_true q116
                                                      have p117 : 0 ≤ (x5_4 : Int) := of_decide_eq_true (by first | (with_reducible assumption) | assumption)
                                                      have q117 : x5_4 < ((rd_L5 (rd_L6 l0_2 x3_2) x4_3).length : Int) := of_decide_eq_true (by first | (with_reducible assumption) | assumption)
                                                      obtain ⟨ad117, e117, hx117_0, hx117_1, hx117_2⟩ := at_T63 HR116_0.out x5_4 p117 q117
                                                      cases e117
                                                      replace hx117_0 := (HB.out.cell (World.block_lt_of_cell? w _ hx117_0)).trans hx117_0
                                                      replace hx117_1 := (HB.out.cell (World.block_lt_of_cell? w _ hx117_1)).trans hx117_1
                                                      replace hx117_2 := (HB.out.cell (World.block_lt_of_cell? w _ hx117_2)).trans hx117_2
                                                      replace p117 := eq_true p117
                                                      replace q117 := eq_true q117
                                                      go_wp2_with (first | ((with_reducible refine gate_dst (N := 6) rfl ?_); (try (refine gate_guard (by rfl) ?_; dsimp only)); refine box_event ?hg (N := 6) ?hd (cs := #[.int .i64 0, .int .i64 0, .int .i64 0]) (t := 63) ?hr ?_; (case hd => rfl); (case hg => rfl); (case hr => first | (go_simp; done) | (go_simp; rfl)); intro gb118 hg w46 hbox hb; have n0_ := Aside0.mk (blk_below (g := gb108) (o := .cells #[.slice A0_0 l0_0.length c0_0, .int .i64 a0_1, .slice (some ad109) l0_2.length c0_2] 30 (0, 0)) (by (with_reducible repeat (first | refine blk_drewN ?_ _ | refine blk_drew ?_ | refine blk_alloc ?_ _)); exact BK108.out) hb); have n1_ := Aside0.mk (below_step (by repeat (first | (with_reducible first | exact HB.out | apply below_alloc | apply pw_below_drewN | apply below_drew1 | refine below_set ?_ GE108.out) | exact HB.out)) hb); have n2_ := Aside0.mk (hbox); have n3_ := Aside0.mk ((by rw [hg]; exact (below_size (by repeat (first | (with_reducible first | exact HB.out | apply below_alloc | apply pw_below_drewN | apply below_drew1 | refine below_set ?_ GE108.out) | exact HB.out))) : w.heap.size ≤ gb118)); have n4_ := Aside0.mk ((by rw [hg]; exact (below_size (by repeat (first | (with_reducible first | exact HB.out | apply below_alloc | apply pw_below_drewN | apply below_drew1 | refine below_set ?_ GE108.out) | exact HB.out))) : w.heap.size ≤ gb118)); have n5_ := Aside0.mk ((by rw [hg]; exact Nat.ne_of_lt (blk_lt (g := gb108) (o := .cells #[.slice A0_0 l0_0.length c0_0, .int .i64 a0_1, .slice (some ad109) l0_2.length c0_2] 30 (0, 0)) (by (with_reducible repeat (first | refine blk_drewN ?_ _ | refine blk_drew ?_ | refine blk_alloc ?_ _)); exact BK108.out)) : gb108 ≠ gb118)); have n6_ := Aside0.mk ((by rw [hg]; exact Nat.ne_of_gt (blk_lt (g := gb108) (o := .cells #[.slice A0_0 l0_0.length c0_0, .int .i64 a0_1, .slice (some ad109) l0_2.length c0_2] 30 (0, 0)) (by (with_reducible repeat (first | refine blk_drewN ?_ _ | refine blk_drew ?_ | refine blk_alloc ?_ _)); exact BK108.out)) : gb118 ≠ gb108)); clear BK108; clear HB; have BK108 := n0_; have HB := n1_; have BK118 := n2_; have GW118 := n3_; have GE118 := n4_; have NB108_118 := n5_; have NB118_108 := n6_; clear n0_ n1_ n2_ n3_ n4_ n5_ n6_; clear hb hbox hg; have hnb47 := NB118_108.out; have hnc47 := NB108_118.out; have hcz48_0 : w46.cell? ⟨gb118, 0, none⟩ = some (.int .i64 0) := (blk_cell BK118.out 0).trans rfl; have hcz48_1 : w46.cell? ⟨gb118, 1, none⟩ = some (.int .i64 0) := (blk_cell BK118.out 1).trans rfl; have hcz48_2 : w46.cell? ⟨gb118, 2, none⟩ = some (.int .i64 0) := (blk_cell BK118.out 2).trans rfl; have hfz48_0 := blk_frozen BK118.out 0; have hfz48_1 := blk_frozen BK118.out 1; have hfz48_2 := blk_frozen BK118.out 2))
                                                      go_ret
                                                      exact ⟨by first | rfl | (simp [errW_none, errW_some] <;> rfl) | (simp [*, errW_none, errW_some] <;> rfl), by repeat (first | (with_reducible first | exact HB.out | apply below_alloc | apply pw_below_drewN | apply below_drew1 | refine below_set ?_ GE108.out | refine below_set ?_ GE118.out) | exact HB.out)⟩
                                                    · rw [if_neg c44] at H
                                                      have c44b0 : decide (((rd_T63 (rd_L5 (rd_L6 l0_2 x3_2) x4_3) x5_4).f1) < 0) = false := decide_eq_false c44
                                                      clear c44
                                                      by_cases c49 : ((rd_T63 (rd_L5 (rd_L6 l0_2 x3_2) x4_3) x5_4).f1) ≥ (l0_0.length : Int)
                                                      · rw [if_pos c49] at H
                                                        have c49b0 : decide ((l0_0.length : Int) ≤ ((rd_T63 (rd_L5 (rd_L6 l0_2 x3_2) x4_3) x5_4).f1)) = true := decide_eq_true c49
                                                        clear c49
                                                        obtain rfl := Option.some.inj H
                                                        have hcz50_0 : wr.cell? ⟨gb108, 0, none⟩ = some (.slice A0_0 l0_0.length c0_0) := (blk_cell BK108.out 0).trans rfl
                                                        have hcz50_1 : wr.cell? ⟨gb108, 1, none⟩ = some (.int .i64 a0_1) := (blk_cell BK108.out 1).trans rfl
                                                        have hcz50_2 : wr.cell? ⟨gb108, 2, none⟩ = some (.slice (some ad109) l0_2.length c0_2) := (blk_cell BK108.out 2).trans rfl
                                                        have hfz50_0 := blk_frozen BK108.out 0
                                                        have hfz50_1 := blk_frozen BK108.out 1
                                                        have hfz50_2 := blk_frozen BK108.out 2
                                                        have p113 : 0 ≤ (x3_2 : Int) := of_decide_eq_true (by first | (with_reducible assumption) | assumption)
                                                        have q113 : x3_2 < (l0_2.length : Int) := of_decide_eq_true (by first | (with_reducible assumption) | assumption)
                                                        obtain ⟨ad113, A113_0, c113_0, e113, hx113_0, hl113_0, hi113_0⟩ := at_L6 HR0_2.out x3_2 p113 q113
                                                        obtain rfl : ad109 = ad113 := (by injection e113)
                                                        replace hx113_0 := (HB.out.cell (World.block_lt_of_cell? w _ hx113_0)).trans hx113_0
                                                        try (have ea_ := Option.some.inj (hx111_0.symm.trans hx113_0); injection ea_ with ea_ en_ ec_; subst ea_; subst ec_; clear en_)
                                                        have HR113_0 := Aside0.mk hi113_0
                                                        have HC113_0 := Aside0.mk hl113_0
                                                        clear hi113_0 hl113_0
                                                        replace p113 := eq_true p113
                                                        replace q113 := eq_true q113
                                                        have p114 : 0 ≤ (x4_3 : Int) := of_decide_eq_true (by first | (with_reducible assumption) | assumption)
                                                        have q114 : x4_3 < ((rd_L6 l0_2 x3_2).length : Int) := of_decide_eq_true (by first | (with_reducible assumption) | assumption)
                                                        obtain ⟨ad114, A114_0, c114_0, e114, hx114_0, hl114_0, hi114_0⟩ := at_L5 HR113_0.out x4_3 p114 q114
                                                        cases e114
                                                        replace hx114_0 := (HB.out.cell (World.block_lt_of_cell? w _ hx114_0)).trans hx114_0
                                                        try (have ea_ := Option.some.inj (hx112_0.symm.trans hx114_0); injection ea_ with ea_ en_ ec_; subst ea_; subst ec_; clear en_)
                                                        have HR114_0 := Aside0.mk hi114_0
                                                        have HC114_0 := Aside0.mk hl114_0
                                                        clear hi114_0 hl114_0
                                                        replace p114 := eq_true p114
                                                        replace q114 := eq_true q114
                                                        have p115 : 0 ≤ (x3_2 : Int) := of_decide_eq_true (by first | (with_reducible assumption) | assumption)
                                                        have q115 : x3_2 < (l0_2.length : Int) := of_decide_eq_true (by first | (with_reducible assumption) | assumption)
                                                        obtain ⟨ad115, A115_0, c115_0, e115, hx115_0, hl115_0, hi115_0⟩ := at_L6 HR0_2.out x3_2 p115 q115
                                                        obtain rfl : ad109 = ad115 := (by injection e115)
                                                        replace hx115_0 := (HB.out.cell (World.block_lt_of_cell? w _ hx115_0)).trans hx115_0
                                                        have HR115_0 := Aside0.mk hi115_0
                                                        have HC115_0 := Aside0.mk hl115_0
                                                        clear hi115_0 hl115_0
                                                        replace p115 := eq_true p115
                                                        replace q115 := eq_true q115
                                                        have ea_ := Option.some.inj (hx113_0.symm.trans hx115_0)
                                                        injection ea_ with ea_ en_ ec_
                                                        subst ea_
                                                        subst ec_
                                                        clear en_
                                                        have p116 : 0 ≤ (x4_3 : Int) := of_decide_eq_true (by first | (with_reducible assumption) | assumption)
                                                        have q116 : x4_3 < ((rd_L6 l0_2 x3_2).length : Int) := of_decide_eq_true (by first | (with_reducible assumption) | assumption)
                                                        obtain ⟨ad116, A116_0, c116_0, e116, hx116_0, hl116_0, hi116_0⟩ := at_L5 HR115_0.out x4_3 p116 q116
                                                        cases e116
                                                        replace hx116_0 := (HB.out.cell (World.block_lt_of_cell? w _ hx116_0)).trans hx116_0
                                                        try (have ea_ := Option.some.inj (hx114_0.symm.trans hx116_0); injection ea_ with ea_ en_ ec_; subst ea_; subst ec_; clear en_)
                                                        have HR116_0 := Aside0.mk hi116_0
                                                        have HC116_0 := Aside0.mk hl116_0
                                                        clear hi116_0 hl116_0
                                                        replace p116 := eq_true p116
                                                        replace q116 := eq_true q116
                                                        have p117 : 0 ≤ (x5_4 : Int) := of_decide_eq_true (by first | (with_reducible assumption) | assumption)
                                                        have q117 : x5_4 < ((rd_L5 (rd_L6 l0_2 x3_2) x4_3).length : Int) := of_decide_eq_true (by first | (with_reducible assumption) | assumption)
                                                        obtain ⟨ad117, e117, hx117_0, hx117_1, hx117_2⟩ := at_T63 HR116_0.out x5_4 p117 q117
                                                        cases e117
                                                        replace hx117_0 := (HB.out.cell (World.block_lt_of_cell? w _ hx117_0)).trans hx117_0
                                                        replace hx117_1 := (HB.out.cell (World.block_lt_of_cell? w _ hx117_1)).trans hx117_1
                                                        replace hx117_2 := (HB.out.cell (World.block_lt_of_cell? w _ hx117_2)).trans hx117_2
                                                        replace p117 := eq_true p117
                                                        replace q117 := eq_true q117
                                                        go_wp2_with (first | ((with_reducible refine gate_dst (N := 6) rfl ?_); (try (refine gate_guard (by rfl) ?_; dsimp only)); refine box_event ?hg (N := 6) ?hd (cs := #[.int .i64 0, .int .i64 0, .int .i64 0]) (t := 63) ?hr ?_; (case hd => rfl); (case hg => rfl); (case hr => first | (go_simp; done) | (go_simp; rfl)); intro gb118 hg w51 hbox hb; have n0_ := Aside0.mk (blk_below (g := gb108) (o := .cells #[.slice A0_0 l0_0.length c0_0, .int .i64 a0_1, .slice (some ad109) l0_2.length c0_2] 30 (0, 0)) (by (with_reducible repeat (first | refine blk_drewN ?_ _ | refine blk_drew ?_ | refine blk_alloc ?_ _)); exact BK108.out) hb); have n1_ := Aside0.mk (below_step (by repeat (first | (with_reducible first | exact HB.out | apply below_alloc | apply pw_below_drewN | apply below_drew1 | refine below_set ?_ GE108.out) | exact HB.out)) hb); have n2_ := Aside0.mk (hbox); have n3_ := Aside0.mk ((by rw [hg]; exact (below_size (by repeat (first | (with_reducible first | exact HB.out | apply below_alloc | apply pw_below_drewN | apply below_drew1 | refine below_set ?_ GE108.out) | exact HB.out))) : w.heap.size ≤ gb118)); have n4_ := Aside0.mk ((by rw [hg]; exact (below_size (by repeat (first | (with_reducible first | exact HB.out | apply below_alloc | apply pw_below_drewN | apply below_drew1 | refine below_set ?_ GE108.out) | exact HB.out))) : w.heap.size ≤ gb118)); have n5_ := Aside0.mk ((by rw [hg]; exact Nat.ne_of_lt (blk_lt (g := gb108) (o := .cells #[.slice A0_0 l0_0.length c0_0, .int .i64 a0_1, .slice (some ad109) l0_2.length c0_2] 30 (0, 0)) (by (with_reducible repeat (first | refine blk_drewN ?_ _ | refine blk_drew ?_ | refine blk_alloc ?_ _)); exact BK108.out)) : gb108 ≠ gb118)); have n6_ := Aside0.mk ((by rw [hg]; exact Nat.ne_of_gt (blk_lt (g := gb108) (o := .cells #[.slice A0_0 l0_0.length c0_0, .int .i64 a0_1, .slice (some ad109) l0_2.length c0_2] 30 (0, 0)) (by (with_reducible repeat (first | refine blk_drewN ?_ _ | refine blk_drew ?_ | refine blk_alloc ?_ _)); exact BK108.out)) : gb118 ≠ gb108)); clear BK108; clear HB; have BK108 := n0_; have HB := n1_; have BK118 := n2_; have GW118 := n3_; have GE118 := n4_; have NB108_118 := n5_; have NB118_108 := n6_; clear n0_ n1_ n2_ n3_ n4_ n5_ n6_; clear hb hbox hg; have hnb52 := NB118_108.out; have hnc52 := NB108_118.out; have hcz53_0 : w51.cell? ⟨gb118, 0, none⟩ = some (.int .i64 0) := (blk_cell BK118.out 0).trans rfl; have hcz53_1 : w51.cell? ⟨gb118, 1, none⟩ = some (.int .i64 0) := (blk_cell BK118.out 1).trans rfl; have hcz53_2 : w51.cell? ⟨gb118, 2, none⟩ = some (.int .i64 0) := (blk_cell BK118.out 2).trans rfl; have hfz53_0 := blk_frozen BK118.out 0; have hfz53_1 := blk_frozen BK118.out 1; have hfz53_2 := blk_frozen BK118.out 2; have hcz54_0 : w51.cell? ⟨gb108, 0, none⟩ = some (.slice A0_0 l0_0.length c0_0) := (blk_cell BK108.out 0).trans rfl; have hcz54_1 : w51.cell? ⟨gb108, 1, none⟩ = some (.int .i64 a0_1) := (blk_cell BK108.out 1).trans rfl; have hcz54_2 : w51.cell? ⟨gb108, 2, none⟩ = some (.slice (some ad109) l0_2.length c0_2) := (blk_cell BK108.out 2).trans rfl; have hfz54_0 := blk_frozen BK108.out 0; have hfz54_1 := blk_frozen BK108.out 1; have hfz54_2 := blk_frozen BK108.out 2))
                                                        go_ret
                                                        exact ⟨by first | rfl | (simp [errW_none, errW_some] <;> rfl) | (simp [*, errW_none, errW_some] <;> rfl), by repeat (first | (with_reducible first | exact HB.out | apply below_alloc | apply pw_below_drewN | apply below_drew1 | refine below_set ?_ GE108.out | refine below_set ?_ GE118.out) | exact HB.out)⟩
                                                      · rw [if_neg c49] at H
                                                        have c49b0 : decide ((l0_0.length : Int) ≤ ((rd_T63 (rd_L5 (rd_L6 l0_2 x3_2) x4_3) x5_4).f1)) = false := decide_eq_false c49
                                                        clear c49
                                                        by_cases c55 : ((rd_T63 (rd_L5 (rd_L6 l0_2 x3_2) x4_3) x5_4).f0) = 1
                                                        · rw [if_pos c55] at H
                                                          have c55b0 : (((rd_T63 (rd_L5 (rd_L6 l0_2 x3_2) x4_3) x5_4).f0) == 1) = true := beq_iff_eq.mpr c55
                                                          have c55b1 : (((rd_T63 (rd_L5 (rd_L6 l0_2 x3_2) x4_3) x5_4).f0) != 1) = false := bne_eq_false_iff_eq.mpr c55
                                                          clear c55
                                                          by_cases c56 : ((rd_T63 (rd_L5 (rd_L6 l0_2 x3_2) x4_3) x5_4).f2) = 0
                                                          · rw [if_pos c56] at H
                                                            have c56b0 : (((rd_T63 (rd_L5 (rd_L6 l0_2 x3_2) x4_3) x5_4).f2) == 0) = true := beq_iff_eq.mpr c56
                                                            have c56b1 : (((rd_T63 (rd_L5 (rd_L6 l0_2 x3_2) x4_3) x5_4).f2) != 0) = false := bne_eq_false_iff_eq.mpr c56
                                                            clear c56
                                                            have H' := Aside0.mk H
                                                            clear H
                                                            have hcz57_0 : wr.cell? ⟨gb108, 0, none⟩ = some (.slice A0_0 l0_0.length c0_0) := (blk_cell BK108.out 0).trans rfl
                                                            have hcz57_1 : wr.cell? ⟨gb108, 1, none⟩ = some (.int .i64 a0_1) := (blk_cell BK108.out 1).trans rfl
                                                            have hcz57_2 : wr.cell? ⟨gb108, 2, none⟩ = some (.slice (some ad109) l0_2.length c0_2) := (blk_cell BK108.out 2).trans rfl
                                                            have hfz57_0 := blk_frozen BK108.out 0
                                                            have hfz57_1 := blk_frozen BK108.out 1
                                                            have hfz57_2 := blk_frozen BK108.out 2
                                                            have p113 : 0 ≤ (x3_2 : Int) := of_decide_eq_true (by first | (with_reducible assumption) | assumption)
                                                            have q113 : x3_2 < (l0_2.length : Int) := of_decide_eq_true (by first | (with_reducible assumption) | assumption)
                                                            obtain ⟨ad113, A113_0, c113_0, e113, hx113_0, hl113_0, hi113_0⟩ := at_L6 HR0_2.out x3_2 p113 q113
                                                            obtain rfl : ad109 = ad113 := (by injection e113)
                                                            replace hx113_0 := (HB.out.cell (World.block_lt_of_cell? w _ hx113_0)).trans hx113_0
                                                            try (have ea_ := Option.some.inj (hx111_0.symm.trans hx113_0); injection ea_ with ea_ en_ ec_; subst ea_; subst ec_; clear en_)
                                                            have HR113_0 := Aside0.mk hi113_0
                                                            have HC113_0 := Aside0.mk hl113_0
                                                            clear hi113_0 hl113_0
                                                            replace p113 := eq_true p113
                                                            replace q113 := eq_true q113
                                                            have p114 : 0 ≤ (x4_3 : Int) := of_decide_eq_true (by first | (with_reducible assumption) | assumption)
                                                            have q114 : x4_3 < ((rd_L6 l0_2 x3_2).length : Int) := of_decide_eq_true (by first | (with_reducible assumption) | assumption)
                                                            obtain ⟨ad114, A114_0, c114_0, e114, hx114_0, hl114_0, hi114_0⟩ := at_L5 HR113_0.out x4_3 p114 q114
                                                            cases e114
                                                            replace hx114_0 := (HB.out.cell (World.block_lt_of_cell? w _ hx114_0)).trans hx114_0
                                                            try (have ea_ := Option.some.inj (hx112_0.symm.trans hx114_0); injection ea_ with ea_ en_ ec_; subst ea_; subst ec_; clear en_)
                                                            have HR114_0 := Aside0.mk hi114_0
                                                            have HC114_0 := Aside0.mk hl114_0
                                                            clear hi114_0 hl114_0
                                                            replace p114 := eq_true p114
                                                            replace q114 := eq_true q114
                                                            have p115 : 0 ≤ (x3_2 : Int) := of_decide_eq_true (by first | (with_reducible assumption) | assumption)
                                                            have q115 : x3_2 < (l0_2.length : Int) := of_decide_eq_true (by first | (with_reducible assumption) | assumption)
                                                            obtain ⟨ad115, A115_0, c115_0, e115, hx115_0, hl115_0, hi115_0⟩ := at_L6 HR0_2.out x3_2 p115 q115
                                                            obtain rfl : ad109 = ad115 := (by injection e115)
                                                            replace hx115_0 := (HB.out.cell (World.block_lt_of_cell? w _ hx115_0)).trans hx115_0
                                                            have HR115_0 := Aside0.mk hi115_0
                                                            have HC115_0 := Aside0.mk hl115_0
                                                            clear hi115_0 hl115_0
                                                            replace p115 := eq_true p115
                                                            replace q115 := eq_true q115
                                                            have ea_ := Option.some.inj (hx113_0.symm.trans hx115_0)
                                                            injection ea_ with ea_ en_ ec_
                                                            subst ea_
                                                            subst ec_
                                                            clear en_
                                                            have p116 : 0 ≤ (x4_3 : Int) := of_decide_eq_true (by first | (with_reducible assumption) | assumption)
                                                            have q116 : x4_3 < ((rd_L6 l0_2 x3_2).length : Int) := of_decide_eq_true (by first | (with_reducible assumption) | assumption)
                                                            obtain ⟨ad116, A116_0, c116_0, e116, hx116_0, hl116_0, hi116_0⟩ := at_L5 HR115_0.out x4_3 p116 q116
                                                            cases e116
                                                            replace hx116_0 := (HB.out.cell (World.block_lt_of_cell? w _ hx116_0)).trans hx116_0
                                                            try (have ea_ := Option.some.inj (hx114_0.symm.trans hx116_0); injection ea_ with ea_ en_ ec_; subst ea_; subst ec_; clear en_)
                                                            have HR116_0 := Aside0.mk hi116_0
                                                            have HC116_0 := Aside0.mk hl116_0
                                                            clear hi116_0 hl116_0
                                                            replace p116 := eq_true p116
                                                            replace q116 := eq_true q116
                                                            have p117 : 0 ≤ (x5_4 : Int) := of_decide_eq_true (by first | (with_reducible assumption) | assumption)
                                                            have q117 : x5_4 < ((rd_L5 (rd_L6 l0_2 x3_2) x4_3).length : Int) := of_decide_eq_true (by first | (with_reducible assumption) | assumption)
                                                            obtain ⟨ad117, e117, hx117_0, hx117_1, hx117_2⟩ := at_T63 HR116_0.out x5_4 p117 q117
                                                            cases e117
                                                            replace hx117_0 := (HB.out.cell (World.block_lt_of_cell? w _ hx117_0)).trans hx117_0
                                                            replace hx117_1 := (HB.out.cell (World.block_lt_of_cell? w _ hx117_1)).trans hx117_1
                                                            replace hx117_2 := (HB.out.cell (World.block_lt_of_cell? w _ hx117_2)).trans hx117_2
                                                            replace p117 := eq_true p117
                                                            replace q117 := eq_true q117
                                                            go_wp2_with (first | ((with_reducible refine gate_dst (N := 6) rfl ?_); (try (refine gate_guard (by rfl) ?_; dsimp only)); refine box_event ?hg (N := 6) ?hd (cs := #[.int .i64 0, .int .i64 0, .int .i64 0]) (t := 63) ?hr ?_; (case hd => rfl); (case hg => rfl); (case hr => first | (go_simp; done) | (go_simp; rfl)); intro gb118 hg w58 hbox hb; have n0_ := Aside0.mk (blk_below (g := gb108) (o := .cells #[.slice A0_0 l0_0.length c0_0, .int .i64 a0_1, .slice (some ad109) l0_2.length c0_2] 30 (0, 0)) (by (with_reducible repeat (first | refine blk_drewN ?_ _ | refine blk_drew ?_ | refine blk_alloc ?_ _)); exact BK108.out) hb); have n1_ := Aside0.mk (below_step (by repeat (first | (with_reducible first | exact HB.out | apply below_alloc | apply pw_below_drewN | apply below_drew1 | refine below_set ?_ GE108.out) | exact HB.out)) hb); have n2_ := Aside0.mk (hbox); have n3_ := Aside0.mk ((by rw [hg]; exact (below_size (by repeat (first | (with_reducible first | exact HB.out | apply below_alloc | apply pw_below_drewN | apply below_drew1 | refine below_set ?_ GE108.out) | exact HB.out))) : w.heap.size ≤ gb118)); have n4_ := Aside0.mk ((by rw [hg]; exact (below_size (by repeat (first | (with_reducible first | exact HB.out | apply below_alloc | apply pw_below_drewN | apply below_drew1 | refine below_set ?_ GE108.out) | exact HB.out))) : w.heap.size ≤ gb118)); have n5_ := Aside0.mk ((by rw [hg]; exact Nat.ne_of_lt (blk_lt (g := gb108) (o := .cells #[.slice A0_0 l0_0.length c0_0, .int .i64 a0_1, .slice (some ad109) l0_2.length c0_2] 30 (0, 0)) (by (with_reducible repeat (first | refine blk_drewN ?_ _ | refine blk_drew ?_ | refine blk_alloc ?_ _)); exact BK108.out)) : gb108 ≠ gb118)); have n6_ := Aside0.mk ((by rw [hg]; exact Nat.ne_of_gt (blk_lt (g := gb108) (o := .cells #[.slice A0_0 l0_0.length c0_0, .int .i64 a0_1, .slice (some ad109) l0_2.length c0_2] 30 (0, 0)) (by (with_reducible repeat (first | refine blk_drewN ?_ _ | refine blk_drew ?_ | refine blk_alloc ?_ _)); exact BK108.out)) : gb118 ≠ gb108)); clear BK108; clear HB; have BK108 := n0_; have HB := n1_; have BK118 := n2_; have GW118 := n3_; have GE118 := n4_; have NB108_118 := n5_; have NB118_108 := n6_; clear n0_ n1_ n2_ n3_ n4_ n5_ n6_; clear hb hbox hg; have hnb59 := NB118_108.out; have hnc59 := NB108_118.out; have hcz60_0 : w58.cell? ⟨gb118, 0, none⟩ = some (.int .i64 0) := (blk_cell BK118.out 0).trans rfl; have hcz60_1 : w58.cell? ⟨gb118, 1, none⟩ = some (.int .i64 0) := (blk_cell BK118.out 1).trans rfl; have hcz60_2 : w58.cell? ⟨gb118, 2, none⟩ = some (.int .i64 0) := (blk_cell BK118.out 2).trans rfl; have hfz60_0 := blk_frozen BK118.out 0; have hfz60_1 := blk_frozen BK118.out 1; have hfz60_2 := blk_frozen BK118.out 2; have hcz61_0 : w58.cell? ⟨gb108, 0, none⟩ = some (.slice A0_0 l0_0.length c0_0) := (blk_cell BK108.out 0).trans rfl; have hcz61_1 : w58.cell? ⟨gb108, 1, none⟩ = some (.int .i64 a0_1) := (blk_cell BK108.out 1).trans rfl; have hcz61_2 : w58.cell? ⟨gb108, 2, none⟩ = some (.slice (some ad109) l0_2.length c0_2) := (blk_cell BK108.out 2).trans rfl; have hfz61_0 := blk_frozen BK108.out 0; have hfz61_1 := blk_frozen BK108.out 1; have hfz61_2 := blk_frozen BK108.out 2))
                                                            go_roundg k4
                                                            case measure => have := HJ1.out; have := HK2.out; have := HK3.out; have := HK4.out; omega
                                                            case rel => exact ⟨(wrap64 (x5_4 + 1)), (by first | rfl | (simp; done) | (simp [*]; done)), H', ⟨by have := HJ1.out; have := HK2.out; have := HK3.out; have := HK4.out; omega⟩, ⟨by (with_reducible repeat (first | refine blk_drewN ?_ _ | refine blk_drew ?_ | refine blk_alloc ?_ _)); refine blk_far ?_ NB108_118.out _; (with_reducible repeat (first | refine blk_drewN ?_ _ | refine blk_drew ?_ | refine blk_alloc ?_ _)); refine blk_far ?_ NB108_118.out _; (with_reducible repeat (first | refine blk_drewN ?_ _ | refine blk_drew ?_ | refine blk_alloc ?_ _)); refine blk_far ?_ NB108_118.out _; (with_reducible repeat (first | refine blk_drewN ?_ _ | refine blk_drew ?_ | refine blk_alloc ?_ _)); exact BK108.out⟩, ⟨by repeat (first | (with_reducible first | exact HB.out | apply below_alloc | apply pw_below_drewN | apply below_drew1 | refine below_set ?_ GE108.out | refine below_set ?_ GE118.out) | exact HB.out)⟩⟩
                                                          · rw [if_neg c56] at H
                                                            have c56b0 : (((rd_T63 (rd_L5 (rd_L6 l0_2 x3_2) x4_3) x5_4).f2) == 0) = false := beq_eq_false_iff_ne.mpr c56
                                                            have c56b1 : (((rd_T63 (rd_L5 (rd_L6 l0_2 x3_2) x4_3) x5_4).f2) != 0) = true := bne_iff_ne.mpr c56
                                                            obtain rfl := Option.some.inj H
                                                            have hcz62_0 : wr.cell? ⟨gb108, 0, none⟩ = some (.slice A0_0 l0_0.length c0_0) := (blk_cell BK108.out 0).trans rfl
                                                            have hcz62_1 : wr.cell? ⟨gb108, 1, none⟩ = some (.int .i64 a0_1) := (blk_cell BK108.out 1).trans rfl
                                                            have hcz62_2 : wr.cell? ⟨gb108, 2, none⟩ = some (.slice (some ad109) l0_2.length c0_2) := (blk_cell BK108.out 2).trans rfl
                                                            have hfz62_0 := blk_frozen BK108.out 0
                                                            have hfz62_1 := blk_frozen BK108.out 1
                                                            have hfz62_2 := blk_frozen BK108.out 2
                                                            have p113 : 0 ≤ (x3_2 : Int) := of_decide_eq_true (by first | (with_reducible assumption) | assumption)
                                                            have q113 : x3_2 < (l0_2.length : Int) := of_decide_eq_true (by first | (with_reducible assumption) | assumption)
                                                            obtain ⟨ad113, A113_0, c113_0, e113, hx113_0, hl113_0, hi113_0⟩ := at_L6 HR0_2.out x3_2 p113 q113
                                                            obtain rfl : ad109 = ad113 := (by injection e113)
                                                            replace hx113_0 := (HB.out.cell (World.block_lt_of_cell? w _ hx113_0)).trans hx113_0
                                                            try (have ea_ := Option.some.inj (hx111_0.symm.trans hx113_0); injection ea_ with ea_ en_ ec_; subst ea_; subst ec_; clear en_)
                                                            have HR113_0 := Aside0.mk hi113_0
                                                            have HC113_0 := Aside0.mk hl113_0
                                                            clear hi113_0 hl113_0
                                                            replace p113 := eq_true p113
                                                            replace q113 := eq_true q113
                                                            have p114 : 0 ≤ (x4_3 : Int) := of_decide_eq_true (by first | (with_reducible assumption) | assumption)
                                                            have q114 : x4_3 < ((rd_L6 l0_2 x3_2).length : Int) := of_decide_eq_true (by first | (with_reducible assumption) | assumption)
                                                            obtain ⟨ad114, A114_0, c114_0, e114, hx114_0, hl114_0, hi114_0⟩ := at_L5 HR113_0.out x4_3 p114 q114
                                                            cases e114
                                                            replace hx114_0 := (HB.out.cell (World.block_lt_of_cell? w _ hx114_0)).trans hx114_0
                                                            try (have ea_ := Option.some.inj (hx112_0.symm.trans hx114_0); injection ea_ with ea_ en_ ec_; subst ea_; subst ec_; clear en_)
                                                            have HR114_0 := Aside0.mk hi114_0
                                                            have HC114_0 := Aside0.mk hl114_0
                                                            clear hi114_0 hl114_0
                                                            replace p114 := eq_true p114
                                                            replace q114 := eq_true q114
                                                            have p115 : 0 ≤ (x3_2 : Int) := of_decide_eq_true (by first | (with_reducible assumption) | assumption)
                                                            have q115 : x3_2 < (l0_2.length : Int) := of_decide_eq_true (by first | (with_reducible assumption) | assumption)
                                                            obtain ⟨ad115, A115_0, c115_0, e115, hx115_0, hl115_0, hi115_0⟩ := at_L6 HR0_2.out x3_2 p115 q115
                                                            obtain rfl : ad109 = ad115 := (by injection e115)
                                                            replace hx115_0 := (HB.out.cell (World.block_lt_of_cell? w _ hx115_0)).trans hx115_0
                                                            have HR115_0 := Aside0.mk hi115_0
                                                            have HC115_0 := Aside0.mk hl115_0
                                                            clear hi115_0 hl115_0
                                                            replace p115 := eq_true p115
                                                            replace q115 := eq_true q115
                                                            have ea_ := Option.some.inj (hx113_0.symm.trans hx115_0)
                                                            injection ea_ with ea_ en_ ec_
                                                            subst ea_
                                                            subst ec_
                                                            clear en_
                                                            have p116 : 0 ≤ (x4_3 : Int) := of_decide_eq_true (by first | (with_reducible assumption) | assumption)
                                                            have q116 : x4_3 < ((rd_L6 l0_2 x3_2).length : Int) := of_decide_eq_true (by first | (with_reducible assumption) | assumption)
                                                            obtain ⟨ad116, A116_0, c116_0, e116, hx116_0, hl116_0, hi116_0⟩ := at_L5 HR115_0.out x4_3 p116 q116
                                                            cases e116
                                                            replace hx116_0 := (HB.out.cell (World.block_lt_of_cell? w _ hx116_0)).trans hx116_0
                                                            try (have ea_ := Option.some.inj (hx114_0.symm.trans hx116_0); injection ea_ with ea_ en_ ec_; subst ea_; subst ec_; clear en_)
                                                            have HR116_0 := Aside0.mk hi116_0
                                                            have HC116_0 := Aside0.mk hl116_0
                                                            clear hi116_0 hl116_0
                                                            replace p116 := eq_true p116
                                                            replace q116 := eq_true q116
                                                            have p117 : 0 ≤ (x5_4 : Int) := of_decide_eq_true (by first | (with_reducible assumption) | assumption)
                                                            have q117 : x5_4 < ((rd_L5 (rd_L6 l0_2 x3_2) x4_3).length : Int) := of_decide_eq_true (by first | (with_reducible assumption) | assumption)
                                                            obtain ⟨ad117, e117, hx117_0, hx117_1, hx117_2⟩ := at_T63 HR116_0.out x5_4 p117 q117
                                                            cases e117
                                                            replace hx117_0 := (HB.out.cell (World.block_lt_of_cell? w _ hx117_0)).trans hx117_0
                                                            replace hx117_1 := (HB.out.cell (World.block_lt_of_cell? w _ hx117_1)).trans hx117_1
                                                            replace hx117_2 := (HB.out.cell (World.block_lt_of_cell? w _ hx117_2)).trans hx117_2
                                                            replace p117 := eq_true p117
                                                            replace q117 := eq_true q117
                                                            go_wp2_with (first | ((with_reducible refine gate_dst (N := 6) rfl ?_); (try (refine gate_guard (by rfl) ?_; dsimp only)); refine box_event ?hg (N := 6) ?hd (cs := #[.int .i64 0, .int .i64 0, .int .i64 0]) (t := 63) ?hr ?_; (case hd => rfl); (case hg => rfl); (case hr => first | (go_simp; done) | (go_simp; rfl)); intro gb118 hg w63 hbox hb; have n0_ := Aside0.mk (blk_below (g := gb108) (o := .cells #[.slice A0_0 l0_0.length c0_0, .int .i64 a0_1, .slice (some ad109) l0_2.length c0_2] 30 (0, 0)) (by (with_reducible repeat (first | refine blk_drewN ?_ _ | refine blk_drew ?_ | refine blk_alloc ?_ _)); exact BK108.out) hb); have n1_ := Aside0.mk (below_step (by repeat (first | (with_reducible first | exact HB.out | apply below_alloc | apply pw_below_drewN | apply below_drew1 | refine below_set ?_ GE108.out) | exact HB.out)) hb); have n2_ := Aside0.mk (hbox); have n3_ := Aside0.mk ((by rw [hg]; exact (below_size (by repeat (first | (with_reducible first | exact HB.out | apply below_alloc | apply pw_below_drewN | apply below_drew1 | refine below_set ?_ GE108.out) | exact HB.out))) : w.heap.size ≤ gb118)); have n4_ := Aside0.mk ((by rw [hg]; exact (below_size (by repeat (first | (with_reducible first | exact HB.out | apply below_alloc | apply pw_below_drewN | apply below_drew1 | refine below_set ?_ GE108.out) | exact HB.out))) : w.heap.size ≤ gb118)); have n5_ := Aside0.mk ((by rw [hg]; exact Nat.ne_of_lt (blk_lt (g := gb108) (o := .cells #[.slice A0_0 l0_0.length c0_0, .int .i64 a0_1, .slice (some ad109) l0_2.length c0_2] 30 (0, 0)) (by (with_reducible repeat (first | refine blk_drewN ?_ _ | refine blk_drew ?_ | refine blk_alloc ?_ _)); exact BK108.out)) : gb108 ≠ gb118)); have n6_ := Aside0.mk ((by rw [hg]; exact Nat.ne_of_gt (blk_lt (g := gb108) (o := .cells #[.slice A0_0 l0_0.length c0_0, .int .i64 a0_1, .slice (some ad109) l0_2.length c0_2] 30 (0, 0)) (by (with_reducible repeat (first | refine blk_drewN ?_ _ | refine blk_drew ?_ | refine blk_alloc ?_ _)); exact BK108.out)) : gb118 ≠ gb108)); clear BK108; clear HB; have BK108 := n0_; have HB := n1_; have BK118 := n2_; have GW118 := n3_; have GE118 := n4_; have NB108_118 := n5_; have NB118_108 := n6_; clear n0_ n1_ n2_ n3_ n4_ n5_ n6_; clear hb hbox hg; have hnb64 := NB118_108.out; have hnc64 := NB108_118.out; have hcz65_0 : w63.cell? ⟨gb118, 0, none⟩ = some (.int .i64 0) := (blk_cell BK118.out 0).trans rfl; have hcz65_1 : w63.cell? ⟨gb118, 1, none⟩ = some (.int .i64 0) := (blk_cell BK118.out 1).trans rfl; have hcz65_2 : w63.cell? ⟨gb118, 2, none⟩ = some (.int .i64 0) := (blk_cell BK118.out 2).trans rfl; have hfz65_0 := blk_frozen BK118.out 0; have hfz65_1 := blk_frozen BK118.out 1; have hfz65_2 := blk_frozen BK118.out 2; have hcz66_0 : w63.cell? ⟨gb108, 0, none⟩ = some (.slice A0_0 l0_0.length c0_0) := (blk_cell BK108.out 0).trans rfl; have hcz66_1 : w63.cell? ⟨gb108, 1, none⟩ = some (.int .i64 a0_1) := (blk_cell BK108.out 1).trans rfl; have hcz66_2 : w63.cell? ⟨gb108, 2, none⟩ = some (.slice (some ad109) l0_2.length c0_2) := (blk_cell BK108.out 2).trans rfl; have hfz66_0 := blk_frozen BK108.out 0; have hfz66_1 := blk_frozen BK108.out 1; have hfz66_2 := blk_frozen BK108.out 2))
                                                            go_ret
                                                            exact ⟨by first | rfl | (simp [errW_none, errW_some] <;> rfl) | (simp [*, errW_none, errW_some] <;> rfl), by repeat (first | (with_reducible first | exact HB.out | apply below_alloc | apply pw_below_drewN | apply below_drew1 | refine below_set ?_ GE108.out | refine below_set ?_ GE118.out) | exact HB.out)⟩
                                                        · rw [if_neg c55] at H
                                                          have c55b0 : (((rd_T63 (rd_L5 (rd_L6 l0_2 x3_2) x4_3) x5_4).f0) == 1) = false := beq_eq_false_iff_ne.mpr c55
                                                          have c55b1 : (((rd_T63 (rd_L5 (rd_L6 l0_2 x3_2) x4_3) x5_4).f0) != 1) = true := bne_iff_ne.mpr c55
                                                          have H' := Aside0.mk H
                                                          clear H
                                                          have hcz67_0 : wr.cell? ⟨gb108, 0, none⟩ = some (.slice A0_0 l0_0.length c0_0) := (blk_cell BK108.out 0).trans rfl
                                                          have hcz67_1 : wr.cell? ⟨gb108, 1, none⟩ = some (.int .i64 a0_1) := (blk_cell BK108.out 1).trans rfl
                                                          have hcz67_2 : wr.cell? ⟨gb108, 2, none⟩ = some (.slice (some ad109) l0_2.length c0_2) := (blk_cell BK108.out 2).trans rfl
                                                          have hfz67_0 := blk_frozen BK108.out 0
                                                          have hfz67_1 := blk_frozen BK108.out 1
                                                          have hfz67_2 := blk_frozen BK108.out 2
                                                          have p113 : 0 ≤ (x3_2 : Int) := of_decide_eq_true (by first | (with_reducible assumption) | assumption)
                                                          have q113 : x3_2 < (l0_2.length : Int) := of_decide_eq_true (by first | (with_reducible assumption) | assumption)
                                                          obtain ⟨ad113, A113_0, c113_0, e113, hx113_0, hl113_0, hi113_0⟩ := at_L6 HR0_2.out x3_2 p113 q113
                                                          obtain rfl : ad109 = ad113 := (by injection e113)
                                                          replace hx113_0 := (HB.out.cell (World.block_lt_of_cell? w _ hx113_0)).trans hx113_0
                                                          try (have ea_ := Option.some.inj (hx111_0.symm.trans hx113_0); injection ea_ with ea_ en_ ec_; subst ea_; subst ec_; clear en_)
                                                          have HR113_0 := Aside0.mk hi113_0
                                                          have HC113_0 := Aside0.mk hl113_0
                                                          clear hi113_0 hl113_0
                                                          replace p113 := eq_true p113
                                                          replace q113 := eq_true q113
                                                          have p114 : 0 ≤ (x4_3 : Int) := of_decide_eq_true (by first | (with_reducible assumption) | assumption)
                                                          have q114 : x4_3 < ((rd_L6 l0_2 x3_2).length : Int) := of_decide_eq_true (by first | (with_reducible assumption) | assumption)
                                                          obtain ⟨ad114, A114_0, c114_0, e114, hx114_0, hl114_0, hi114_0⟩ := at_L5 HR113_0.out x4_3 p114 q114
                                                          cases e114
                                                          replace hx114_0 := (HB.out.cell (World.block_lt_of_cell? w _ hx114_0)).trans hx114_0
                                                          try (have ea_ := Option.some.inj (hx112_0.symm.trans hx114_0); injection ea_ with ea_ en_ ec_; subst ea_; subst ec_; clear en_)
                                                          have HR114_0 := Aside0.mk hi114_0
                                                          have HC114_0 := Aside0.mk hl114_0
                                                          clear hi114_0 hl114_0
                                                          replace p114 := eq_true p114
                                                          replace q114 := eq_true q114
                                                          have p115 : 0 ≤ (x3_2 : Int) := of_decide_eq_true (by first | (with_reducible assumption) | assumption)
                                                          have q115 : x3_2 < (l0_2.length : Int) := of_decide_eq_true (by first | (with_reducible assumption) | assumption)
                                                          obtain ⟨ad115, A115_0, c115_0, e115, hx115_0, hl115_0, hi115_0⟩ := at_L6 HR0_2.out x3_2 p115 q115
                                                          obtain rfl : ad109 = ad115 := (by injection e115)
                                                          replace hx115_0 := (HB.out.cell (World.block_lt_of_cell? w _ hx115_0)).trans hx115_0
                                                          have HR115_0 := Aside0.mk hi115_0
                                                          have HC115_0 := Aside0.mk hl115_0
                                                          clear hi115_0 hl115_0
                                                          replace p115 := eq_true p115
                                                          replace q115 := eq_true q115
                                                          have ea_ := Option.some.inj (hx113_0.symm.trans hx115_0)
                                                          injection ea_ with ea_ en_ ec_
                                                          subst ea_
                                                          subst ec_
                                                          clear en_
                                                          have p116 : 0 ≤ (x4_3 : Int) := of_decide_eq_true (by first | (with_reducible assumption) | assumption)
                                                          have q116 : x4_3 < ((rd_L6 l0_2 x3_2).length : Int) := of_decide_eq_true (by first | (with_reducible assumption) | assumption)
                                                          obtain ⟨ad116, A116_0, c116_0, e116, hx116_0, hl116_0, hi116_0⟩ := at_L5 HR115_0.out x4_3 p116 q116
                                                          cases e116
                                                          replace hx116_0 := (HB.out.cell (World.block_lt_of_cell? w _ hx116_0)).trans hx116_0
                                                          try (have ea_ := Option.some.inj (hx114_0.symm.trans hx116_0); injection ea_ with ea_ en_ ec_; subst ea_; subst ec_; clear en_)
                                                          have HR116_0 := Aside0.mk hi116_0
                                                          have HC116_0 := Aside0.mk hl116_0
                                                          clear hi116_0 hl116_0
                                                          replace p116 := eq_true p116
                                                          replace q116 := eq_true q116
                                                          have p117 : 0 ≤ (x5_4 : Int) := of_decide_eq_true (by first | (with_reducible assumption) | assumption)
                                                          have q117 : x5_4 < ((rd_L5 (rd_L6 l0_2 x3_2) x4_3).length : Int) := of_decide_eq_true (by first | (with_reducible assumption) | assumption)
                                                          obtain ⟨ad117, e117, hx117_0, hx117_1, hx117_2⟩ := at_T63 HR116_0.out x5_4 p117 q117
                                                          cases e117
                                                          replace hx117_0 := (HB.out.cell (World.block_lt_of_cell? w _ hx117_0)).trans hx117_0
                                                          replace hx117_1 := (HB.out.cell (World.block_lt_of_cell? w _ hx117_1)).trans hx117_1
                                                          replace hx117_2 := (HB.out.cell (World.block_lt_of_cell? w _ hx117_2)).trans hx117_2
                                                          replace p117 := eq_true p117
                                                          replace q117 := eq_true q117
                                                          go_wp2_with (first | ((with_reducible refine gate_dst (N := 6) rfl ?_); (try (refine gate_guard (by rfl) ?_; dsimp only)); refine box_event ?hg (N := 6) ?hd (cs := #[.int .i64 0, .int .i64 0, .int .i64 0]) (t := 63) ?hr ?_; (case hd => rfl); (case hg => rfl); (case hr => first | (go_simp; done) | (go_simp; rfl)); intro gb118 hg w68 hbox hb; have n0_ := Aside0.mk (blk_below (g := gb108) (o := .cells #[.slice A0_0 l0_0.length c0_0, .int .i64 a0_1, .slice (some ad109) l0_2.length c0_2] 30 (0, 0)) (by (with_reducible repeat (first | refine blk_drewN ?_ _ | refine blk_drew ?_ | refine blk_alloc ?_ _)); exact BK108.out) hb); have n1_ := Aside0.mk (below_step (by repeat (first | (with_reducible first | exact HB.out | apply below_alloc | apply pw_below_drewN | apply below_drew1 | refine below_set ?_ GE108.out) | exact HB.out)) hb); have n2_ := Aside0.mk (hbox); have n3_ := Aside0.mk ((by rw [hg]; exact (below_size (by repeat (first | (with_reducible first | exact HB.out | apply below_alloc | apply pw_below_drewN | apply below_drew1 | refine below_set ?_ GE108.out) | exact HB.out))) : w.heap.size ≤ gb118)); have n4_ := Aside0.mk ((by rw [hg]; exact (below_size (by repeat (first | (with_reducible first | exact HB.out | apply below_alloc | apply pw_below_drewN | apply below_drew1 | refine below_set ?_ GE108.out) | exact HB.out))) : w.heap.size ≤ gb118)); have n5_ := Aside0.mk ((by rw [hg]; exact Nat.ne_of_lt (blk_lt (g := gb108) (o := .cells #[.slice A0_0 l0_0.length c0_0, .int .i64 a0_1, .slice (some ad109) l0_2.length c0_2] 30 (0, 0)) (by (with_reducible repeat (first | refine blk_drewN ?_ _ | refine blk_drew ?_ | refine blk_alloc ?_ _)); exact BK108.out)) : gb108 ≠ gb118)); have n6_ := Aside0.mk ((by rw [hg]; exact Nat.ne_of_gt (blk_lt (g := gb108) (o := .cells #[.slice A0_0 l0_0.length c0_0, .int .i64 a0_1, .slice (some ad109) l0_2.length c0_2] 30 (0, 0)) (by (with_reducible repeat (first | refine blk_drewN ?_ _ | refine blk_drew ?_ | refine blk_alloc ?_ _)); exact BK108.out)) : gb118 ≠ gb108)); clear BK108; clear HB; have BK108 := n0_; have HB := n1_; have BK118 := n2_; have GW118 := n3_; have GE118 := n4_; have NB108_118 := n5_; have NB118_108 := n6_; clear n0_ n1_ n2_ n3_ n4_ n5_ n6_; clear hb hbox hg; have hnb69 := NB118_108.out; have hnc69 := NB108_118.out; have hcz70_0 : w68.cell? ⟨gb118, 0, none⟩ = some (.int .i64 0) := (blk_cell BK118.out 0).trans rfl; have hcz70_1 : w68.cell? ⟨gb118, 1, none⟩ = some (.int .i64 0) := (blk_cell BK118.out 1).trans rfl; have hcz70_2 : w68.cell? ⟨gb118, 2, none⟩ = some (.int .i64 0) := (blk_cell BK118.out 2).trans rfl; have hfz70_0 := blk_frozen BK118.out 0; have hfz70_1 := blk_frozen BK118.out 1; have hfz70_2 := blk_frozen BK118.out 2; have hcz71_0 : w68.cell? ⟨gb108, 0, none⟩ = some (.slice A0_0 l0_0.length c0_0) := (blk_cell BK108.out 0).trans rfl; have hcz71_1 : w68.cell? ⟨gb108, 1, none⟩ = some (.int .i64 a0_1) := (blk_cell BK108.out 1).trans rfl; have hcz71_2 : w68.cell? ⟨gb108, 2, none⟩ = some (.slice (some ad109) l0_2.length c0_2) := (blk_cell BK108.out 2).trans rfl; have hfz71_0 := blk_frozen BK108.out 0; have hfz71_1 := blk_frozen BK108.out 1; have hfz71_2 := blk_frozen BK108.out 2))
                                                          go_roundg k4
                                                          case measure => have := HJ1.out; have := HK2.out; have := HK3.out; have := HK4.out; omega
                                                          case rel => exact ⟨(wrap64 (x5_4 + 1)), (by first | rfl | (simp; done) | (simp [*]; done)), H', ⟨by have := HJ1.out; have := HK2.out; have := HK3.out; have := HK4.out; omega⟩, ⟨by (with_reducible repeat (first | refine blk_drewN ?_ _ | refine blk_drew ?_ | refine blk_alloc ?_ _)); refine blk_far ?_ NB108_118.out _; (with_reducible repeat (first | refine blk_drewN ?_ _ | refine blk_drew ?_ | refine blk_alloc ?_ _)); refine blk_far ?_ NB108_118.out _; (with_reducible repeat (first | refine blk_drewN ?_ _ | refine blk_drew ?_ | refine blk_alloc ?_ _)); refine blk_far ?_ NB108_118.out _; (with_reducible repeat (first | refine blk_drewN ?_ _ | refine blk_drew ?_ | refine blk_alloc ?_ _)); exact BK108.out⟩, ⟨by repeat (first | (with_reducible first | exact HB.out | apply below_alloc | apply pw_below_drewN | apply below_drew1 | refine below_set ?_ GE108.out | refine below_set ?_ GE118.out) | exact HB.out)⟩⟩
                                              · rw [if_neg c33] at H
                                                exact absurd H (by simp)
                                            · rw [if_neg c32] at H
                                              have c32b0 : decide (x5_4 < ((rd_L5 (rd_L6 l0_2 x3_2) x4_3).length : Int)) = false := decide_eq_false c32
                                              clear c32
                                              have H' := Aside0.mk H
                                              clear H
                                              have hcz72_0 : wr.cell? ⟨gb108, 0, none⟩ = some (.slice A0_0 l0_0.length c0_0) := (blk_cell BK108.out 0).trans rfl
                                              have hcz72_1 : wr.cell? ⟨gb108, 1, none⟩ = some (.int .i64 a0_1) := (blk_cell BK108.out 1).trans rfl
                                              have hcz72_2 : wr.cell? ⟨gb108, 2, none⟩ = some (.slice (some ad109) l0_2.length c0_2) := (blk_cell BK108.out 2).trans rfl
                                              have hfz72_0 := blk_frozen BK108.out 0
                                              have hfz72_1 := blk_frozen BK108.out 1
                                              have hfz72_2 := blk_frozen BK108.out 2
                                              have p113 : 0 ≤ (x3_2 : Int) := of_decide_eq_true (by first | (with_reducible assumption) | assumption)
                                              have q113 : x3_2 < (l0_2.length : Int) := of_decide_eq_true (by first | (with_reducible assumption) | assumption)
                                              obtain ⟨ad113, A113_0, c113_0, e113, hx113_0, hl113_0, hi113_0⟩ := at_L6 HR0_2.out x3_2 p113 q113
                                              obtain rfl : ad109 = ad113 := (by injection e113)
                                              replace hx113_0 := (HB.out.cell (World.block_lt_of_cell? w _ hx113_0)).trans hx113_0
                                              try (have ea_ := Option.some.inj (hx111_0.symm.trans hx113_0); injection ea_ with ea_ en_ ec_; subst ea_; subst ec_; clear en_)
                                              have HR113_0 := Aside0.mk hi113_0
                                              have HC113_0 := Aside0.mk hl113_0
                                              clear hi113_0 hl113_0
                                              replace p113 := eq_true p113
                                              replace q113 := eq_true q113
                                              have p114 : 0 ≤ (x4_3 : Int) := of_decide_eq_true (by first | (with_reducible assumption) | assumption)
                                              have q114 : x4_3 < ((rd_L6 l0_2 x3_2).length : Int) := of_decide_eq_true (by first | (with_reducible assumption) | assumption)
                                              obtain ⟨ad114, A114_0, c114_0, e114, hx114_0, hl114_0, hi114_0⟩ := at_L5 HR113_0.out x4_3 p114 q114
                                              cases e114
                                              replace hx114_0 := (HB.out.cell (World.block_lt_of_cell? w _ hx114_0)).trans hx114_0
                                              try (have ea_ := Option.some.inj (hx112_0.symm.trans hx114_0); injection ea_ with ea_ en_ ec_; subst ea_; subst ec_; clear en_)
                                              have HR114_0 := Aside0.mk hi114_0
                                              have HC114_0 := Aside0.mk hl114_0
                                              clear hi114_0 hl114_0
                                              replace p114 := eq_true p114
                                              replace q114 := eq_true q114
                                              go_wp2
                                              go_roundg k4
                                              case measure => have := HJ1.out; have := HK2.out; have := HK3.out; have := HK4.out; omega
                                              case rel => exact ⟨(wrap64 (x4_3 + 1)), (by first | rfl | (simp; done) | (simp [*]; done)), H', ⟨by have := HJ1.out; have := HK2.out; have := HK3.out; have := HK4.out; omega⟩, ⟨by (with_reducible repeat (first | refine blk_drewN ?_ _ | refine blk_drew ?_ | refine blk_alloc ?_ _)); exact BK108.out⟩, ⟨by repeat (first | (with_reducible first | exact HB.out | apply below_alloc | apply pw_below_drewN | apply below_drew1 | refine below_set ?_ GE108.out) | exact HB.out)⟩⟩
                                          · rw [if_neg c31] at H
                                            exact absurd H (by simp)
                                        · rw [if_neg c30] at H
                                          exact absurd H (by simp)
                                      · rw [if_neg c29] at H
                                        exact absurd H (by simp)
                                    · rw [if_neg c28] at H
                                      exact absurd H (by simp)
                            · rw [if_neg c24] at H
                              exact absurd H (by simp)
                          · rw [if_neg c23] at H
                            have c23b0 : decide (x4_3 < ((rd_L6 l0_2 x3_2).length : Int)) = false := decide_eq_false c23
                            clear c23
                            have H' := Aside0.mk H
                            clear H
                            have hcz73_0 : wr.cell? ⟨gb108, 0, none⟩ = some (.slice A0_0 l0_0.length c0_0) := (blk_cell BK108.out 0).trans rfl
                            have hcz73_1 : wr.cell? ⟨gb108, 1, none⟩ = some (.int .i64 a0_1) := (blk_cell BK108.out 1).trans rfl
                            have hcz73_2 : wr.cell? ⟨gb108, 2, none⟩ = some (.slice (some ad109) l0_2.length c0_2) := (blk_cell BK108.out 2).trans rfl
                            have hfz73_0 := blk_frozen BK108.out 0
                            have hfz73_1 := blk_frozen BK108.out 1
                            have hfz73_2 := blk_frozen BK108.out 2
                            have p110 : 0 ≤ (x3_2 : Int) := of_decide_eq_true (by first | (with_reducible assumption) | assumption)
                            have q110 : x3_2 < (l0_2.length : Int) := of_decide_eq_true (by first | (with_reducible assumption) | assumption)
                            obtain ⟨ad110, A110_0, c110_0, e110, hx110_0, hl110_0, hi110_0⟩ := at_L6 HR0_2.out x3_2 p110 q110
                            obtain rfl : ad109 = ad110 := (by injection e110)
                            replace hx110_0 := (HB.out.cell (World.block_lt_of_cell? w _ hx110_0)).trans hx110_0
                            try (have ea_ := Option.some.inj (hx109_0.symm.trans hx110_0); injection ea_ with ea_ en_ ec_; subst ea_; subst ec_; clear en_)
                            have HR110_0 := Aside0.mk hi110_0
                            have HC110_0 := Aside0.mk hl110_0
                            clear hi110_0 hl110_0
                            replace p110 := eq_true p110
                            replace q110 := eq_true q110
                            go_wp2
                            go_roundg k3
                            case measure => have := HJ1.out; have := HK2.out; have := HK3.out; omega
                            case rel => exact ⟨(wrap64 (x3_2 + 1)), (by first | rfl | (simp; done) | (simp [*]; done)), H', ⟨by have := HJ1.out; have := HK2.out; have := HK3.out; omega⟩, ⟨by (with_reducible repeat (first | refine blk_drewN ?_ _ | refine blk_drew ?_ | refine blk_alloc ?_ _)); exact BK108.out⟩, ⟨by repeat (first | (with_reducible first | exact HB.out | apply below_alloc | apply pw_below_drewN | apply below_drew1 | refine below_set ?_ GE108.out) | exact HB.out)⟩⟩
                        · rw [if_neg c22] at H
                          exact absurd H (by simp)
                      · rw [if_neg c21] at H
                        exact absurd H (by simp)
              · rw [if_neg c17] at H
                exact absurd H (by simp)
            · rw [if_neg c16] at H
              have c16b0 : decide (x3_2 < (l0_2.length : Int)) = false := decide_eq_false c16
              clear c16
              obtain rfl := Option.some.inj H
              have hcz74_0 : wr.cell? ⟨gb108, 0, none⟩ = some (.slice A0_0 l0_0.length c0_0) := (blk_cell BK108.out 0).trans rfl
              have hcz74_1 : wr.cell? ⟨gb108, 1, none⟩ = some (.int .i64 a0_1) := (blk_cell BK108.out 1).trans rfl
              have hcz74_2 : wr.cell? ⟨gb108, 2, none⟩ = some (.slice A0_2 l0_2.length c0_2) := (blk_cell BK108.out 2).trans rfl
              have hfz74_0 := blk_frozen BK108.out 0
              have hfz74_1 := blk_frozen BK108.out 1
              have hfz74_2 := blk_frozen BK108.out 2
              go_wp2
              go_ret
              exact ⟨by first | rfl | (simp [errW_none, errW_some] <;> rfl) | (simp [*, errW_none, errW_some] <;> rfl), by repeat (first | (with_reducible first | exact HB.out | apply below_alloc | apply pw_below_drewN | apply below_drew1 | refine below_set ?_ GE108.out) | exact HB.out)⟩

end Go.Proofs.Ytonhmkllfbagmaa.PFnExactTxOK
