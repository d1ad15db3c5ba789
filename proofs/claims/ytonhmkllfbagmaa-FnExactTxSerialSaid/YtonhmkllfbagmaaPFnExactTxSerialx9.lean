-- Written by a program of this session (wip/print2.sh) out of the translation.
import Derived.Test.YtonhmkllfbagmaaPFnExactTxSerialx0
import Derived.Test.YtonhmkllfbagmaaPFnExactTxSerialx7
import Derived.Test.YtonhmkllfbagmaaSFnExactTxSerial
namespace Go.Proofs.Ytonhmkllfbagmaa.PFnExactTxSerial
open Go.RowKit Go.Proofs.YtonhmkllfbagmaaW.PrintWords Go.Proofs.YtonhmkllfbagmaaW.PrintLast Go.Proofs.YtonhmkllfbagmaaW.PrintMore
attribute [local go_sem] max2_int min2_int max_two min_two max_three min_three max_four min_four   -- for this text's walks alone
set_option linter.unusedVariables false
set_option linter.unusedSimpArgs false

/-! ### impl_TxSerial: function 15 -/
mutual
def impl_TxSerial.l0 : Nat → List Int → List Int → List Int → Int → Int → List Int → Int → List (List (List (S63))) → Option (List Int × Int)
  | 0, _, _, _, _, _, _, _, _ => none
  | k + 1, x6, x7, x27, x28, x29, x222000, x222001, x222002 => if x29 < x28 then (if 0 ≤ x29 then (if x29 < (x27.length : Int) then (if (rd x27 x29) < 0 then (impl_TxSerial.j1 k x6 x7 (rd x27 x29) x27 x28 x29 true x222000 x222001 x222002) else (if (rd x27 x29) ≥ (x7.length : Int) then (impl_TxSerial.j1 k x6 x7 (rd x27 x29) x27 x28 x29 true x222000 x222001 x222002) else (if 0 ≤ (rd x27 x29) then (if (rd x27 x29) < (x7.length : Int) then (if (rd x27 x29) < (x222002.length : Int) then (impl_TxSerial.j1 k x6 x7 (rd x27 x29) x27 x28 x29 (decide ((rd x7 (rd x27 x29)) ≥ ((rd_L6 x222002 (rd x27 x29)).length : Int))) x222000 x222001 x222002) else (none)) else (none)) else (none)))) else (none)) else (none)) else (some (x6, 0))
def impl_TxSerial.j1 : Nat → List Int → List Int → Int → List Int → Int → Int → Bool → List Int → Int → List (List (List (S63))) → Option (List Int × Int)
  | 0, _, _, _, _, _, _, _, _, _, _ => none
  | k + 1, x6, x7, x9, x27, x28, x29, x53, x222000, x222001, x222002 => if x53 = true then (some (([] : List Int), 14)) else (if 0 ≤ x9 then (if x9 < (x222002.length : Int) then (if x9 < (x7.length : Int) then (if 0 ≤ (rd x7 x9) then (if (rd x7 x9) < ((rd_L6 x222002 x9).length : Int) then (impl_TxSerial.l1 k x6 x7 x9 x27 x28 x29 (rd_L5 (rd_L6 x222002 x9) (rd x7 x9)) ((rd_L5 (rd_L6 x222002 x9) (rd x7 x9)).length : Int) 0 x222000 x222001 x222002) else (none)) else (none)) else (none)) else (none)) else (none))
def impl_TxSerial.l1 : Nat → List Int → List Int → Int → List Int → Int → Int → List (S63) → Int → Int → List Int → Int → List (List (List (S63))) → Option (List Int × Int)
  | 0, _, _, _, _, _, _, _, _, _, _, _, _ => none
  | k + 1, x6, x7, x9, x27, x28, x29, x64, x65, x66, x222000, x222001, x222002 => if x66 < x65 then (if 0 ≤ x66 then (if x66 < (x64.length : Int) then (if ((rd_T63 x64 x66).f0) = 2 then (if 0 ≤ ((rd_T63 x64 x66).f1) then (if ((rd_T63 x64 x66).f1) < (x6.length : Int) then (impl_TxSerial.l1 k (x6.set (((rd_T63 x64 x66).f1) : Int).toNat ((rd_T63 x64 x66).f2)) x7 x9 x27 x28 x29 x64 x65 (wrap64 (x66 + 1)) x222000 x222001 x222002) else (none)) else (none)) else (if ((rd_T63 x64 x66).f0) = 3 then (if 0 ≤ ((rd_T63 x64 x66).f1) then (if ((rd_T63 x64 x66).f1) < (x6.length : Int) then (impl_TxSerial.l1 k (x6.set (((rd_T63 x64 x66).f1) : Int).toNat (wrap64 ((rd x6 ((rd_T63 x64 x66).f1)) + ((rd_T63 x64 x66).f2)))) x7 x9 x27 x28 x29 x64 x65 (wrap64 (x66 + 1)) x222000 x222001 x222002) else (none)) else (none)) else (impl_TxSerial.l1 k x6 x7 x9 x27 x28 x29 x64 x65 (wrap64 (x66 + 1)) x222000 x222001 x222002))) else (none)) else (none)) else (if 0 ≤ x9 then (if x9 < (x7.length : Int) then (impl_TxSerial.l0 k x6 (x7.set (x9 : Int).toNat (wrap64 ((rd x7 x9) + 1))) x27 x28 (wrap64 (x29 + 1)) x222000 x222001 x222002) else (none)) else (none))
end
def impl_TxSerial.f (k : Nat) (l0_0 : List Int) (a0_1 : Int) (l0_2 : List (List (List (S63)))) (l1 : List Int) : Option (List Int × Int) := if (l1.length : Int) > 4096 then (some (([] : List Int), 2)) else ((impl_TxOK.f k l0_0 a0_1 l0_2).bind fun t222 => (if t222 = true then ((slices_Clone_int_int.f l0_0).bind fun t223 => (if 0 ≤ (l0_2.length : Int) then (if ((l0_2.length : Int) : Int).toNat ≤ 35184372088832 then (impl_TxSerial.l0 k t223 (List.replicate ((l0_2.length : Int) : Int).toNat 0) l1 (l1.length : Int) 0 l0_0 a0_1 l0_2) else (none)) else (none))) else (some (([] : List Int), 1))))
theorem impl_TxSerial.mono_l : ∀ k, (∀ y0 y1 y2 y3 y4 y5 y6 y7, LeO (impl_TxSerial.l0 k y0 y1 y2 y3 y4 y5 y6 y7) (impl_TxSerial.l0 (k + 1) y0 y1 y2 y3 y4 y5 y6 y7)) ∧ (∀ y0 y1 y2 y3 y4 y5 y6 y7 y8 y9, LeO (impl_TxSerial.j1 k y0 y1 y2 y3 y4 y5 y6 y7 y8 y9) (impl_TxSerial.j1 (k + 1) y0 y1 y2 y3 y4 y5 y6 y7 y8 y9)) ∧ (∀ y0 y1 y2 y3 y4 y5 y6 y7 y8 y9 y10 y11, LeO (impl_TxSerial.l1 k y0 y1 y2 y3 y4 y5 y6 y7 y8 y9 y10 y11) (impl_TxSerial.l1 (k + 1) y0 y1 y2 y3 y4 y5 y6 y7 y8 y9 y10 y11))
  | 0 => ⟨fun _ _ _ _ _ _ _ _ r h => by simp [impl_TxSerial.l0] at h, fun _ _ _ _ _ _ _ _ _ _ r h => by simp [impl_TxSerial.j1] at h, fun _ _ _ _ _ _ _ _ _ _ _ _ r h => by simp [impl_TxSerial.l1] at h⟩
  | k + 1 => by
    obtain ⟨ih0, ih1, ih2⟩ := impl_TxSerial.mono_l k
    refine ⟨?_, ?_, ?_⟩
    · intro y0 y1 y2 y3 y4 y5 y6 y7
      unfold impl_TxSerial.l0
      repeat' first
      | (with_reducible exact ih0 _ _ _ _ _ _ _ _)
      | (with_reducible exact ih1 _ _ _ _ _ _ _ _ _ _)
      | (with_reducible exact ih2 _ _ _ _ _ _ _ _ _ _ _ _)
      | (with_reducible exact impl_TxOK.mono _ _ _ _)
      | (with_reducible exact LeO.refl _)
      | (with_reducible exact LeO.none _)
      | (with_reducible refine LeO.ite ?_ ?_)
      | (with_reducible refine LeO.bind ?_ (fun _ => ?_))
      | exact ih0 _ _ _ _ _ _ _ _
      | exact ih1 _ _ _ _ _ _ _ _ _ _
      | exact ih2 _ _ _ _ _ _ _ _ _ _ _ _
      | exact impl_TxOK.mono _ _ _ _
      | exact LeO.none _
      | refine LeO.ite ?_ ?_
      | refine LeO.bind ?_ (fun _ => ?_)
    · intro y0 y1 y2 y3 y4 y5 y6 y7 y8 y9
      unfold impl_TxSerial.j1
      repeat' first
      | (with_reducible exact ih0 _ _ _ _ _ _ _ _)
      | (with_reducible exact ih1 _ _ _ _ _ _ _ _ _ _)
      | (with_reducible exact ih2 _ _ _ _ _ _ _ _ _ _ _ _)
      | (with_reducible exact impl_TxOK.mono _ _ _ _)
      | (with_reducible exact LeO.refl _)
      | (with_reducible exact LeO.none _)
      | (with_reducible refine LeO.ite ?_ ?_)
      | (with_reducible refine LeO.bind ?_ (fun _ => ?_))
      | exact ih0 _ _ _ _ _ _ _ _
      | exact ih1 _ _ _ _ _ _ _ _ _ _
      | exact ih2 _ _ _ _ _ _ _ _ _ _ _ _
      | exact impl_TxOK.mono _ _ _ _
      | exact LeO.none _
      | refine LeO.ite ?_ ?_
      | refine LeO.bind ?_ (fun _ => ?_)
    · intro y0 y1 y2 y3 y4 y5 y6 y7 y8 y9 y10 y11
      unfold impl_TxSerial.l1
      repeat' first
      | (with_reducible exact ih0 _ _ _ _ _ _ _ _)
      | (with_reducible exact ih1 _ _ _ _ _ _ _ _ _ _)
      | (with_reducible exact ih2 _ _ _ _ _ _ _ _ _ _ _ _)
      | (with_reducible exact impl_TxOK.mono _ _ _ _)
      | (with_reducible exact LeO.refl _)
      | (with_reducible exact LeO.none _)
      | (with_reducible refine LeO.ite ?_ ?_)
      | (with_reducible refine LeO.bind ?_ (fun _ => ?_))
      | exact ih0 _ _ _ _ _ _ _ _
      | exact ih1 _ _ _ _ _ _ _ _ _ _
      | exact ih2 _ _ _ _ _ _ _ _ _ _ _ _
      | exact impl_TxOK.mono _ _ _ _
      | exact LeO.none _
      | refine LeO.ite ?_ ?_
      | refine LeO.bind ?_ (fun _ => ?_)
theorem impl_TxSerial.mono : ∀ a0 a1 a2 a3 k, LeO (impl_TxSerial.f k a0 a1 a2 a3) (impl_TxSerial.f (k + 1) a0 a1 a2 a3) := by
  intro a0 a1 a2 a3 k
  obtain ⟨ih0, ih1, ih2⟩ := impl_TxSerial.mono_l k
  unfold impl_TxSerial.f
  repeat' first
      | (with_reducible exact ih0 _ _ _ _ _ _ _ _)
      | (with_reducible exact ih1 _ _ _ _ _ _ _ _ _ _)
      | (with_reducible exact ih2 _ _ _ _ _ _ _ _ _ _ _ _)
      | (with_reducible exact impl_TxOK.mono _ _ _ _)
      | (with_reducible exact LeO.refl _)
      | (with_reducible exact LeO.none _)
      | (with_reducible refine LeO.ite ?_ ?_)
      | (with_reducible refine LeO.bind ?_ (fun _ => ?_))
      | exact ih0 _ _ _ _ _ _ _ _
      | exact ih1 _ _ _ _ _ _ _ _ _ _
      | exact ih2 _ _ _ _ _ _ _ _ _ _ _ _
      | exact impl_TxOK.mono _ _ _ _
      | exact LeO.none _
      | refine LeO.ite ?_ ?_
      | refine LeO.bind ?_ (fun _ => ?_)
def impl_TxSerial.T10 : Bool × List (List Nat × List Nat) := (true, [([], []), ([0], [0]), ([1], [1]), ([2], [2]), ([2], [2]), ([4, 2], [2, 4]), ([3, 5, 2], [2, 3, 5]), ([2, 6], [2, 6]), ([7, 2], [7]), ([8], [8]), ([8], [8]), ([9, 10, 8], [8, 9, 10]), ([11, 8], [8, 11]), ([8], [8]), ([13, 8], [8, 13]), ([8], [8]), ([14, 15, 8], [8, 14, 15]), ([16, 8], [8, 16]), ([17, 8], [8, 17]), ([12, 18, 8], [8, 12, 18]), ([8, 19], [8, 19])])
def impl_TxSerial.B10 : List Nat := [0, 1, 3, 7, 7, 23, 63, 127, 255, 511, 511, 2047, 4095, 511, 8703, 511, 57855, 123391, 254463, 524287, 1048575]
theorem impl_TxSerial.tab10 : rtab .any (opsOf Try.f15 10) = impl_TxSerial.T10 := by kernel_rfl
theorem impl_TxSerial.bits10 : waitsOk impl_TxSerial.T10.2 impl_TxSerial.B10 = true := by kernel_rfl
def impl_TxSerial.T12 : Bool × List (List Nat × List Nat) := (true, [([], []), ([0], [0]), ([], []), ([1, 2], [1, 2]), ([3], [3]), ([], []), ([], []), ([5, 6], [5, 6]), ([7], [7]), ([4, 8], [4, 8]), ([9], [9]), ([10], [10]), ([], [])])
def impl_TxSerial.B12 : List Nat := [0, 1, 0, 7, 15, 0, 0, 96, 224, 511, 1023, 2047, 0]
theorem impl_TxSerial.tab12 : rtab .any (opsOf Try.f15 12) = impl_TxSerial.T12 := by kernel_rfl
theorem impl_TxSerial.bits12 : waitsOk impl_TxSerial.T12.2 impl_TxSerial.B12 = true := by kernel_rfl
def impl_TxSerial.T19 : Bool × List (List Nat × List Nat) := (true, [([], []), ([], []), ([1], [1]), ([0, 2], [0, 2]), ([3], [3]), ([], []), ([5], [5]), ([4, 6], [4, 6]), ([0, 2, 0, 1, 2, 3, 4, 5, 6, 7], [0, 2]), ([8, 7, 0, 1, 2, 3, 4, 5, 6, 7], [7, 8])])
def impl_TxSerial.B19 : List Nat := [0, 0, 2, 7, 15, 0, 32, 127, 255, 511]
theorem impl_TxSerial.tab19 : rtab .any (opsOf Try.f15 19) = impl_TxSerial.T19 := by kernel_rfl
theorem impl_TxSerial.bits19 : waitsOk impl_TxSerial.T19.2 impl_TxSerial.B19 = true := by kernel_rfl
set_option maxHeartbeats 8000000 in
set_option maxRecDepth 100000 in
theorem impl_TxSerial.calls (k : Nat) (A0_0 : Option Addr) (c0_0 : Nat) (l0_0 : List Int) (a0_1 : Int) (A0_2 : Option Addr) (c0_2 : Nat) (l0_2 : List (List (List (S63)))) (A1 : Option Addr) (c1 : Nat) (l1 : List Int) (r1 : List Int) (r2 : Int) (w : World) (hr0_0 : Kd.C (Kd.int .i64) w A0_0 l0_0.length l0_0) (hc0_0 : l0_0.length ≤ c0_0) (hr0_2 : Kd.C (Kd.slice 61 (Kd.slice 63 k63)) w A0_2 l0_2.length l0_2) (hc0_2 : l0_2.length ≤ c0_2) (hr1 : Kd.C (Kd.int .i64) w A1 l1.length l1) (hc1 : l1.length ≤ c1) (h : impl_TxSerial.f k l0_0 a0_1 l0_2 l1 = some (r1, r2)) :
    Calls Try.prog 15 #[.agg #[.slice A0_0 l0_0.length c0_0, .int .i64 a0_1, .slice A0_2 l0_2.length c0_2], .slice A1 l1.length c1] w fun e w' => ∃ v0_ : Value, e = .returned (.tuple #[v0_, .int .i64 r2]) ∧ Kd.R (Kd.int .i64) 3 w' w.heap.size (fun _ => True) v0_ r1 ∧ Below w.heap.size w w' := by
  have hu30 := Try.underlying30
  have hu63 := Try.underlying63
  have HR0_0 := Aside0.mk hr0_0
  have HC0_0 := Aside0.mk hc0_0
  clear hr0_0 hc0_0
  have HR0_2 := Aside0.mk hr0_2
  have HC0_2 := Aside0.mk hc0_2
  clear hr0_2 hc0_2
  have HR1 := Aside0.mk hr1
  have HC1 := Aside0.mk hc1
  clear hr1 hc1
  have HB := Aside0.mk (Below.refl w.heap.size w)
  have H : (if (l1.length : Int) > 4096 then (some (([] : List Int), 2)) else ((impl_TxOK.f k l0_0 a0_1 l0_2).bind fun t222 => (if t222 = true then ((slices_Clone_int_int.f l0_0).bind fun t223 => (if 0 ≤ (l0_2.length : Int) then (if ((l0_2.length : Int) : Int).toNat ≤ 35184372088832 then (impl_TxSerial.l0 k t223 (List.replicate ((l0_2.length : Int) : Int).toNat 0) l1 (l1.length : Int) 0 l0_0 a0_1 l0_2) else (none)) else (none))) else (some (([] : List Int), 1))))) = some (r1, r2) := h
  clear h
  by_cases c3 : (l1.length : Int) > 4096
  · rw [if_pos c3] at H
    have c3b0 : decide (4096 < (l1.length : Int)) = true := decide_eq_true c3
    have c3b1 : decide (4096 < l1.length) = true := decide_eq_true (by omega)
    clear c3
    simp only [Option.some.injEq, Prod.mk.injEq] at H
    obtain ⟨rfl, rfl⟩ := H
    go_enter Try.func15, Try.ntmps15
    go_wp2_with (first | ((with_reducible refine gate_dst (N := 2) rfl ?_); (try (refine gate_guard (by rfl) ?_; dsimp only)); refine box_event ?hg (N := 2) ?hd (cs := #[.slice A0_0 l0_0.length c0_0, .int .i64 a0_1, .slice A0_2 l0_2.length c0_2]) (t := 30) ?hr ?_; (case hd => rfl); (case hg => rfl); (case hr => first | (go_simp; done) | (go_simp; rfl)); intro gb221 hg w4 hbox hb; have n0_ := Aside0.mk (below_step (by repeat (first | (with_reducible first | exact HB.out | apply below_alloc | apply pw_below_drewN | apply below_drew1) | exact HB.out)) hb); have n1_ := Aside0.mk (hbox); have n2_ := Aside0.mk ((by rw [hg]; exact (below_size (by repeat (first | (with_reducible first | exact HB.out | apply below_alloc | apply pw_below_drewN | apply below_drew1) | exact HB.out))) : w.heap.size ≤ gb221)); have n3_ := Aside0.mk ((by rw [hg]; exact (below_size (by repeat (first | (with_reducible first | exact HB.out | apply below_alloc | apply pw_below_drewN | apply below_drew1) | exact HB.out))) : w.heap.size ≤ gb221)); clear HB; have HB := n0_; have BK221 := n1_; have GW221 := n2_; have GE221 := n3_; clear n0_ n1_ n2_ n3_; clear hb hbox hg))
    go_ret2
    exact ⟨_, by first | rfl | (simp <;> rfl) | (simp [*] <;> rfl), by first | exact Kd.R_nil _ _ _ _ _ | exact Kd.N_nil _ _ _ _ _ | exact Kd.V_nil _ _ _ _ _ | exact Kd.Q_nil _ _ _ _ _ | exact Kd.S_nil _ _ _ _ _, by repeat (first | (with_reducible first | exact HB.out | apply below_alloc | apply pw_below_drewN | apply below_drew1 | refine below_set ?_ GE221.out) | exact HB.out)⟩
  · rw [if_neg c3] at H
    have c3b0 : decide (4096 < (l1.length : Int)) = false := decide_eq_false c3
    have c3b1 : decide (4096 < l1.length) = false := decide_eq_false (by omega)
    clear c3
    replace H := Option.bind_eq_some_iff.mp H
    obtain ⟨t222, A50, H⟩ := H
    replace H : (if t222 = true then ((slices_Clone_int_int.f l0_0).bind fun t223 => (if 0 ≤ (l0_2.length : Int) then (if ((l0_2.length : Int) : Int).toNat ≤ 35184372088832 then (impl_TxSerial.l0 k t223 (List.replicate ((l0_2.length : Int) : Int).toNat 0) l1 (l1.length : Int) 0 l0_0 a0_1 l0_2) else (none)) else (none))) else (some (([] : List Int), 1))) = some (r1, r2) := H
    have A5 := Aside0.mk A50
    clear A50
    by_cases c6 : t222 = true
    · subst c6
      have H1 : ((slices_Clone_int_int.f l0_0).bind fun t223 => (if 0 ≤ (l0_2.length : Int) then (if ((l0_2.length : Int) : Int).toNat ≤ 35184372088832 then (impl_TxSerial.l0 k t223 (List.replicate ((l0_2.length : Int) : Int).toNat 0) l1 (l1.length : Int) 0 l0_0 a0_1 l0_2) else (none)) else (none))) = some (r1, r2) := by rw [if_pos rfl] at H; exact H
      clear H
      have H := H1
      clear H1
      replace H := Option.bind_eq_some_iff.mp H
      obtain ⟨t223, A70, H⟩ := H
      replace H : (if 0 ≤ (l0_2.length : Int) then (if ((l0_2.length : Int) : Int).toNat ≤ 35184372088832 then (impl_TxSerial.l0 k t223 (List.replicate ((l0_2.length : Int) : Int).toNat 0) l1 (l1.length : Int) 0 l0_0 a0_1 l0_2) else (none)) else (none)) = some (r1, r2) := H
      have A7 := Aside0.mk A70
      clear A70
      by_cases c8 : 0 ≤ (l0_2.length : Int)
      · rw [if_pos c8] at H
        have c8b0 := eq_true c8
        have c8b1 : decide (0 ≤ (l0_2.length : Int)) = true := decide_eq_true c8
        clear c8
        by_cases c9 : ((l0_2.length : Int) : Int).toNat ≤ 35184372088832
        · rw [if_pos c9] at H
          have c9b0 := eq_true c9
          have c9b1 : decide (((l0_2.length : Int) : Int).toNat ≤ 35184372088832) = true := decide_eq_true c9
          clear c9
          obtain ⟨y226, hy226⟩ : ∃ y_ : List Int, y_ = (List.replicate ((l0_2.length : Int) : Int).toNat 0) := ⟨_, rfl⟩
          replace H : (impl_TxSerial.l0 k t223 y226 l1 (l1.length : Int) 0 l0_0 a0_1 l0_2) = some (r1, r2) := by first | (rw [hy226]; with_reducible exact H) | (have H2_ := (Option.bind_some _ _).symm.trans H; rw [hy226]; with_reducible exact H2_) | (have H2_ := (Option.bind_some _ _).symm.trans H; with_reducible exact H2_) | with_reducible exact H | (rw [hy226]; exact H) | exact H
          have Ny226 := Aside0.mk hy226
          clear hy226
          have H' := Aside0.mk H
          clear H
          go_enter Try.func15, Try.ntmps15
          go_wp2_with (first | ((with_reducible refine gate_dst (N := 2) rfl ?_); (try (refine gate_guard (by rfl) ?_; dsimp only)); refine box_event ?hg (N := 2) ?hd (cs := #[.slice A0_0 l0_0.length c0_0, .int .i64 a0_1, .slice A0_2 l0_2.length c0_2]) (t := 30) ?hr ?_; (case hd => rfl); (case hg => rfl); (case hr => first | (go_simp; done) | (go_simp; rfl)); intro gb221 hg w10 hbox hb; have n0_ := Aside0.mk (below_step (by repeat (first | (with_reducible first | exact HB.out | apply below_alloc | apply pw_below_drewN | apply below_drew1) | exact HB.out)) hb); have n1_ := Aside0.mk (hbox); have n2_ := Aside0.mk ((by rw [hg]; exact (below_size (by repeat (first | (with_reducible first | exact HB.out | apply below_alloc | apply pw_below_drewN | apply below_drew1) | exact HB.out))) : w.heap.size ≤ gb221)); have n3_ := Aside0.mk ((by rw [hg]; exact (below_size (by repeat (first | (with_reducible first | exact HB.out | apply below_alloc | apply pw_below_drewN | apply below_drew1) | exact HB.out))) : w.heap.size ≤ gb221)); clear HB; have HB := n0_; have BK221 := n1_; have GW221 := n2_; have GE221 := n3_; clear n0_ n1_ n2_ n3_; clear hb hbox hg; have hcz11_0 : w10.cell? ⟨gb221, 0, none⟩ = some (.slice A0_0 l0_0.length c0_0) := (blk_cell BK221.out 0).trans rfl; have hcz11_1 : w10.cell? ⟨gb221, 1, none⟩ = some (.int .i64 a0_1) := (blk_cell BK221.out 1).trans rfl; have hcz11_2 : w10.cell? ⟨gb221, 2, none⟩ = some (.slice A0_2 l0_2.length c0_2) := (blk_cell BK221.out 2).trans rfl; have hfz11_0 := blk_frozen BK221.out 0; have hfz11_1 := blk_frozen BK221.out 1; have hfz11_2 := blk_frozen BK221.out 2) | ((with_reducible refine gate_callee (f := 11) rfl ?_); refine goesL_ (some 18) rfl rfl Try.func11 (by kernel_rfl) rfl #[.agg #[.slice A0_0 l0_0.length c0_0, .int .i64 a0_1, .slice A0_2 l0_2.length c0_2]] rfl (by (try simp only [List.map_toArray, List.map_cons, List.map_nil]); first | done | rfl) ?_; (with_reducible refine (impl_TxOK.calls k _ _ l0_0 a0_1 _ _ l0_2 true _ ?side1 ?side2 ?side3 ?side4 A5.out).mono ?_); (case side1 => repeat (first | exact (Kd.C_below HR0_0.out HB.out) | (with_reducible refine Kd.C_alloc ?_ _) | (with_reducible refine Kd.C_drewN ?_ _) | (with_reducible refine Kd.C_drew ?_))); (case side2 => exact HC0_0.out); (case side3 => repeat (first | exact (Kd.C_below HR0_2.out HB.out) | (with_reducible refine Kd.C_alloc ?_ _) | (with_reducible refine Kd.C_drewN ?_ _) | (with_reducible refine Kd.C_drew ?_))); (case side4 => exact HC0_2.out); rintro e w12 ⟨rfl, hb⟩; refine ⟨_, rfl, ?_⟩; have n0_ := Aside0.mk (blk_below (g := gb221) (o := .cells #[.slice A0_0 l0_0.length c0_0, .int .i64 a0_1, .slice A0_2 l0_2.length c0_2] 30 (0, 0)) (by (with_reducible repeat (first | refine blk_drewN ?_ _ | refine blk_drew ?_ | refine blk_alloc ?_ _)); exact BK221.out) hb); have n1_ := Aside0.mk (below_step (by repeat (first | (with_reducible first | exact HB.out | apply below_alloc | apply pw_below_drewN | apply below_drew1 | refine below_set ?_ GE221.out) | exact HB.out)) hb); clear BK221; clear HB; have BK221 := n0_; have HB := n1_; clear n0_ n1_; (try clear hb); (try clear hb2); (try clear hk); (try clear hi); have hcz13_0 : w12.cell? ⟨gb221, 0, none⟩ = some (.slice A0_0 l0_0.length c0_0) := (blk_cell BK221.out 0).trans rfl; have hcz13_1 : w12.cell? ⟨gb221, 1, none⟩ = some (.int .i64 a0_1) := (blk_cell BK221.out 1).trans rfl; have hcz13_2 : w12.cell? ⟨gb221, 2, none⟩ = some (.slice A0_2 l0_2.length c0_2) := (blk_cell BK221.out 2).trans rfl; have hfz13_0 := blk_frozen BK221.out 0; have hfz13_1 := blk_frozen BK221.out 1; have hfz13_2 := blk_frozen BK221.out 2) | ((with_reducible refine gate_callee (f := 36) rfl ?_); refine goesL_ (some 22) rfl rfl Try.func36 (by kernel_rfl) rfl #[.slice A0_0 l0_0.length c0_0] rfl (by (try simp only [List.map_toArray, List.map_cons, List.map_nil]); first | done | rfl) ?_; (with_reducible refine (slices_Clone_int_int.calls _ _ l0_0 t223 _ ?side1 ?side2 A7.out).mono ?_); (case side1 => repeat (first | exact (Kd.C_below HR0_0.out HB.out) | (with_reducible refine Kd.C_alloc ?_ _) | (with_reducible refine Kd.C_drewN ?_ _) | (with_reducible refine Kd.C_drew ?_))); (case side2 => exact HC0_0.out); rintro e w14 ⟨v224, rfl, ho0, hb⟩; have sl_v224 := Aside0.mk (show ∃ A_ n_ c_, (v224 : Value) = .slice A_ n_ c_ from (by first | (obtain ⟨_, _, e_⟩ := Kd.R_slice ho0; exact ⟨_, _, _, e_⟩) | (obtain ⟨_, _, e_⟩ := Kd.S_slice ho0; exact ⟨_, _, _, e_⟩) | (obtain ⟨_, _, e_⟩ := Kd.N_slice ho0; exact ⟨_, _, _, e_⟩))); refine ⟨_, rfl, ?_⟩; have n0_ := Aside0.mk (Kd.R_lower ho0 (below_size (by repeat (first | (with_reducible first | exact HB.out | apply below_alloc | apply pw_below_drewN | apply below_drew1 | refine below_set ?_ GE221.out) | exact HB.out)))); have n1_ := Aside0.mk (blk_below (g := gb221) (o := .cells #[.slice A0_0 l0_0.length c0_0, .int .i64 a0_1, .slice A0_2 l0_2.length c0_2] 30 (0, 0)) (by (with_reducible repeat (first | refine blk_drewN ?_ _ | refine blk_drew ?_ | refine blk_alloc ?_ _)); exact BK221.out) hb); have n2_ := Aside0.mk (below_step (by repeat (first | (with_reducible first | exact HB.out | apply below_alloc | apply pw_below_drewN | apply below_drew1 | refine below_set ?_ GE221.out) | exact HB.out)) hb); clear BK221; clear HB; have HO225 := n0_; have BK221 := n1_; have HB := n2_; clear n0_ n1_ n2_; (try clear hb); (try clear hb2); (try clear hk); (try clear hi); (try clear ho0); have hcz15_0 : w14.cell? ⟨gb221, 0, none⟩ = some (.slice A0_0 l0_0.length c0_0) := (blk_cell BK221.out 0).trans rfl; have hcz15_1 : w14.cell? ⟨gb221, 1, none⟩ = some (.int .i64 a0_1) := (blk_cell BK221.out 1).trans rfl; have hcz15_2 : w14.cell? ⟨gb221, 2, none⟩ = some (.slice A0_2 l0_2.length c0_2) := (blk_cell BK221.out 2).trans rfl; have hfz15_0 := blk_frozen BK221.out 0; have hfz15_1 := blk_frozen BK221.out 1; have hfz15_2 := blk_frozen BK221.out 2) | ((with_reducible refine gate_dst (N := 26) rfl ?_); (try (refine gate_guard (by rfl) ?_; dsimp only)); refine Kd.R_make (Kd.int .i64) _ 3 rfl (N := 26) rfl 22 _ _ rfl (l0_2.length : Int) rfl rfl Try.underlying22 (.int .i64 0) 8 info3 rfl (by decide) (by omega) 0 (ok := fun _ => True) (okp := fun _ => True) rfl (fun _ hk => hk) trivial (of_decide_eq_true (by assumption)) (Nat.le_trans (Nat.mul_le_mul_right _ (of_decide_eq_true (by assumption) : (l0_2.length : Int).toNat ≤ 35184372088832)) (by omega)) (Below.refl _ _) (Nat.le_refl _) ?_; intro v227 w16 ho17 hb hg_ hnew_; clear hg_ hnew_; (first | rw [← Ny226.out] at ho17 | (simp only [Int.reduceToNat] at ho17; rw [← Ny226.out] at ho17)); have n0_ := Aside0.mk (Kd.R_elder' (by (with_reducible repeat (first | apply Kd.R_alloc | apply Kd.R_drewN | apply Kd.R_drew)); exact HO225.out) (Kd.R_base ho17) hb); have n1_ := Aside0.mk (Kd.R_lower (Kd.R_new' ho17 (Kd.R_lt (by (with_reducible repeat (first | apply Kd.R_alloc | apply Kd.R_drewN | apply Kd.R_drew)); exact HO225.out))) (below_size (by repeat (first | (with_reducible first | exact HB.out | apply below_alloc | apply pw_below_drewN | apply below_drew1 | refine below_set ?_ GE221.out) | exact HB.out)))); have n2_ := Aside0.mk (blk_below (g := gb221) (o := .cells #[.slice A0_0 l0_0.length c0_0, .int .i64 a0_1, .slice A0_2 l0_2.length c0_2] 30 (0, 0)) (by (with_reducible repeat (first | refine blk_drewN ?_ _ | refine blk_drew ?_ | refine blk_alloc ?_ _)); exact BK221.out) hb); have n3_ := Aside0.mk (below_step (by repeat (first | (with_reducible first | exact HB.out | apply below_alloc | apply pw_below_drewN | apply below_drew1 | refine below_set ?_ GE221.out) | exact HB.out)) hb); clear HO225; clear BK221; clear HB; have HO225 := n0_; have HO228 := n1_; have BK221 := n2_; have HB := n3_; clear n0_ n1_ n2_ n3_; clear hb ho17))
          go_loopg [29] k (fun kq v29 w' => ∃ (x6_1 : List Int) (x7_1 : List Int) (x29_1 : Int), v29 = .int .i64 x29_1 ∧ Aside0 (impl_TxSerial.l0 kq x6_1 x7_1 l1 (l1.length : Int) x29_1 l0_0 a0_1 l0_2 = some (r1, r2)) ∧ Aside0 (kq ≤ k) ∧ Aside0 (Kd.R (Kd.int .i64) 3 w' w.heap.size (fun k_ => some k_ ≠ (v227 : Value).ownBlock) v224 x6_1) ∧ Aside0 (Kd.R (Kd.int .i64) 3 w' w.heap.size (fun k_ => some k_ ≠ (v224 : Value).ownBlock) v227 x7_1) ∧ Aside0 (w'.heap[gb221]? = some (.cells #[(.slice A0_0 l0_0.length c0_0), .int .i64 a0_1, (.slice A0_2 l0_2.length c0_2)] 30 (0, 0))) ∧ Aside0 (Below w.heap.size w w'))
          case atStart => exact ⟨(t223), (y226), (0), (by first | rfl | (simp; done) | (simp [*]; done)), H', ⟨Nat.le_refl _⟩, ⟨by (with_reducible repeat (first | apply Kd.R_alloc | apply Kd.R_drewN | apply Kd.R_drew)); exact Kd.R_mono HO225.out (fun _ hk => hk.2)⟩, ⟨by (with_reducible repeat (first | apply Kd.R_alloc | apply Kd.R_drewN | apply Kd.R_drew)); exact Kd.R_mono HO228.out (fun _ hk => hk.2)⟩, ⟨by (with_reducible repeat (first | refine blk_drewN ?_ _ | refine blk_drew ?_ | refine blk_alloc ?_ _)); exact BK221.out⟩, ⟨by repeat (first | (with_reducible first | exact HB.out | apply below_alloc | apply pw_below_drewN | apply below_drew1 | refine below_set ?_ GE221.out) | exact HB.out)⟩⟩
          case round =>
            clear H'
            try clear c1
            try clear p2
            try clear c3
            try clear c3b0
            try clear c3b1
            try clear c6
            try clear c8
            try clear c8b0
            try clear c8b1
            try clear c9
            try clear c9b0
            try clear c9b1
            try clear c11
            try clear c15
            try clear hcz11_0
            try clear hcz11_1
            try clear hcz11_2
            try clear hcz13_0
            try clear hcz13_1
            try clear hcz13_2
            try clear hcz15_0
            try clear hcz15_1
            try clear hcz15_2
            try clear hfz11_0
            try clear hfz11_1
            try clear hfz11_2
            try clear hfz13_0
            try clear hfz13_1
            try clear hfz13_2
            try clear hfz15_0
            try clear hfz15_1
            try clear hfz15_2
            obtain ⟨x6_1, x7_1, x29_1, rfl, HA, HK1, HO_6, HO_7, BK221, HB⟩ := hrel
            cases gk with
            | zero => exact absurd HA.out (by simp [impl_TxSerial.l0])
            | succ k1 =>
              have H := HA.out
              clear HA
              simp only [impl_TxSerial.l0] at H
              by_cases c18 : x29_1 < (l1.length : Int)
              · rw [if_pos c18] at H
                have c18b0 : decide (x29_1 < (l1.length : Int)) = true := decide_eq_true c18
                clear c18
                by_cases c19 : 0 ≤ x29_1
                · rw [if_pos c19] at H
                  have c19b0 : decide (0 ≤ x29_1) = true := decide_eq_true c19
                  clear c19
                  by_cases c20 : x29_1 < (l1.length : Int)
                  · rw [if_pos c20] at H
                    have c20b0 : decide (x29_1 < (l1.length : Int)) = true := decide_eq_true c20
                    clear c20
                    have HC21 := Aside0.mk H
                    clear H
                    have p229 : 0 ≤ (x29_1 : Int) := of_decide_eq_true (by assumption)
                    have q229 : x29_1 < (l1.length : Int) := of_decide_eq_true (by assumption)
                    obtain ⟨ad229, e229, hx229_0⟩ := Kd.at_int HR1.out x29_1 p229 q229
                    cases e229
                    replace hx229_0 := (HB.out.cell (World.block_lt_of_cell? w _ hx229_0)).trans hx229_0
                    replace p229 := eq_true p229
                    replace q229 := eq_true q229
                    go_upto_region 10 with (fail)
                    go_cut [53] (fun v53 wc => ∃ (kq : Nat) (x53_20 : Bool), v53 = .bool x53_20 ∧ Aside0 (impl_TxSerial.j1 kq x6_1 x7_1 (rd l1 x29_1) l1 (l1.length : Int) x29_1 x53_20 l0_0 a0_1 l0_2 = some (r1, r2)) ∧ Aside0 (kq ≤ k1) ∧ Aside0 (Kd.R (Kd.int .i64) 3 wc w.heap.size (fun k_ => some k_ ≠ (v227 : Value).ownBlock) v224 x6_1) ∧ Aside0 (Kd.R (Kd.int .i64) 3 wc w.heap.size (fun k_ => some k_ ≠ (v224 : Value).ownBlock) v227 x7_1) ∧ Aside0 (wc.heap[gb221]? = some (.cells #[(.slice A0_0 l0_0.length c0_0), .int .i64 a0_1, (.slice A0_2 l0_2.length c0_2)] 30 (0, 0))) ∧ Aside0 (Below w.heap.size w wc))
                    case first =>
                      have H := HC21.out
                      clear HC21
                      by_cases c22 : (rd l1 x29_1) < 0
                      · rw [if_pos c22] at H
                        have c22b0 : decide ((rd l1 x29_1) < 0) = true := decide_eq_true c22
                        clear c22
                        (first | rw [c22b0] | (simp only [i64_w, i32_w]; rw [c22b0]) | skip)
                        have H' := Aside0.mk H
                        clear H
                        try go_wp2
                        have n0_ := Aside0.mk (Kd.R_drew HO_6.out)
                        have n1_ := Aside0.mk (Kd.R_drew HO_7.out)
                        have n2_ := Aside0.mk (blk_drew BK221.out)
                        have n3_ := Aside0.mk (below_drew1 HB.out)
                        clear HO_6
                        clear HO_7
                        clear BK221
                        clear HB
                        have HO_6 := n0_
                        have HO_7 := n1_
                        have BK221 := n2_
                        have HB := n3_
                        clear n0_ n1_ n2_ n3_
                        refine start_ (n := 21) (S := fun w' => True) (ds := []) #[false, false, false, false, false, false, false, false, false, false, false, false, false, false, false, false, false, false, false, false, false] (by kernel_rfl) rfl rfl trivial (fun hHeld => ?_); refine with_tabW impl_TxSerial.tab10 impl_TxSerial.bits10 (fun HT_ HW_ => ?_)
                        generalize wr.drew = w23 at HO_6 HO_7 BK221 HB hHeld ⊢
                        refine pure_ (i := 0) (N := some 33) (v := ?_) (a' := ?_) #[true, false, false, false, false, false, false, false, false, false, false, false, false, false, false, false, false, false, false, false, false] rfl rfl (any_of HT_.out (by kernel_rfl)) (fun _ _ _ h => h) (Or.inl ⟨by rfl, ?_⟩) ?_ ?_
                        rotate_left
                        · intro w'
                          go_simp
                          with_reducible rfl
                        rotate_left
                        · simp only [Act.put, List.setIfInBounds_toArray, List.set_cons_zero, List.set_cons_succ, i64_w, i32_w]
                          rfl
                        refine pure_ (i := 1) (N := some 34) (v := ?_) (a' := ?_) #[true, true, false, false, false, false, false, false, false, false, false, false, false, false, false, false, false, false, false, false, false] rfl rfl (any_of HT_.out (by kernel_rfl)) (fun _ _ _ h => h) (Or.inl ⟨by rfl, ?_⟩) ?_ ?_
                        rotate_left
                        · intro w'
                          go_simp
                          with_reducible rfl
                        rotate_left
                        · simp only [Act.put, List.setIfInBounds_toArray, List.set_cons_zero, List.set_cons_succ, i64_w, i32_w]
                          rfl
                        refine pure_ (i := 2) (N := some 35) (v := ?_) (a' := ?_) #[true, true, true, false, false, false, false, false, false, false, false, false, false, false, false, false, false, false, false, false, false] rfl rfl (any_of HT_.out (by kernel_rfl)) (fun _ _ _ h => h) (Or.inl ⟨by rfl, ?_⟩) ?_ ?_
                        rotate_left
                        · intro w'
                          go_simp
                          with_reducible rfl
                        rotate_left
                        · simp only [Act.put, List.setIfInBounds_toArray, List.set_cons_zero, List.set_cons_succ, i64_w, i32_w]
                          rfl
                        refine pure_ (i := 3) (N := some 36) (v := undef) (a' := ?_) #[true, true, true, true, false, false, false, false, false, false, false, false, false, false, false, false, false, false, false, false, false] rfl rfl (any_of HT_.out (by kernel_rfl)) (fun _ _ _ h => h) (Or.inr ⟨by rfl, rfl⟩) ?_ ?_
                        rotate_left
                        · simp only [Act.put, List.setIfInBounds_toArray, List.set_cons_zero, List.set_cons_succ, i64_w, i32_w]
                          rfl
                        refine pure_ (i := 4) (N := some 37) (v := undef) (a' := ?_) #[true, true, true, true, true, false, false, false, false, false, false, false, false, false, false, false, false, false, false, false, false] rfl rfl (any_of HT_.out (by kernel_rfl)) (fun _ _ _ h => h) (Or.inr ⟨by rfl, rfl⟩) ?_ ?_
                        rotate_left
                        · simp only [Act.put, List.setIfInBounds_toArray, List.set_cons_zero, List.set_cons_succ, i64_w, i32_w]
                          rfl
                        refine pure_ (i := 5) (N := some 38) (v := undef) (a' := ?_) #[true, true, true, true, true, true, false, false, false, false, false, false, false, false, false, false, false, false, false, false, false] rfl rfl (any_of HT_.out (by kernel_rfl)) (fun _ _ _ h => h) (Or.inr ⟨by rfl, rfl⟩) ?_ ?_
                        rotate_left
                        · simp only [Act.put, List.setIfInBounds_toArray, List.set_cons_zero, List.set_cons_succ, i64_w, i32_w]
                          rfl
                        refine pure_ (i := 6) (N := some 39) (v := undef) (a' := ?_) #[true, true, true, true, true, true, true, false, false, false, false, false, false, false, false, false, false, false, false, false, false] rfl rfl (any_of HT_.out (by kernel_rfl)) (fun _ _ _ h => h) (Or.inr ⟨by rfl, rfl⟩) ?_ ?_
                        rotate_left
                        · simp only [Act.put, List.setIfInBounds_toArray, List.set_cons_zero, List.set_cons_succ, i64_w, i32_w]
                          rfl
                        refine pure_ (i := 7) (N := some 40) (v := ?_) (a' := ?_) #[true, true, true, true, true, true, true, true, false, false, false, false, false, false, false, false, false, false, false, false, false] rfl rfl (any_of HT_.out (by kernel_rfl)) (fun _ _ _ h => h) (Or.inl ⟨by rfl, ?_⟩) ?_ ?_
                        rotate_left
                        · intro w'
                          go_simp
                          with_reducible rfl
                        rotate_left
                        · simp only [Act.put, List.setIfInBounds_toArray, List.set_cons_zero, List.set_cons_succ, i64_w, i32_w]
                          rfl
                        refine pure_ (i := 8) (N := some 41) (v := ?_) (a' := ?_) #[true, true, true, true, true, true, true, true, true, false, false, false, false, false, false, false, false, false, false, false, false] rfl rfl (any_of HT_.out (by kernel_rfl)) (fun _ _ _ h => h) (Or.inl ⟨by rfl, ?_⟩) ?_ ?_
                        rotate_left
                        · intro w'
                          go_simp
                          with_reducible rfl
                        rotate_left
                        · simp only [Act.put, List.setIfInBounds_toArray, List.set_cons_zero, List.set_cons_succ, i64_w, i32_w]
                          rfl
                        refine pure_ (i := 9) (N := some 42) (v := undef) (a' := ?_) #[true, true, true, true, true, true, true, true, true, true, false, false, false, false, false, false, false, false, false, false, false] rfl rfl (any_of HT_.out (by kernel_rfl)) (fun _ _ _ h => h) (Or.inr ⟨by rfl, rfl⟩) ?_ ?_
                        rotate_left
                        · simp only [Act.put, List.setIfInBounds_toArray, List.set_cons_zero, List.set_cons_succ, i64_w, i32_w]
                          rfl
                        refine pure_ (i := 10) (N := some 43) (v := undef) (a' := ?_) #[true, true, true, true, true, true, true, true, true, true, true, false, false, false, false, false, false, false, false, false, false] rfl rfl (any_of HT_.out (by kernel_rfl)) (fun _ _ _ h => h) (Or.inr ⟨by rfl, rfl⟩) ?_ ?_
                        rotate_left
                        · simp only [Act.put, List.setIfInBounds_toArray, List.set_cons_zero, List.set_cons_succ, i64_w, i32_w]
                          rfl
                        refine pure_ (i := 11) (N := some 44) (v := undef) (a' := ?_) #[true, true, true, true, true, true, true, true, true, true, true, true, false, false, false, false, false, false, false, false, false] rfl rfl (any_of HT_.out (by kernel_rfl)) (fun _ _ _ h => h) (Or.inr ⟨by rfl, rfl⟩) ?_ ?_
                        rotate_left
                        · simp only [Act.put, List.setIfInBounds_toArray, List.set_cons_zero, List.set_cons_succ, i64_w, i32_w]
                          rfl
                        refine pure_ (i := 12) (N := some 45) (v := undef) (a' := ?_) #[true, true, true, true, true, true, true, true, true, true, true, true, true, false, false, false, false, false, false, false, false] rfl rfl (any_of HT_.out (by kernel_rfl)) (fun _ _ _ h => h) (Or.inr ⟨by rfl, rfl⟩) ?_ ?_
                        rotate_left
                        · simp only [Act.put, List.setIfInBounds_toArray, List.set_cons_zero, List.set_cons_succ, i64_w, i32_w]
                          rfl
                        refine pure_ (i := 13) (N := some 46) (v := undef) (a' := ?_) #[true, true, true, true, true, true, true, true, true, true, true, true, true, true, false, false, false, false, false, false, false] rfl rfl (any_of HT_.out (by kernel_rfl)) (fun _ _ _ h => h) (Or.inr ⟨by rfl, rfl⟩) ?_ ?_
                        rotate_left
                        · simp only [Act.put, List.setIfInBounds_toArray, List.set_cons_zero, List.set_cons_succ, i64_w, i32_w]
                          rfl
                        refine pure_ (i := 14) (N := some 47) (v := undef) (a' := ?_) #[true, true, true, true, true, true, true, true, true, true, true, true, true, true, true, false, false, false, false, false, false] rfl rfl (any_of HT_.out (by kernel_rfl)) (fun _ _ _ h => h) (Or.inr ⟨by rfl, rfl⟩) ?_ ?_
                        rotate_left
                        · simp only [Act.put, List.setIfInBounds_toArray, List.set_cons_zero, List.set_cons_succ, i64_w, i32_w]
                          rfl
                        refine pure_ (i := 15) (N := some 48) (v := undef) (a' := ?_) #[true, true, true, true, true, true, true, true, true, true, true, true, true, true, true, true, false, false, false, false, false] rfl rfl (any_of HT_.out (by kernel_rfl)) (fun _ _ _ h => h) (Or.inr ⟨by rfl, rfl⟩) ?_ ?_
                        rotate_left
                        · simp only [Act.put, List.setIfInBounds_toArray, List.set_cons_zero, List.set_cons_succ, i64_w, i32_w]
                          rfl
                        refine pure_ (i := 16) (N := some 49) (v := undef) (a' := ?_) #[true, true, true, true, true, true, true, true, true, true, true, true, true, true, true, true, true, false, false, false, false] rfl rfl (any_of HT_.out (by kernel_rfl)) (fun _ _ _ h => h) (Or.inr ⟨by rfl, rfl⟩) ?_ ?_
                        rotate_left
                        · simp only [Act.put, List.setIfInBounds_toArray, List.set_cons_zero, List.set_cons_succ, i64_w, i32_w]
                          rfl
                        refine pure_ (i := 17) (N := some 50) (v := undef) (a' := ?_) #[true, true, true, true, true, true, true, true, true, true, true, true, true, true, true, true, true, true, false, false, false] rfl rfl (any_of HT_.out (by kernel_rfl)) (fun _ _ _ h => h) (Or.inr ⟨by rfl, rfl⟩) ?_ ?_
                        rotate_left
                        · simp only [Act.put, List.setIfInBounds_toArray, List.set_cons_zero, List.set_cons_succ, i64_w, i32_w]
                          rfl
                        refine pure_ (i := 18) (N := some 51) (v := undef) (a' := ?_) #[true, true, true, true, true, true, true, true, true, true, true, true, true, true, true, true, true, true, true, false, false] rfl rfl (any_of HT_.out (by kernel_rfl)) (fun _ _ _ h => h) (Or.inr ⟨by rfl, rfl⟩) ?_ ?_
                        rotate_left
                        · simp only [Act.put, List.setIfInBounds_toArray, List.set_cons_zero, List.set_cons_succ, i64_w, i32_w]
                          rfl
                        refine pure_ (i := 19) (N := some 52) (v := undef) (a' := ?_) #[true, true, true, true, true, true, true, true, true, true, true, true, true, true, true, true, true, true, true, true, false] rfl rfl (any_of HT_.out (by kernel_rfl)) (fun _ _ _ h => h) (Or.inr ⟨by rfl, rfl⟩) ?_ ?_
                        rotate_left
                        · simp only [Act.put, List.setIfInBounds_toArray, List.set_cons_zero, List.set_cons_succ, i64_w, i32_w]
                          rfl
                        refine pure_ (i := 20) (N := some 53) (v := ?_) (a' := ?_) #[true, true, true, true, true, true, true, true, true, true, true, true, true, true, true, true, true, true, true, true, true] rfl rfl (any_of HT_.out (by kernel_rfl)) (fun _ _ _ h => h) (Or.inl ⟨by rfl, ?_⟩) ?_ ?_
                        rotate_left
                        · intro w'
                          go_simp
                          with_reducible rfl
                        rotate_left
                        · simp only [Act.put, List.setIfInBounds_toArray, List.set_cons_zero, List.set_cons_succ, i64_w, i32_w]
                          rfl
                        refine done_ (done_of HT_.out (by kernel_rfl)) ?_
                        try go_wp2
                        go_meet
                        case rel => exact ⟨_, (true), (by first | rfl | (simp; done) | (simp [*]; done)), H', ⟨by have := HK1.out; first | omega | exact Nat.le_refl _⟩, ⟨by (with_reducible repeat (first | apply Kd.R_alloc | apply Kd.R_drewN | apply Kd.R_drew)); exact HO_6.out⟩, ⟨by (with_reducible repeat (first | apply Kd.R_alloc | apply Kd.R_drewN | apply Kd.R_drew)); exact HO_7.out⟩, ⟨by (with_reducible repeat (first | refine blk_drewN ?_ _ | refine blk_drew ?_ | refine blk_alloc ?_ _)); exact BK221.out⟩, ⟨by repeat (first | (with_reducible first | exact HB.out | apply below_alloc | apply pw_below_drewN | apply below_drew1 | refine below_set ?_ GE221.out) | exact HB.out)⟩⟩
                      · rw [if_neg c22] at H
                        have c22b0 : decide ((rd l1 x29_1) < 0) = false := decide_eq_false c22
                        clear c22
                        (first | rw [c22b0] | (simp only [i64_w, i32_w]; rw [c22b0]) | skip)
                        by_cases c24 : (rd l1 x29_1) ≥ (x7_1.length : Int)
                        · rw [if_pos c24] at H
                          have c24b0 : decide ((x7_1.length : Int) ≤ (rd l1 x29_1)) = true := decide_eq_true c24
                          clear c24
                          have H' := Aside0.mk H
                          clear H
                          try go_wp2
                          have n0_ := Aside0.mk (Kd.R_drew HO_6.out)
                          have n1_ := Aside0.mk (Kd.R_drew HO_7.out)
                          have n2_ := Aside0.mk (blk_drew BK221.out)
                          have n3_ := Aside0.mk (below_drew1 HB.out)
                          clear HO_6
                          clear HO_7
                          clear BK221
                          clear HB
                          have HO_6 := n0_
                          have HO_7 := n1_
                          have BK221 := n2_
                          have HB := n3_
                          clear n0_ n1_ n2_ n3_
                          obtain ⟨Ao26, co26, eo26⟩ := Kd.R_slice HO_7.out
                          (first | subst eo26 | (injection eo26 with f1_ f2_ f3_; have f4_ := f1_.symm; have f5_ := f3_.symm; clear f1_ f2_ f3_; subst f4_; subst f5_))
                          refine start_ (n := 21) (S := fun w' => True) (ds := []) #[false, false, false, false, false, false, false, false, false, false, false, false, false, false, false, false, false, false, false, false, false] (by kernel_rfl) rfl rfl trivial (fun hHeld => ?_); refine with_tabW impl_TxSerial.tab10 impl_TxSerial.bits10 (fun HT_ HW_ => ?_)
                          generalize wr.drew = w25 at HO_6 HO_7 BK221 HB hHeld ⊢
                          refine pure_ (i := 0) (N := some 33) (v := ?_) (a' := ?_) #[true, false, false, false, false, false, false, false, false, false, false, false, false, false, false, false, false, false, false, false, false] rfl rfl (any_of HT_.out (by kernel_rfl)) (fun _ _ _ h => h) (Or.inl ⟨by rfl, ?_⟩) ?_ ?_
                          rotate_left
                          · intro w'
                            go_simp
                            with_reducible rfl
                          rotate_left
                          · simp only [Act.put, List.setIfInBounds_toArray, List.set_cons_zero, List.set_cons_succ, i64_w, i32_w]
                            rfl
                          refine pure_ (i := 1) (N := some 34) (v := ?_) (a' := ?_) #[true, true, false, false, false, false, false, false, false, false, false, false, false, false, false, false, false, false, false, false, false] rfl rfl (any_of HT_.out (by kernel_rfl)) (fun _ _ _ h => h) (Or.inl ⟨by rfl, ?_⟩) ?_ ?_
                          rotate_left
                          · intro w'
                            go_simp
                            with_reducible rfl
                          rotate_left
                          · simp only [Act.put, List.setIfInBounds_toArray, List.set_cons_zero, List.set_cons_succ, i64_w, i32_w]
                            rfl
                          refine pure_ (i := 2) (N := some 35) (v := ?_) (a' := ?_) #[true, true, true, false, false, false, false, false, false, false, false, false, false, false, false, false, false, false, false, false, false] rfl rfl (any_of HT_.out (by kernel_rfl)) (fun _ _ _ h => h) (Or.inl ⟨by rfl, ?_⟩) ?_ ?_
                          rotate_left
                          · intro w'
                            go_simp
                            with_reducible rfl
                          rotate_left
                          · simp only [Act.put, List.setIfInBounds_toArray, List.set_cons_zero, List.set_cons_succ, i64_w, i32_w]
                            rfl
                          refine pure_ (i := 3) (N := some 36) (v := ?_) (a' := ?_) #[true, true, true, true, false, false, false, false, false, false, false, false, false, false, false, false, false, false, false, false, false] rfl rfl (any_of HT_.out (by kernel_rfl)) (fun _ _ _ h => h) (Or.inl ⟨by rfl, ?_⟩) ?_ ?_
                          rotate_left
                          · intro w'
                            go_simp
                            with_reducible rfl
                          rotate_left
                          · simp only [Act.put, List.setIfInBounds_toArray, List.set_cons_zero, List.set_cons_succ, i64_w, i32_w]
                            rfl
                          refine pure_ (i := 4) (N := some 37) (v := ?_) (a' := ?_) #[true, true, true, true, true, false, false, false, false, false, false, false, false, false, false, false, false, false, false, false, false] rfl rfl (any_of HT_.out (by kernel_rfl)) (fun _ _ _ h => h) (Or.inl ⟨by rfl, ?_⟩) ?_ ?_
                          rotate_left
                          · intro w'
                            go_simp
                            with_reducible rfl
                          rotate_left
                          · simp only [Act.put, List.setIfInBounds_toArray, List.set_cons_zero, List.set_cons_succ, i64_w, i32_w]
                            rfl
                          refine pure_ (i := 5) (N := some 38) (v := ?_) (a' := ?_) #[true, true, true, true, true, true, false, false, false, false, false, false, false, false, false, false, false, false, false, false, false] rfl rfl (any_of HT_.out (by kernel_rfl)) (fun _ _ _ h => h) (Or.inl ⟨by rfl, ?_⟩) ?_ ?_
                          rotate_left
                          · intro w'
                            go_simp
                            with_reducible rfl
                          rotate_left
                          · simp only [Act.put, List.setIfInBounds_toArray, List.set_cons_zero, List.set_cons_succ, i64_w, i32_w]
                            rfl
                          refine pure_ (i := 6) (N := some 39) (v := ?_) (a' := ?_) #[true, true, true, true, true, true, true, false, false, false, false, false, false, false, false, false, false, false, false, false, false] rfl rfl (any_of HT_.out (by kernel_rfl)) (fun _ _ _ h => h) (Or.inl ⟨by rfl, ?_⟩) ?_ ?_
                          rotate_left
                          · intro w'
                            go_simp
                            with_reducible rfl
                          rotate_left
                          · simp only [Act.put, List.setIfInBounds_toArray, List.set_cons_zero, List.set_cons_succ, i64_w, i32_w]
                            rfl
                          refine pure_ (i := 7) (N := some 40) (v := ?_) (a' := ?_) #[true, true, true, true, true, true, true, true, false, false, false, false, false, false, false, false, false, false, false, false, false] rfl rfl (any_of HT_.out (by kernel_rfl)) (fun _ _ _ h => h) (Or.inl ⟨by rfl, ?_⟩) ?_ ?_
                          rotate_left
                          · intro w'
                            go_simp
                            with_reducible rfl
                          rotate_left
                          · simp only [Act.put, List.setIfInBounds_toArray, List.set_cons_zero, List.set_cons_succ, i64_w, i32_w]
                            rfl
                          refine pure_ (i := 8) (N := some 41) (v := ?_) (a' := ?_) #[true, true, true, true, true, true, true, true, true, false, false, false, false, false, false, false, false, false, false, false, false] rfl rfl (any_of HT_.out (by kernel_rfl)) (fun _ _ _ h => h) (Or.inl ⟨by rfl, ?_⟩) ?_ ?_
                          rotate_left
                          · intro w'
                            go_simp
                            with_reducible rfl
                          rotate_left
                          · simp only [Act.put, List.setIfInBounds_toArray, List.set_cons_zero, List.set_cons_succ, i64_w, i32_w]
                            rfl
                          refine pure_ (i := 9) (N := some 42) (v := undef) (a' := ?_) #[true, true, true, true, true, true, true, true, true, true, false, false, false, false, false, false, false, false, false, false, false] rfl rfl (any_of HT_.out (by kernel_rfl)) (fun _ _ _ h => h) (Or.inr ⟨by rfl, rfl⟩) ?_ ?_
                          rotate_left
                          · simp only [Act.put, List.setIfInBounds_toArray, List.set_cons_zero, List.set_cons_succ, i64_w, i32_w]
                            rfl
                          refine pure_ (i := 10) (N := some 43) (v := undef) (a' := ?_) #[true, true, true, true, true, true, true, true, true, true, true, false, false, false, false, false, false, false, false, false, false] rfl rfl (any_of HT_.out (by kernel_rfl)) (fun _ _ _ h => h) (Or.inr ⟨by rfl, rfl⟩) ?_ ?_
                          rotate_left
                          · simp only [Act.put, List.setIfInBounds_toArray, List.set_cons_zero, List.set_cons_succ, i64_w, i32_w]
                            rfl
                          refine pure_ (i := 11) (N := some 44) (v := undef) (a' := ?_) #[true, true, true, true, true, true, true, true, true, true, true, true, false, false, false, false, false, false, false, false, false] rfl rfl (any_of HT_.out (by kernel_rfl)) (fun _ _ _ h => h) (Or.inr ⟨by rfl, rfl⟩) ?_ ?_
                          rotate_left
                          · simp only [Act.put, List.setIfInBounds_toArray, List.set_cons_zero, List.set_cons_succ, i64_w, i32_w]
                            rfl
                          refine pure_ (i := 12) (N := some 45) (v := undef) (a' := ?_) #[true, true, true, true, true, true, true, true, true, true, true, true, true, false, false, false, false, false, false, false, false] rfl rfl (any_of HT_.out (by kernel_rfl)) (fun _ _ _ h => h) (Or.inr ⟨by rfl, rfl⟩) ?_ ?_
                          rotate_left
                          · simp only [Act.put, List.setIfInBounds_toArray, List.set_cons_zero, List.set_cons_succ, i64_w, i32_w]
                            rfl
                          refine pure_ (i := 13) (N := some 46) (v := undef) (a' := ?_) #[true, true, true, true, true, true, true, true, true, true, true, true, true, true, false, false, false, false, false, false, false] rfl rfl (any_of HT_.out (by kernel_rfl)) (fun _ _ _ h => h) (Or.inr ⟨by rfl, rfl⟩) ?_ ?_
                          rotate_left
                          · simp only [Act.put, List.setIfInBounds_toArray, List.set_cons_zero, List.set_cons_succ, i64_w, i32_w]
                            rfl
                          refine pure_ (i := 14) (N := some 47) (v := undef) (a' := ?_) #[true, true, true, true, true, true, true, true, true, true, true, true, true, true, true, false, false, false, false, false, false] rfl rfl (any_of HT_.out (by kernel_rfl)) (fun _ _ _ h => h) (Or.inr ⟨by rfl, rfl⟩) ?_ ?_
                          rotate_left
                          · simp only [Act.put, List.setIfInBounds_toArray, List.set_cons_zero, List.set_cons_succ, i64_w, i32_w]
                            rfl
                          refine pure_ (i := 15) (N := some 48) (v := undef) (a' := ?_) #[true, true, true, true, true, true, true, true, true, true, true, true, true, true, true, true, false, false, false, false, false] rfl rfl (any_of HT_.out (by kernel_rfl)) (fun _ _ _ h => h) (Or.inr ⟨by rfl, rfl⟩) ?_ ?_
                          rotate_left
                          · simp only [Act.put, List.setIfInBounds_toArray, List.set_cons_zero, List.set_cons_succ, i64_w, i32_w]
                            rfl
                          refine pure_ (i := 16) (N := some 49) (v := undef) (a' := ?_) #[true, true, true, true, true, true, true, true, true, true, true, true, true, true, true, true, true, false, false, false, false] rfl rfl (any_of HT_.out (by kernel_rfl)) (fun _ _ _ h => h) (Or.inr ⟨by rfl, rfl⟩) ?_ ?_
                          rotate_left
                          · simp only [Act.put, List.setIfInBounds_toArray, List.set_cons_zero, List.set_cons_succ, i64_w, i32_w]
                            rfl
                          refine pure_ (i := 17) (N := some 50) (v := undef) (a' := ?_) #[true, true, true, true, true, true, true, true, true, true, true, true, true, true, true, true, true, true, false, false, false] rfl rfl (any_of HT_.out (by kernel_rfl)) (fun _ _ _ h => h) (Or.inr ⟨by rfl, rfl⟩) ?_ ?_
                          rotate_left
                          · simp only [Act.put, List.setIfInBounds_toArray, List.set_cons_zero, List.set_cons_succ, i64_w, i32_w]
                            rfl
                          refine pure_ (i := 18) (N := some 51) (v := undef) (a' := ?_) #[true, true, true, true, true, true, true, true, true, true, true, true, true, true, true, true, true, true, true, false, false] rfl rfl (any_of HT_.out (by kernel_rfl)) (fun _ _ _ h => h) (Or.inr ⟨by rfl, rfl⟩) ?_ ?_
                          rotate_left
                          · simp only [Act.put, List.setIfInBounds_toArray, List.set_cons_zero, List.set_cons_succ, i64_w, i32_w]
                            rfl
                          refine pure_ (i := 19) (N := some 52) (v := undef) (a' := ?_) #[true, true, true, true, true, true, true, true, true, true, true, true, true, true, true, true, true, true, true, true, false] rfl rfl (any_of HT_.out (by kernel_rfl)) (fun _ _ _ h => h) (Or.inr ⟨by rfl, rfl⟩) ?_ ?_
                          rotate_left
                          · simp only [Act.put, List.setIfInBounds_toArray, List.set_cons_zero, List.set_cons_succ, i64_w, i32_w]
                            rfl
                          refine pure_ (i := 20) (N := some 53) (v := ?_) (a' := ?_) #[true, true, true, true, true, true, true, true, true, true, true, true, true, true, true, true, true, true, true, true, true] rfl rfl (any_of HT_.out (by kernel_rfl)) (fun _ _ _ h => h) (Or.inl ⟨by rfl, ?_⟩) ?_ ?_
                          rotate_left
                          · intro w'
                            go_simp
                            with_reducible rfl
                          rotate_left
                          · simp only [Act.put, List.setIfInBounds_toArray, List.set_cons_zero, List.set_cons_succ, i64_w, i32_w]
                            rfl
                          refine done_ (done_of HT_.out (by kernel_rfl)) ?_
                          try go_wp2
                          go_meet
                          case rel => exact ⟨_, (true), (by first | rfl | (simp; done) | (simp [*]; done)), H', ⟨by have := HK1.out; first | omega | exact Nat.le_refl _⟩, ⟨by (with_reducible repeat (first | apply Kd.R_alloc | apply Kd.R_drewN | apply Kd.R_drew)); exact HO_6.out⟩, ⟨by (with_reducible repeat (first | apply Kd.R_alloc | apply Kd.R_drewN | apply Kd.R_drew)); exact HO_7.out⟩, ⟨by (with_reducible repeat (first | refine blk_drewN ?_ _ | refine blk_drew ?_ | refine blk_alloc ?_ _)); exact BK221.out⟩, ⟨by repeat (first | (with_reducible first | exact HB.out | apply below_alloc | apply pw_below_drewN | apply below_drew1 | refine below_set ?_ GE221.out) | exact HB.out)⟩⟩
                        · rw [if_neg c24] at H
                          have c24b0 : decide ((x7_1.length : Int) ≤ (rd l1 x29_1)) = false := decide_eq_false c24
                          clear c24
                          by_cases c27 : 0 ≤ (rd l1 x29_1)
                          · rw [if_pos c27] at H
                            have c27b0 : decide (0 ≤ (rd l1 x29_1)) = true := decide_eq_true c27
                            clear c27
                            by_cases c28 : (rd l1 x29_1) < (x7_1.length : Int)
                            · rw [if_pos c28] at H
                              have c28b0 : decide ((rd l1 x29_1) < (x7_1.length : Int)) = true := decide_eq_true c28
                              clear c28
                              by_cases c29 : (rd l1 x29_1) < (l0_2.length : Int)
                              · rw [if_pos c29] at H
                                have c29b0 : decide ((rd l1 x29_1) < (l0_2.length : Int)) = true := decide_eq_true c29
                                clear c29
                                have H' := Aside0.mk H
                                clear H
                                try go_wp2
                                have n0_ := Aside0.mk (Kd.R_drew HO_6.out)
                                have n1_ := Aside0.mk (Kd.R_drew HO_7.out)
                                have n2_ := Aside0.mk (blk_drew BK221.out)
                                have n3_ := Aside0.mk (below_drew1 HB.out)
                                clear HO_6
                                clear HO_7
                                clear BK221
                                clear HB
                                have HO_6 := n0_
                                have HO_7 := n1_
                                have BK221 := n2_
                                have HB := n3_
                                clear n0_ n1_ n2_ n3_
                                obtain ⟨Ao31, co31, eo31⟩ := Kd.R_slice HO_7.out
                                (first | subst eo31 | (injection eo31 with f1_ f2_ f3_; have f4_ := f1_.symm; have f5_ := f3_.symm; clear f1_ f2_ f3_; subst f4_; subst f5_))
                                have p230 : 0 ≤ ((rd l1 x29_1) : Int) := of_decide_eq_true (by assumption)
                                have q230 : (rd l1 x29_1) < (x7_1.length : Int) := of_decide_eq_true (by assumption)
                                obtain ⟨ad230, e230, hx230_0⟩ := Kd.at_int (Kd.R_reads' HO_7.out).2.2 (rd l1 x29_1) p230 q230
                                cases e230
                                replace p230 := eq_true p230
                                replace q230 := eq_true q230
                                have p231 : 0 ≤ ((rd l1 x29_1) : Int) := of_decide_eq_true (by assumption)
                                have q231 : (rd l1 x29_1) < (l0_2.length : Int) := of_decide_eq_true (by assumption)
                                obtain ⟨ad231, A231_0, c231_0, e231, hx231_0, hl231_0, hi231_0⟩ := at_L6 HR0_2.out (rd l1 x29_1) p231 q231
                                have hw231_0 := hx231_0
                                cases e231
                                replace hx231_0 := (HB.out.cell (World.block_lt_of_cell? w _ hx231_0)).trans hx231_0
                                have HR231_0 := Aside0.mk hi231_0
                                have HC231_0 := Aside0.mk hl231_0
                                clear hi231_0 hl231_0
                                replace p231 := eq_true p231
                                replace q231 := eq_true q231
                                refine start_ (n := 21) (S := fun w' => w'.cell? ⟨gb221, 0, none⟩ = some (.slice A0_0 l0_0.length c0_0) ∧ w'.cell? ⟨gb221, 1, none⟩ = some (.int .i64 a0_1) ∧ w'.cell? ⟨gb221, 2, none⟩ = some (.slice (some ad231) l0_2.length c0_2) ∧ w'.cell? (ad230.add ((rd l1 x29_1)).toNat) = some (.int .i64 (rd x7_1 (rd l1 x29_1))) ∧ w'.cell? (ad231.add ((rd l1 x29_1)).toNat) = some (.slice A231_0 (rd_L6 l0_2 (rd l1 x29_1)).length c231_0)) (ds := []) #[false, false, false, false, false, false, false, false, false, false, false, false, false, false, false, false, false, false, false, false, false] (by kernel_rfl) rfl rfl ⟨(blk_cell BK221.out 0).trans rfl, (blk_cell BK221.out 1).trans rfl, (blk_cell BK221.out 2).trans rfl, hx230_0, ((HB.out.cell (World.block_lt_of_cell? w _ hw231_0)).trans hw231_0)⟩ (fun hHeld => ?_); refine with_tabW impl_TxSerial.tab10 impl_TxSerial.bits10 (fun HT_ HW_ => ?_)
                                generalize wr.drew = w30 at HO_6 HO_7 BK221 HB HR231_0 hx230_0 hx231_0 hHeld ⊢
                                refine pure_ (i := 0) (N := some 33) (v := ?_) (a' := ?_) #[true, false, false, false, false, false, false, false, false, false, false, false, false, false, false, false, false, false, false, false, false] rfl rfl (any_of HT_.out (by kernel_rfl)) (fun _ _ _ h => h) (Or.inl ⟨by rfl, ?_⟩) ?_ ?_
                                rotate_left
                                · intro w'
                                  go_simp
                                  with_reducible rfl
                                rotate_left
                                · simp only [Act.put, List.setIfInBounds_toArray, List.set_cons_zero, List.set_cons_succ, i64_w, i32_w]
                                  rfl
                                refine pure_ (i := 1) (N := some 34) (v := ?_) (a' := ?_) #[true, true, false, false, false, false, false, false, false, false, false, false, false, false, false, false, false, false, false, false, false] rfl rfl (any_of HT_.out (by kernel_rfl)) (fun _ _ _ h => h) (Or.inl ⟨by rfl, ?_⟩) ?_ ?_
                                rotate_left
                                · intro w'
                                  go_simp
                                  with_reducible rfl
                                rotate_left
                                · simp only [Act.put, List.setIfInBounds_toArray, List.set_cons_zero, List.set_cons_succ, i64_w, i32_w]
                                  rfl
                                refine pure_ (i := 2) (N := some 35) (v := ?_) (a' := ?_) #[true, true, true, false, false, false, false, false, false, false, false, false, false, false, false, false, false, false, false, false, false] rfl rfl (any_of HT_.out (by kernel_rfl)) (fun _ _ _ h => h) (Or.inl ⟨by rfl, ?_⟩) ?_ ?_
                                rotate_left
                                · intro w'
                                  go_simp
                                  with_reducible rfl
                                rotate_left
                                · simp only [Act.put, List.setIfInBounds_toArray, List.set_cons_zero, List.set_cons_succ, i64_w, i32_w]
                                  rfl
                                refine pure_ (i := 3) (N := some 36) (v := ?_) (a' := ?_) #[true, true, true, true, false, false, false, false, false, false, false, false, false, false, false, false, false, false, false, false, false] rfl rfl (any_of HT_.out (by kernel_rfl)) (fun _ _ _ h => h) (Or.inl ⟨by rfl, ?_⟩) ?_ ?_
                                rotate_left
                                · intro w'
                                  go_simp
                                  with_reducible rfl
                                rotate_left
                                · simp only [Act.put, List.setIfInBounds_toArray, List.set_cons_zero, List.set_cons_succ, i64_w, i32_w]
                                  rfl
                                refine pure_ (i := 4) (N := some 37) (v := ?_) (a' := ?_) #[true, true, true, true, true, false, false, false, false, false, false, false, false, false, false, false, false, false, false, false, false] rfl rfl (any_of HT_.out (by kernel_rfl)) (fun _ _ _ h => h) (Or.inl ⟨by rfl, ?_⟩) ?_ ?_
                                rotate_left
                                · intro w'
                                  go_simp
                                  with_reducible rfl
                                rotate_left
                                · simp only [Act.put, List.setIfInBounds_toArray, List.set_cons_zero, List.set_cons_succ, i64_w, i32_w]
                                  rfl
                                refine pure_ (i := 5) (N := some 38) (v := ?_) (a' := ?_) #[true, true, true, true, true, true, false, false, false, false, false, false, false, false, false, false, false, false, false, false, false] rfl rfl (any_of HT_.out (by kernel_rfl)) (fun _ _ _ h => h) (Or.inl ⟨by rfl, ?_⟩) ?_ ?_
                                rotate_left
                                · intro w'
                                  go_simp
                                  with_reducible rfl
                                rotate_left
                                · simp only [Act.put, List.setIfInBounds_toArray, List.set_cons_zero, List.set_cons_succ, i64_w, i32_w]
                                  rfl
                                refine pure_ (i := 6) (N := some 39) (v := ?_) (a' := ?_) #[true, true, true, true, true, true, true, false, false, false, false, false, false, false, false, false, false, false, false, false, false] rfl rfl (any_of HT_.out (by kernel_rfl)) (fun _ _ _ h => h) (Or.inl ⟨by rfl, ?_⟩) ?_ ?_
                                rotate_left
                                · intro w'
                                  go_simp
                                  with_reducible rfl
                                rotate_left
                                · simp only [Act.put, List.setIfInBounds_toArray, List.set_cons_zero, List.set_cons_succ, i64_w, i32_w]
                                  rfl
                                refine pure_ (i := 7) (N := some 40) (v := ?_) (a' := ?_) #[true, true, true, true, true, true, true, true, false, false, false, false, false, false, false, false, false, false, false, false, false] rfl rfl (any_of HT_.out (by kernel_rfl)) (fun _ _ _ h => h) (Or.inl ⟨by rfl, ?_⟩) ?_ ?_
                                rotate_left
                                · intro w'
                                  go_simp
                                  with_reducible rfl
                                rotate_left
                                · simp only [Act.put, List.setIfInBounds_toArray, List.set_cons_zero, List.set_cons_succ, i64_w, i32_w]
                                  rfl
                                refine pure_ (i := 8) (N := some 41) (v := ?_) (a' := ?_) #[true, true, true, true, true, true, true, true, true, false, false, false, false, false, false, false, false, false, false, false, false] rfl rfl (any_of HT_.out (by kernel_rfl)) (fun _ _ _ h => h) (Or.inl ⟨by rfl, ?_⟩) ?_ ?_
                                rotate_left
                                · intro w'
                                  go_simp
                                  with_reducible rfl
                                rotate_left
                                · simp only [Act.put, List.setIfInBounds_toArray, List.set_cons_zero, List.set_cons_succ, i64_w, i32_w]
                                  rfl
                                refine pure_ (i := 9) (N := some 42) (v := ?_) (a' := ?_) #[true, true, true, true, true, true, true, true, true, true, false, false, false, false, false, false, false, false, false, false, false] rfl rfl (any_of HT_.out (by kernel_rfl)) (fun _ _ _ h => h) (Or.inl ⟨by rfl, ?_⟩) ?_ ?_
                                rotate_left
                                · intro w'
                                  go_simp
                                  with_reducible rfl
                                rotate_left
                                · simp only [Act.put, List.setIfInBounds_toArray, List.set_cons_zero, List.set_cons_succ, i64_w, i32_w]
                                  rfl
                                refine pure_ (i := 10) (N := some 43) (v := ?_) (a' := ?_) #[true, true, true, true, true, true, true, true, true, true, true, false, false, false, false, false, false, false, false, false, false] rfl rfl (any_of HT_.out (by kernel_rfl)) (fun _ _ _ h => h) (Or.inl ⟨by rfl, ?_⟩) ?_ ?_
                                rotate_left
                                · intro w'
                                  go_simp
                                  with_reducible rfl
                                rotate_left
                                · simp only [Act.put, List.setIfInBounds_toArray, List.set_cons_zero, List.set_cons_succ, i64_w, i32_w]
                                  rfl
                                refine pure_ (i := 11) (N := some 44) (v := ?_) (a' := ?_) #[true, true, true, true, true, true, true, true, true, true, true, true, false, false, false, false, false, false, false, false, false] rfl rfl (any_of HT_.out (by kernel_rfl)) (fun _ _ _ h => h) (Or.inl ⟨by rfl, ?_⟩) ?_ ?_
                                rotate_left
                                · intro w'
                                  go_simp
                                  with_reducible rfl
                                rotate_left
                                · simp only [Act.put, List.setIfInBounds_toArray, List.set_cons_zero, List.set_cons_succ, i64_w, i32_w]
                                  rfl
                                refine pure_ (i := 13) (N := some 46) (v := ?_) (a' := ?_) #[true, true, true, true, true, true, true, true, true, true, true, true, false, true, false, false, false, false, false, false, false] rfl rfl (any_of HT_.out (by kernel_rfl)) (fun _ _ _ h => h) (Or.inl ⟨by rfl, ?_⟩) ?_ ?_
                                rotate_left
                                · intro w'
                                  go_simp
                                  with_reducible rfl
                                rotate_left
                                · simp only [Act.put, List.setIfInBounds_toArray, List.set_cons_zero, List.set_cons_succ, i64_w, i32_w]
                                  rfl
                                refine pure_ (i := 15) (N := some 48) (v := ?_) (a' := ?_) #[true, true, true, true, true, true, true, true, true, true, true, true, false, true, false, true, false, false, false, false, false] rfl rfl (any_of HT_.out (by kernel_rfl)) (fun _ _ _ h => h) (Or.inl ⟨by rfl, ?_⟩) ?_ ?_
                                rotate_left
                                · intro w'
                                  go_simp
                                  with_reducible rfl
                                rotate_left
                                · simp only [Act.put, List.setIfInBounds_toArray, List.set_cons_zero, List.set_cons_succ, i64_w, i32_w]
                                  rfl
                                refine take_ (i := 12) (N := some 45) (v := ?_) (a' := ?_) #[true, true, true, true, true, true, true, true, true, true, true, true, true, true, false, true, false, false, false, false, false] rfl rfl (take_ofW HT_.out HW_.out (by kernel_rfl)) (fun _ _ _ h => h) (Or.inl ⟨by rfl, ?_⟩) hHeld ?_ ?_
                                rotate_left
                                · rintro w' ⟨s0, s1, s2, s3, s4⟩
                                  go_simp
                                  with_reducible rfl
                                rotate_left
                                · simp only [Act.put, List.setIfInBounds_toArray, List.set_cons_zero, List.set_cons_succ, i64_w, i32_w]
                                  rfl
                                refine take_ (i := 14) (N := some 47) (v := ?_) (a' := ?_) #[true, true, true, true, true, true, true, true, true, true, true, true, true, true, true, true, false, false, false, false, false] rfl rfl (take_ofW HT_.out HW_.out (by kernel_rfl)) (fun _ _ _ h => h) (Or.inl ⟨by rfl, ?_⟩) hHeld ?_ ?_
                                rotate_left
                                · rintro w' ⟨s0, s1, s2, s3, s4⟩
                                  go_simp
                                  with_reducible rfl
                                rotate_left
                                · simp only [Act.put, List.setIfInBounds_toArray, List.set_cons_zero, List.set_cons_succ, i64_w, i32_w]
                                  rfl
                                refine pure_ (i := 16) (N := some 49) (v := ?_) (a' := ?_) #[true, true, true, true, true, true, true, true, true, true, true, true, true, true, true, true, true, false, false, false, false] rfl rfl (any_of HT_.out (by kernel_rfl)) (fun _ _ _ h => h) (Or.inl ⟨by rfl, ?_⟩) ?_ ?_
                                rotate_left
                                · intro w'
                                  go_simp
                                  with_reducible rfl
                                rotate_left
                                · simp only [Act.put, List.setIfInBounds_toArray, List.set_cons_zero, List.set_cons_succ, i64_w, i32_w]
                                  rfl
                                refine take_ (i := 17) (N := some 50) (v := ?_) (a' := ?_) #[true, true, true, true, true, true, true, true, true, true, true, true, true, true, true, true, true, true, false, false, false] rfl rfl (take_ofW HT_.out HW_.out (by kernel_rfl)) (fun _ _ _ h => h) (Or.inl ⟨by rfl, ?_⟩) hHeld ?_ ?_
                                rotate_left
                                · rintro w' ⟨s0, s1, s2, s3, s4⟩
                                  go_simp
                                  with_reducible rfl
                                rotate_left
                                · simp only [Act.put, List.setIfInBounds_toArray, List.set_cons_zero, List.set_cons_succ, i64_w, i32_w]
                                  rfl
                                refine pure_ (i := 18) (N := some 51) (v := ?_) (a' := ?_) #[true, true, true, true, true, true, true, true, true, true, true, true, true, true, true, true, true, true, true, false, false] rfl rfl (any_of HT_.out (by kernel_rfl)) (fun _ _ _ h => h) (Or.inl ⟨by rfl, ?_⟩) ?_ ?_
                                rotate_left
                                · intro w'
                                  go_simp
                                  with_reducible rfl
                                rotate_left
                                · simp only [Act.put, List.setIfInBounds_toArray, List.set_cons_zero, List.set_cons_succ, i64_w, i32_w]
                                  rfl
                                refine pure_ (i := 19) (N := some 52) (v := ?_) (a' := ?_) #[true, true, true, true, true, true, true, true, true, true, true, true, true, true, true, true, true, true, true, true, false] rfl rfl (any_of HT_.out (by kernel_rfl)) (fun _ _ _ h => h) (Or.inl ⟨by rfl, ?_⟩) ?_ ?_
                                rotate_left
                                · intro w'
                                  go_simp
                                  with_reducible rfl
                                rotate_left
                                · simp only [Act.put, List.setIfInBounds_toArray, List.set_cons_zero, List.set_cons_succ, i64_w, i32_w]
                                  rfl
                                refine pure_ (i := 20) (N := some 53) (v := ?_) (a' := ?_) #[true, true, true, true, true, true, true, true, true, true, true, true, true, true, true, true, true, true, true, true, true] rfl rfl (any_of HT_.out (by kernel_rfl)) (fun _ _ _ h => h) (Or.inl ⟨by rfl, ?_⟩) ?_ ?_
                                rotate_left
                                · intro w'
                                  go_simp
                                  with_reducible rfl
                                rotate_left
                                · simp only [Act.put, List.setIfInBounds_toArray, List.set_cons_zero, List.set_cons_succ, i64_w, i32_w]
                                  rfl
                                refine done_ (done_of HT_.out (by kernel_rfl)) ?_
                                try go_wp2
                                go_meet
                                case rel => exact ⟨_, (decide ((rd x7_1 (rd l1 x29_1)) ≥ ((rd_L6 l0_2 (rd l1 x29_1)).length : Int))), (by first | rfl | (simp; done) | (simp [*]; done)), H', ⟨by have := HK1.out; first | omega | exact Nat.le_refl _⟩, ⟨by (with_reducible repeat (first | apply Kd.R_alloc | apply Kd.R_drewN | apply Kd.R_drew)); exact HO_6.out⟩, ⟨by (with_reducible repeat (first | apply Kd.R_alloc | apply Kd.R_drewN | apply Kd.R_drew)); exact HO_7.out⟩, ⟨by (with_reducible repeat (first | refine blk_drewN ?_ _ | refine blk_drew ?_ | refine blk_alloc ?_ _)); exact BK221.out⟩, ⟨by repeat (first | (with_reducible first | exact HB.out | apply below_alloc | apply pw_below_drewN | apply below_drew1 | refine below_set ?_ GE221.out) | exact HB.out)⟩⟩
                              · rw [if_neg c29] at H
                                exact absurd H (by simp)
                            · rw [if_neg c28] at H
                              exact absurd H (by simp)
                          · rw [if_neg c27] at H
                            exact absurd H (by simp)
                    case rest =>
                      clear HC21
                      try clear c1
                      try clear c2
                      try clear p2
                      try clear q2
                      try clear hx2
                      try clear c3
                      try clear c3b0
                      try clear c3b1
                      try clear c6
                      try clear c8
                      try clear c8b0
                      try clear c8b1
                      try clear c9
                      try clear c9b0
                      try clear c9b1
                      try clear c11
                      try clear c15
                      try clear c18
                      try clear c18b0
                      try clear c19
                      try clear c19b0
                      try clear c20
                      try clear c20b0
                      try clear c22
                      try clear c22b0
                      try clear p22
                      try clear q22
                      try clear hx22
                      try clear c23
                      try clear p23
                      try clear q23
                      try clear hx23
                      try clear c24
                      try clear c24b0
                      try clear c27
                      try clear c27b0
                      try clear c28
                      try clear c28b0
                      try clear c29
                      try clear c29b0
                      try clear hcz11_0
                      try clear hcz11_1
                      try clear hcz11_2
                      try clear hcz13_0
                      try clear hcz13_1
                      try clear hcz13_2
                      try clear hcz15_0
                      try clear hcz15_1
                      try clear hcz15_2
                      try clear hfz11_0
                      try clear hfz11_1
                      try clear hfz11_2
                      try clear hfz13_0
                      try clear hfz13_1
                      try clear hfz13_2
                      try clear hfz15_0
                      try clear hfz15_1
                      try clear hfz15_2
                      try clear hx229_0
                      try clear hx230_0
                      try clear hx231_0
                      try clear p2
                      try clear p229
                      try clear p230
                      try clear p231
                      try clear q229
                      try clear q230
                      try clear q231
                      obtain ⟨kq, x53_20, rfl, HA, HJ20, HO_6, HO_7, BK221, HB⟩ := hcut
                      cases kq with
                      | zero => exact absurd HA.out (by simp [impl_TxSerial.j1])
                      | succ kj20 =>
                        have H := HA.out
                        clear HA
                        simp only [impl_TxSerial.j1] at H
                        by_cases c32 : x53_20 = true
                        · subst c32
                          have H1 : (some (([] : List Int), 14)) = some (r1, r2) := by rw [if_pos rfl] at H; exact H
                          clear H
                          have H := H1
                          clear H1
                          simp only [Option.some.injEq, Prod.mk.injEq] at H
                          obtain ⟨rfl, rfl⟩ := H
                          go_wp2
                          go_ret2
                          exact ⟨_, by first | rfl | (simp <;> rfl) | (simp [*] <;> rfl), by first | exact Kd.R_nil _ _ _ _ _ | exact Kd.N_nil _ _ _ _ _ | exact Kd.V_nil _ _ _ _ _ | exact Kd.Q_nil _ _ _ _ _ | exact Kd.S_nil _ _ _ _ _, by repeat (first | (with_reducible first | exact HB.out | apply below_alloc | apply pw_below_drewN | apply below_drew1 | refine below_set ?_ GE221.out) | exact HB.out)⟩
                        · replace c32 := Bool.eq_false_iff.mpr c32
                          subst c32
                          have H1 : (if 0 ≤ (rd l1 x29_1) then (if (rd l1 x29_1) < (l0_2.length : Int) then (if (rd l1 x29_1) < (x7_1.length : Int) then (if 0 ≤ (rd x7_1 (rd l1 x29_1)) then (if (rd x7_1 (rd l1 x29_1)) < ((rd_L6 l0_2 (rd l1 x29_1)).length : Int) then (impl_TxSerial.l1 kj20 x6_1 x7_1 (rd l1 x29_1) l1 (l1.length : Int) x29_1 (rd_L5 (rd_L6 l0_2 (rd l1 x29_1)) (rd x7_1 (rd l1 x29_1))) ((rd_L5 (rd_L6 l0_2 (rd l1 x29_1)) (rd x7_1 (rd l1 x29_1))).length : Int) 0 l0_0 a0_1 l0_2) else (none)) else (none)) else (none)) else (none)) else (none)) = some (r1, r2) := by rw [if_neg (show ¬ (false = true) by decide)] at H; exact H
                          clear H
                          have H := H1
                          clear H1
                          by_cases c33 : 0 ≤ (rd l1 x29_1)
                          · rw [if_pos c33] at H
                            have c33b0 : decide (0 ≤ (rd l1 x29_1)) = true := decide_eq_true c33
                            clear c33
                            by_cases c34 : (rd l1 x29_1) < (l0_2.length : Int)
                            · rw [if_pos c34] at H
                              have c34b0 : decide ((rd l1 x29_1) < (l0_2.length : Int)) = true := decide_eq_true c34
                              clear c34
                              by_cases c35 : (rd l1 x29_1) < (x7_1.length : Int)
                              · rw [if_pos c35] at H
                                have c35b0 : decide ((rd l1 x29_1) < (x7_1.length : Int)) = true := decide_eq_true c35
                                clear c35
                                by_cases c36 : 0 ≤ (rd x7_1 (rd l1 x29_1))
                                · rw [if_pos c36] at H
                                  have c36b0 : decide (0 ≤ (rd x7_1 (rd l1 x29_1))) = true := decide_eq_true c36
                                  clear c36
                                  by_cases c37 : (rd x7_1 (rd l1 x29_1)) < ((rd_L6 l0_2 (rd l1 x29_1)).length : Int)
                                  · rw [if_pos c37] at H
                                    have c37b0 : decide ((rd x7_1 (rd l1 x29_1)) < ((rd_L6 l0_2 (rd l1 x29_1)).length : Int)) = true := decide_eq_true c37
                                    clear c37
                                    have H' := Aside0.mk H
                                    clear H
                                    try go_wp2
                                    have n0_ := Aside0.mk (Kd.R_drew HO_6.out)
                                    have n1_ := Aside0.mk (Kd.R_drew HO_7.out)
                                    have n2_ := Aside0.mk (blk_drew BK221.out)
                                    have n3_ := Aside0.mk (below_drew1 HB.out)
                                    clear HO_6
                                    clear HO_7
                                    clear BK221
                                    clear HB
                                    have HO_6 := n0_
                                    have HO_7 := n1_
                                    have BK221 := n2_
                                    have HB := n3_
                                    clear n0_ n1_ n2_ n3_
                                    have p232 : 0 ≤ ((rd l1 x29_1) : Int) := of_decide_eq_true (by assumption)
                                    have q232 : (rd l1 x29_1) < (l0_2.length : Int) := of_decide_eq_true (by assumption)
                                    obtain ⟨ad232, A232_0, c232_0, e232, hx232_0, hl232_0, hi232_0⟩ := at_L6 HR0_2.out (rd l1 x29_1) p232 q232
                                    have hw232_0 := hx232_0
                                    cases e232
                                    replace hx232_0 := (HB.out.cell (World.block_lt_of_cell? w _ hx232_0)).trans hx232_0
                                    have HR232_0 := Aside0.mk hi232_0
                                    have HC232_0 := Aside0.mk hl232_0
                                    clear hi232_0 hl232_0
                                    replace p232 := eq_true p232
                                    replace q232 := eq_true q232
                                    obtain ⟨Ao39, co39, eo39⟩ := Kd.R_slice HO_7.out
                                    (first | subst eo39 | (injection eo39 with f1_ f2_ f3_; have f4_ := f1_.symm; have f5_ := f3_.symm; clear f1_ f2_ f3_; subst f4_; subst f5_))
                                    have p233 : 0 ≤ ((rd l1 x29_1) : Int) := of_decide_eq_true (by assumption)
                                    have q233 : (rd l1 x29_1) < (x7_1.length : Int) := of_decide_eq_true (by assumption)
                                    obtain ⟨ad233, e233, hx233_0⟩ := Kd.at_int (Kd.R_reads' HO_7.out).2.2 (rd l1 x29_1) p233 q233
                                    cases e233
                                    replace p233 := eq_true p233
                                    replace q233 := eq_true q233
                                    have p234 : 0 ≤ ((rd x7_1 (rd l1 x29_1)) : Int) := of_decide_eq_true (by assumption)
                                    have q234 : (rd x7_1 (rd l1 x29_1)) < ((rd_L6 l0_2 (rd l1 x29_1)).length : Int) := of_decide_eq_true (by assumption)
                                    obtain ⟨ad234, A234_0, c234_0, e234, hx234_0, hl234_0, hi234_0⟩ := at_L5 HR232_0.out (rd x7_1 (rd l1 x29_1)) p234 q234
                                    have hw234_0 := hx234_0
                                    cases e234
                                    replace hx234_0 := (HB.out.cell (World.block_lt_of_cell? w _ hx234_0)).trans hx234_0
                                    have HR234_0 := Aside0.mk hi234_0
                                    have HC234_0 := Aside0.mk hl234_0
                                    clear hi234_0 hl234_0
                                    replace p234 := eq_true p234
                                    replace q234 := eq_true q234
                                    refine start_ (n := 13) (S := fun w' => w'.cell? ⟨gb221, 0, none⟩ = some (.slice A0_0 l0_0.length c0_0) ∧ w'.cell? ⟨gb221, 1, none⟩ = some (.int .i64 a0_1) ∧ w'.cell? ⟨gb221, 2, none⟩ = some (.slice (some ad232) l0_2.length c0_2) ∧ w'.cell? (ad232.add ((rd l1 x29_1)).toNat) = some (.slice (some ad234) (rd_L6 l0_2 (rd l1 x29_1)).length c232_0) ∧ w'.cell? (ad233.add ((rd l1 x29_1)).toNat) = some (.int .i64 (rd x7_1 (rd l1 x29_1))) ∧ w'.cell? (ad234.add ((rd x7_1 (rd l1 x29_1))).toNat) = some (.slice A234_0 (rd_L5 (rd_L6 l0_2 (rd l1 x29_1)) (rd x7_1 (rd l1 x29_1))).length c234_0)) (ds := []) #[false, false, false, false, false, false, false, false, false, false, false, false, false] (by kernel_rfl) rfl rfl ⟨(blk_cell BK221.out 0).trans rfl, (blk_cell BK221.out 1).trans rfl, (blk_cell BK221.out 2).trans rfl, ((HB.out.cell (World.block_lt_of_cell? w _ hw232_0)).trans hw232_0), hx233_0, ((HB.out.cell (World.block_lt_of_cell? w _ hw234_0)).trans hw234_0)⟩ (fun hHeld => ?_); refine with_tabW impl_TxSerial.tab12 impl_TxSerial.bits12 (fun HT_ HW_ => ?_)
                                    generalize wc.drew = w38 at HO_6 HO_7 BK221 HB HR232_0 HR234_0 hx232_0 hx233_0 hx234_0 hHeld ⊢
                                    refine pure_ (i := 0) (N := some 54) (v := ?_) (a' := ?_) #[true, false, false, false, false, false, false, false, false, false, false, false, false] rfl rfl (any_of HT_.out (by kernel_rfl)) (fun _ _ _ h => h) (Or.inl ⟨by rfl, ?_⟩) ?_ ?_
                                    rotate_left
                                    · intro w'
                                      go_simp
                                      with_reducible rfl
                                    rotate_left
                                    · simp only [Act.put, List.setIfInBounds_toArray, List.set_cons_zero, List.set_cons_succ, i64_w, i32_w]
                                      rfl
                                    refine pure_ (i := 2) (N := some 56) (v := ?_) (a' := ?_) #[true, false, true, false, false, false, false, false, false, false, false, false, false] rfl rfl (any_of HT_.out (by kernel_rfl)) (fun _ _ _ h => h) (Or.inl ⟨by rfl, ?_⟩) ?_ ?_
                                    rotate_left
                                    · intro w'
                                      go_simp
                                      with_reducible rfl
                                    rotate_left
                                    · simp only [Act.put, List.setIfInBounds_toArray, List.set_cons_zero, List.set_cons_succ, i64_w, i32_w]
                                      rfl
                                    refine pure_ (i := 5) (N := some 59) (v := ?_) (a' := ?_) #[true, false, true, false, false, true, false, false, false, false, false, false, false] rfl rfl (any_of HT_.out (by kernel_rfl)) (fun _ _ _ h => h) (Or.inl ⟨by rfl, ?_⟩) ?_ ?_
                                    rotate_left
                                    · intro w'
                                      go_simp
                                      with_reducible rfl
                                    rotate_left
                                    · simp only [Act.put, List.setIfInBounds_toArray, List.set_cons_zero, List.set_cons_succ, i64_w, i32_w]
                                      rfl
                                    refine pure_ (i := 6) (N := some 60) (v := ?_) (a' := ?_) #[true, false, true, false, false, true, true, false, false, false, false, false, false] rfl rfl (any_of HT_.out (by kernel_rfl)) (fun _ _ _ h => h) (Or.inl ⟨by rfl, ?_⟩) ?_ ?_
                                    rotate_left
                                    · intro w'
                                      go_simp
                                      with_reducible rfl
                                    rotate_left
                                    · simp only [Act.put, List.setIfInBounds_toArray, List.set_cons_zero, List.set_cons_succ, i64_w, i32_w]
                                      rfl
                                    refine pure_ (i := 7) (N := some 61) (v := ?_) (a' := ?_) #[true, false, true, false, false, true, true, true, false, false, false, false, false] rfl rfl (any_of HT_.out (by kernel_rfl)) (fun _ _ _ h => h) (Or.inl ⟨by rfl, ?_⟩) ?_ ?_
                                    rotate_left
                                    · intro w'
                                      go_simp
                                      with_reducible rfl
                                    rotate_left
                                    · simp only [Act.put, List.setIfInBounds_toArray, List.set_cons_zero, List.set_cons_succ, i64_w, i32_w]
                                      rfl
                                    refine pure_ (i := 12) (N := some 66) (v := ?_) (a' := ?_) #[true, false, true, false, false, true, true, true, false, false, false, false, true] rfl rfl (any_of HT_.out (by kernel_rfl)) (fun _ _ _ h => h) (Or.inl ⟨by rfl, ?_⟩) ?_ ?_
                                    rotate_left
                                    · intro w'
                                      go_simp
                                      with_reducible rfl
                                    rotate_left
                                    · simp only [Act.put, List.setIfInBounds_toArray, List.set_cons_zero, List.set_cons_succ, i64_w, i32_w]
                                      rfl
                                    refine take_ (i := 1) (N := some 55) (v := ?_) (a' := ?_) #[true, true, true, false, false, true, true, true, false, false, false, false, true] rfl rfl (take_ofW HT_.out HW_.out (by kernel_rfl)) (fun _ _ _ h => h) (Or.inl ⟨by rfl, ?_⟩) hHeld ?_ ?_
                                    rotate_left
                                    · rintro w' ⟨s0, s1, s2, s3, s4, s5⟩
                                      go_simp
                                      with_reducible rfl
                                    rotate_left
                                    · simp only [Act.put, List.setIfInBounds_toArray, List.set_cons_zero, List.set_cons_succ, i64_w, i32_w]
                                      rfl
                                    refine pure_ (i := 3) (N := some 57) (v := ?_) (a' := ?_) #[true, true, true, true, false, true, true, true, false, false, false, false, true] rfl rfl (any_of HT_.out (by kernel_rfl)) (fun _ _ _ h => h) (Or.inl ⟨by rfl, ?_⟩) ?_ ?_
                                    rotate_left
                                    · intro w'
                                      go_simp
                                      with_reducible rfl
                                    rotate_left
                                    · simp only [Act.put, List.setIfInBounds_toArray, List.set_cons_zero, List.set_cons_succ, i64_w, i32_w]
                                      rfl
                                    refine take_ (i := 4) (N := some 58) (v := ?_) (a' := ?_) #[true, true, true, true, true, true, true, true, false, false, false, false, true] rfl rfl (take_ofW HT_.out HW_.out (by kernel_rfl)) (fun _ _ _ h => h) (Or.inl ⟨by rfl, ?_⟩) hHeld ?_ ?_
                                    rotate_left
                                    · rintro w' ⟨s0, s1, s2, s3, s4, s5⟩
                                      go_simp
                                      with_reducible rfl
                                    rotate_left
                                    · simp only [Act.put, List.setIfInBounds_toArray, List.set_cons_zero, List.set_cons_succ, i64_w, i32_w]
                                      rfl
                                    refine take_ (i := 8) (N := some 62) (v := ?_) (a' := ?_) #[true, true, true, true, true, true, true, true, true, false, false, false, true] rfl rfl (take_ofW HT_.out HW_.out (by kernel_rfl)) (fun _ _ _ h => h) (Or.inl ⟨by rfl, ?_⟩) hHeld ?_ ?_
                                    rotate_left
                                    · rintro w' ⟨s0, s1, s2, s3, s4, s5⟩
                                      go_simp
                                      with_reducible rfl
                                    rotate_left
                                    · simp only [Act.put, List.setIfInBounds_toArray, List.set_cons_zero, List.set_cons_succ, i64_w, i32_w]
                                      rfl
                                    refine pure_ (i := 9) (N := some 63) (v := ?_) (a' := ?_) #[true, true, true, true, true, true, true, true, true, true, false, false, true] rfl rfl (any_of HT_.out (by kernel_rfl)) (fun _ _ _ h => h) (Or.inl ⟨by rfl, ?_⟩) ?_ ?_
                                    rotate_left
                                    · intro w'
                                      go_simp
                                      with_reducible rfl
                                    rotate_left
                                    · simp only [Act.put, List.setIfInBounds_toArray, List.set_cons_zero, List.set_cons_succ, i64_w, i32_w]
                                      rfl
                                    refine take_ (i := 10) (N := some 64) (v := ?_) (a' := ?_) #[true, true, true, true, true, true, true, true, true, true, true, false, true] rfl rfl (take_ofW HT_.out HW_.out (by kernel_rfl)) (fun _ _ _ h => h) (Or.inl ⟨by rfl, ?_⟩) hHeld ?_ ?_
                                    rotate_left
                                    · rintro w' ⟨s0, s1, s2, s3, s4, s5⟩
                                      go_simp
                                      with_reducible rfl
                                    rotate_left
                                    · simp only [Act.put, List.setIfInBounds_toArray, List.set_cons_zero, List.set_cons_succ, i64_w, i32_w]
                                      rfl
                                    refine pure_ (i := 11) (N := some 65) (v := ?_) (a' := ?_) #[true, true, true, true, true, true, true, true, true, true, true, true, true] rfl rfl (any_of HT_.out (by kernel_rfl)) (fun _ _ _ h => h) (Or.inl ⟨by rfl, ?_⟩) ?_ ?_
                                    rotate_left
                                    · intro w'
                                      go_simp
                                      with_reducible rfl
                                    rotate_left
                                    · simp only [Act.put, List.setIfInBounds_toArray, List.set_cons_zero, List.set_cons_succ, i64_w, i32_w]
                                      rfl
                                    refine done_ (done_of HT_.out (by kernel_rfl)) ?_
                                    try go_wp2
                                    go_loopg [66] kj20 (fun kq v66 w' => ∃ (x6_3 : List Int) (x66_3 : Int), v66 = .int .i64 x66_3 ∧ Aside0 (impl_TxSerial.l1 kq x6_3 x7_1 (rd l1 x29_1) l1 (l1.length : Int) x29_1 (rd_L5 (rd_L6 l0_2 (rd l1 x29_1)) (rd x7_1 (rd l1 x29_1))) ((rd_L5 (rd_L6 l0_2 (rd l1 x29_1)) (rd x7_1 (rd l1 x29_1))).length : Int) x66_3 l0_0 a0_1 l0_2 = some (r1, r2)) ∧ Aside0 (kq ≤ kj20) ∧ Aside0 (Kd.R (Kd.int .i64) 3 w' w.heap.size (fun k_ => some k_ ≠ ((.slice (some ad233) x7_1.length co39) : Value).ownBlock) v224 x6_3) ∧ Aside0 (Kd.R (Kd.int .i64) 3 w' w.heap.size (fun k_ => some k_ ≠ (v224 : Value).ownBlock) (.slice (some ad233) x7_1.length co39) x7_1) ∧ Aside0 (w'.heap[gb221]? = some (.cells #[(.slice A0_0 l0_0.length c0_0), .int .i64 a0_1, (.slice (some ad232) l0_2.length c0_2)] 30 (0, 0))) ∧ Aside0 (Below w.heap.size w w'))
                                    case atStart => exact ⟨(x6_1), (0), (by first | rfl | (simp; done) | (simp [*]; done)), H', ⟨Nat.le_refl _⟩, ⟨by (with_reducible repeat (first | apply Kd.R_alloc | apply Kd.R_drewN | apply Kd.R_drew)); exact HO_6.out⟩, ⟨by (with_reducible repeat (first | apply Kd.R_alloc | apply Kd.R_drewN | apply Kd.R_drew)); exact HO_7.out⟩, ⟨by (with_reducible repeat (first | refine blk_drewN ?_ _ | refine blk_drew ?_ | refine blk_alloc ?_ _)); exact BK221.out⟩, ⟨by repeat (first | (with_reducible first | exact HB.out | apply below_alloc | apply pw_below_drewN | apply below_drew1 | refine below_set ?_ GE221.out) | exact HB.out)⟩⟩
                                    case round =>
                                      clear H'
                                      try clear c1
                                      try clear c2
                                      try clear p2
                                      try clear q2
                                      try clear hx2
                                      try clear c3
                                      try clear c3b0
                                      try clear c3b1
                                      try clear c6
                                      try clear c8
                                      try clear c8b0
                                      try clear c8b1
                                      try clear c9
                                      try clear c9b0
                                      try clear c9b1
                                      try clear c11
                                      try clear c15
                                      try clear c18
                                      try clear c18b0
                                      try clear c19
                                      try clear c19b0
                                      try clear c20
                                      try clear c20b0
                                      try clear c22
                                      try clear c22b0
                                      try clear p22
                                      try clear q22
                                      try clear hx22
                                      try clear c23
                                      try clear p23
                                      try clear q23
                                      try clear hx23
                                      try clear c24
                                      try clear c24b0
                                      try clear c27
                                      try clear c27b0
                                      try clear c28
                                      try clear c28b0
                                      try clear c29
                                      try clear c29b0
                                      try clear c32
                                      try clear c33
                                      try clear c33b0
                                      try clear c34
                                      try clear c34b0
                                      try clear c35
                                      try clear c35b0
                                      try clear c36
                                      try clear c36b0
                                      try clear c37
                                      try clear c37b0
                                      try clear hcz11_0
                                      try clear hcz11_1
                                      try clear hcz11_2
                                      try clear hcz13_0
                                      try clear hcz13_1
                                      try clear hcz13_2
                                      try clear hcz15_0
                                      try clear hcz15_1
                                      try clear hcz15_2
                                      try clear hfz11_0
                                      try clear hfz11_1
                                      try clear hfz11_2
                                      try clear hfz13_0
                                      try clear hfz13_1
                                      try clear hfz13_2
                                      try clear hfz15_0
                                      try clear hfz15_1
                                      try clear hfz15_2
                                      try clear hx229_0
                                      try clear hx230_0
                                      try clear hx231_0
                                      try clear hx232_0
                                      try clear hx233_0
                                      try clear hx234_0
                                      try clear p2
                                      try clear p22
                                      try clear p229
                                      try clear p23
                                      try clear p230
                                      try clear p231
                                      try clear p232
                                      try clear p233
                                      try clear p234
                                      try clear q2
                                      try clear q22
                                      try clear q229
                                      try clear q23
                                      try clear q230
                                      try clear q231
                                      try clear q232
                                      try clear q233
                                      try clear q234
                                      obtain ⟨x6_3, x66_3, rfl, HA, HK3, HO_6, HO_7, BK221, HB⟩ := hrel
                                      cases gk with
                                      | zero => exact absurd HA.out (by simp [impl_TxSerial.l1])
                                      | succ k3 =>
                                        have H := HA.out
                                        clear HA
                                        simp only [impl_TxSerial.l1] at H
                                        by_cases c40 : x66_3 < ((rd_L5 (rd_L6 l0_2 (rd l1 x29_1)) (rd x7_1 (rd l1 x29_1))).length : Int)
                                        · rw [if_pos c40] at H
                                          have c40b0 : decide (x66_3 < ((rd_L5 (rd_L6 l0_2 (rd l1 x29_1)) (rd x7_1 (rd l1 x29_1))).length : Int)) = true := decide_eq_true c40
                                          clear c40
                                          by_cases c41 : 0 ≤ x66_3
                                          · rw [if_pos c41] at H
                                            have c41b0 : decide (0 ≤ x66_3) = true := decide_eq_true c41
                                            clear c41
                                            by_cases c42 : x66_3 < ((rd_L5 (rd_L6 l0_2 (rd l1 x29_1)) (rd x7_1 (rd l1 x29_1))).length : Int)
                                            · rw [if_pos c42] at H
                                              have c42b0 : decide (x66_3 < ((rd_L5 (rd_L6 l0_2 (rd l1 x29_1)) (rd x7_1 (rd l1 x29_1))).length : Int)) = true := decide_eq_true c42
                                              clear c42
                                              by_cases c43 : ((rd_T63 (rd_L5 (rd_L6 l0_2 (rd l1 x29_1)) (rd x7_1 (rd l1 x29_1))) x66_3).f0) = 2
                                              · rw [if_pos c43] at H
                                                have c43b0 : (((rd_T63 (rd_L5 (rd_L6 l0_2 (rd l1 x29_1)) (rd x7_1 (rd l1 x29_1))) x66_3).f0) == 2) = true := beq_iff_eq.mpr c43
                                                have c43b1 : (((rd_T63 (rd_L5 (rd_L6 l0_2 (rd l1 x29_1)) (rd x7_1 (rd l1 x29_1))) x66_3).f0) != 2) = false := bne_eq_false_iff_eq.mpr c43
                                                clear c43
                                                by_cases c44 : 0 ≤ ((rd_T63 (rd_L5 (rd_L6 l0_2 (rd l1 x29_1)) (rd x7_1 (rd l1 x29_1))) x66_3).f1)
                                                · rw [if_pos c44] at H
                                                  have c44b0 : decide (0 ≤ ((rd_T63 (rd_L5 (rd_L6 l0_2 (rd l1 x29_1)) (rd x7_1 (rd l1 x29_1))) x66_3).f1)) = true := decide_eq_true c44
                                                  clear c44
                                                  by_cases c45 : ((rd_T63 (rd_L5 (rd_L6 l0_2 (rd l1 x29_1)) (rd x7_1 (rd l1 x29_1))) x66_3).f1) < (x6_3.length : Int)
                                                  · rw [if_pos c45] at H
                                                    have c45b0 : decide (((rd_T63 (rd_L5 (rd_L6 l0_2 (rd l1 x29_1)) (rd x7_1 (rd l1 x29_1))) x66_3).f1) < (x6_3.length : Int)) = true := decide_eq_true c45
                                                    clear c45
                                                    obtain ⟨y239, hy239⟩ : ∃ y_ : List Int, y_ = (x6_3.set (((rd_T63 (rd_L5 (rd_L6 l0_2 (rd l1 x29_1)) (rd x7_1 (rd l1 x29_1))) x66_3).f1) : Int).toNat ((rd_T63 (rd_L5 (rd_L6 l0_2 (rd l1 x29_1)) (rd x7_1 (rd l1 x29_1))) x66_3).f2)) := ⟨_, rfl⟩
                                                    replace H : (impl_TxSerial.l1 k3 y239 x7_1 (rd l1 x29_1) l1 (l1.length : Int) x29_1 (rd_L5 (rd_L6 l0_2 (rd l1 x29_1)) (rd x7_1 (rd l1 x29_1))) ((rd_L5 (rd_L6 l0_2 (rd l1 x29_1)) (rd x7_1 (rd l1 x29_1))).length : Int) (wrap64 (x66_3 + 1)) l0_0 a0_1 l0_2) = some (r1, r2) := by first | (rw [hy239]; with_reducible exact H) | (have H2_ := (Option.bind_some _ _).symm.trans H; rw [hy239]; with_reducible exact H2_) | (have H2_ := (Option.bind_some _ _).symm.trans H; with_reducible exact H2_) | with_reducible exact H | (rw [hy239]; exact H) | exact H
                                                    have Ny239 := Aside0.mk hy239
                                                    clear hy239
                                                    have H' := Aside0.mk H
                                                    clear H
                                                    have p237 : 0 ≤ (x66_3 : Int) := of_decide_eq_true (by assumption)
                                                    have q237 : x66_3 < ((rd_L5 (rd_L6 l0_2 (rd l1 x29_1)) (rd x7_1 (rd l1 x29_1))).length : Int) := of_decide_eq_true (by assumption)
                                                    obtain ⟨ad237, e237, hx237_0, hx237_1, hx237_2⟩ := at_T63 HR234_0.out x66_3 p237 q237
                                                    cases e237
                                                    replace hx237_0 := (HB.out.cell (World.block_lt_of_cell? w _ hx237_0)).trans hx237_0
                                                    replace hx237_1 := (HB.out.cell (World.block_lt_of_cell? w _ hx237_1)).trans hx237_1
                                                    replace hx237_2 := (HB.out.cell (World.block_lt_of_cell? w _ hx237_2)).trans hx237_2
                                                    replace p237 := eq_true p237
                                                    replace q237 := eq_true q237
                                                    go_wp2_with (first | ((with_reducible refine gate_dst (N := 11) rfl ?_); (try (refine gate_guard (by rfl) ?_; dsimp only)); refine box_event ?hg (N := 11) ?hd (cs := #[.int .i64 0, .int .i64 0, .int .i64 0]) (t := 63) ?hr ?_; (case hd => rfl); (case hg => rfl); (case hr => first | (go_simp; done) | (go_simp; rfl)); intro gb238 hg w47 hbox hb; have n0_ := Aside0.mk (Kd.R_below (by (with_reducible repeat (first | apply Kd.R_alloc | apply Kd.R_drewN | apply Kd.R_drew)); exact HO_6.out) hb); have n1_ := Aside0.mk (Kd.R_below (by (with_reducible repeat (first | apply Kd.R_alloc | apply Kd.R_drewN | apply Kd.R_drew)); exact HO_7.out) hb); have n2_ := Aside0.mk (blk_below (g := gb221) (o := .cells #[.slice A0_0 l0_0.length c0_0, .int .i64 a0_1, .slice (some ad232) l0_2.length c0_2] 30 (0, 0)) (by (with_reducible repeat (first | refine blk_drewN ?_ _ | refine blk_drew ?_ | refine blk_alloc ?_ _)); exact BK221.out) hb); have n3_ := Aside0.mk (below_step (by repeat (first | (with_reducible first | exact HB.out | apply below_alloc | apply pw_below_drewN | apply below_drew1 | refine below_set ?_ GE221.out) | exact HB.out)) hb); have n4_ := Aside0.mk (hbox); have n5_ := Aside0.mk ((by rw [hg]; exact (below_size (by repeat (first | (with_reducible first | exact HB.out | apply below_alloc | apply pw_below_drewN | apply below_drew1 | refine below_set ?_ GE221.out) | exact HB.out))) : w.heap.size ≤ gb238)); have n6_ := Aside0.mk ((by rw [hg]; exact (below_size (by repeat (first | (with_reducible first | exact HB.out | apply below_alloc | apply pw_below_drewN | apply below_drew1 | refine below_set ?_ GE221.out) | exact HB.out))) : w.heap.size ≤ gb238)); have n7_ := Aside0.mk ((by rw [hg]; exact Nat.ne_of_lt (blk_lt (g := gb221) (o := .cells #[.slice A0_0 l0_0.length c0_0, .int .i64 a0_1, .slice (some ad232) l0_2.length c0_2] 30 (0, 0)) (by (with_reducible repeat (first | refine blk_drewN ?_ _ | refine blk_drew ?_ | refine blk_alloc ?_ _)); exact BK221.out)) : gb221 ≠ gb238)); have n8_ := Aside0.mk ((by rw [hg]; exact Nat.ne_of_gt (blk_lt (g := gb221) (o := .cells #[.slice A0_0 l0_0.length c0_0, .int .i64 a0_1, .slice (some ad232) l0_2.length c0_2] 30 (0, 0)) (by (with_reducible repeat (first | refine blk_drewN ?_ _ | refine blk_drew ?_ | refine blk_alloc ?_ _)); exact BK221.out)) : gb238 ≠ gb221)); clear HO_6; clear HO_7; clear BK221; clear HB; have HO_6 := n0_; have HO_7 := n1_; have BK221 := n2_; have HB := n3_; have BK238 := n4_; have GW238 := n5_; have GE238 := n6_; have NB221_238 := n7_; have NB238_221 := n8_; clear n0_ n1_ n2_ n3_ n4_ n5_ n6_ n7_ n8_; clear hb hbox hg; have hnb48 := NB238_221.out; have hnc48 := NB221_238.out; have hcz49_0 : w47.cell? ⟨gb238, 0, none⟩ = some (.int .i64 0) := (blk_cell BK238.out 0).trans rfl; have hcz49_1 : w47.cell? ⟨gb238, 1, none⟩ = some (.int .i64 0) := (blk_cell BK238.out 1).trans rfl; have hcz49_2 : w47.cell? ⟨gb238, 2, none⟩ = some (.int .i64 0) := (blk_cell BK238.out 2).trans rfl; have hfz49_0 := blk_frozen BK238.out 0; have hfz49_1 := blk_frozen BK238.out 1; have hfz49_2 := blk_frozen BK238.out 2) | ((with_reducible refine gate_store (t := 63) (p := 11) rfl ?_); refine store_event (t := 63) (p := 11) (v := ?vo_w50) (w1 := (((w47.setCell ⟨gb238, 0, none⟩ (.int .i64 ((rd_T63 (rd_L5 (rd_L6 l0_2 (rd l1 x29_1)) (rd x7_1 (rd l1 x29_1))) x66_3).f0))).setCell ⟨gb238, 1, none⟩ (.int .i64 ((rd_T63 (rd_L5 (rd_L6 l0_2 (rd l1 x29_1)) (rd x7_1 (rd l1 x29_1))) x66_3).f1))).setCell ⟨gb238, 2, none⟩ (.int .i64 ((rd_T63 (rd_L5 (rd_L6 l0_2 (rd l1 x29_1)) (rd x7_1 (rd l1 x29_1))) x66_3).f2)))) ?hg ?ho ?hn ?hr ?_; (case ho => rfl); (case hg => rfl); (case hn => rfl); (case hr => first | (go_simp; done) | (go_simp; rfl)); intro w50 hw; have n0_ : Aside0 (Kd.R (Kd.int .i64) 3 w50 w.heap.size (fun k_ => some k_ ≠ (.slice (some ad233) x7_1.length co39 : Value).ownBlock) v224 x6_3) := ⟨(by rw [hw]; exact (by (with_reducible repeat (first | apply Kd.R_alloc | apply Kd.R_drewN | apply Kd.R_drew)); exact Kd.R_mono (Kd.R_far (p := ⟨gb238, 2, none⟩) (Kd.R_far (p := ⟨gb238, 1, none⟩) (Kd.R_far (p := ⟨gb238, 0, none⟩) (Kd.R_types HO_6.out BK238.out (by decide)) (fun _ hk => hk.2) (.int .i64 ((rd_T63 (rd_L5 (rd_L6 l0_2 (rd l1 x29_1)) (rd x7_1 (rd l1 x29_1))) x66_3).f0))) (fun _ hk => hk.2) (.int .i64 ((rd_T63 (rd_L5 (rd_L6 l0_2 (rd l1 x29_1)) (rd x7_1 (rd l1 x29_1))) x66_3).f1))) (fun _ hk => hk.2) (.int .i64 ((rd_T63 (rd_L5 (rd_L6 l0_2 (rd l1 x29_1)) (rd x7_1 (rd l1 x29_1))) x66_3).f2))) (fun _ hk => hk.1)))⟩; have n1_ : Aside0 (Kd.R (Kd.int .i64) 3 w50 w.heap.size (fun k_ => some k_ ≠ (v224 : Value).ownBlock) (.slice (some ad233) x7_1.length co39) x7_1) := ⟨(by rw [hw]; exact (by (with_reducible repeat (first | apply Kd.R_alloc | apply Kd.R_drewN | apply Kd.R_drew)); exact Kd.R_mono (Kd.R_far (p := ⟨gb238, 2, none⟩) (Kd.R_far (p := ⟨gb238, 1, none⟩) (Kd.R_far (p := ⟨gb238, 0, none⟩) (Kd.R_types HO_7.out BK238.out (by decide)) (fun _ hk => hk.2) (.int .i64 ((rd_T63 (rd_L5 (rd_L6 l0_2 (rd l1 x29_1)) (rd x7_1 (rd l1 x29_1))) x66_3).f0))) (fun _ hk => hk.2) (.int .i64 ((rd_T63 (rd_L5 (rd_L6 l0_2 (rd l1 x29_1)) (rd x7_1 (rd l1 x29_1))) x66_3).f1))) (fun _ hk => hk.2) (.int .i64 ((rd_T63 (rd_L5 (rd_L6 l0_2 (rd l1 x29_1)) (rd x7_1 (rd l1 x29_1))) x66_3).f2))) (fun _ hk => hk.1)))⟩; have n2_ : Aside0 (w50.heap[gb221]? = some (.cells #[.slice A0_0 l0_0.length c0_0, .int .i64 a0_1, .slice (some ad232) l0_2.length c0_2] 30 (0, 0))) := ⟨(by rw [hw]; exact (by (with_reducible repeat (first | refine blk_drewN ?_ _ | refine blk_drew ?_ | refine blk_alloc ?_ _)); refine blk_far ?_ NB221_238.out _; (with_reducible repeat (first | refine blk_drewN ?_ _ | refine blk_drew ?_ | refine blk_alloc ?_ _)); refine blk_far ?_ NB221_238.out _; (with_reducible repeat (first | refine blk_drewN ?_ _ | refine blk_drew ?_ | refine blk_alloc ?_ _)); refine blk_far ?_ NB221_238.out _; (with_reducible repeat (first | refine blk_drewN ?_ _ | refine blk_drew ?_ | refine blk_alloc ?_ _)); exact BK221.out))⟩; have n3_ : Aside0 (w50.heap[gb238]? = some (.cells #[.int .i64 ((rd_T63 (rd_L5 (rd_L6 l0_2 (rd l1 x29_1)) (rd x7_1 (rd l1 x29_1))) x66_3).f0), .int .i64 ((rd_T63 (rd_L5 (rd_L6 l0_2 (rd l1 x29_1)) (rd x7_1 (rd l1 x29_1))) x66_3).f1), .int .i64 ((rd_T63 (rd_L5 (rd_L6 l0_2 (rd l1 x29_1)) (rd x7_1 (rd l1 x29_1))) x66_3).f2)] 63 (0, 0))) := ⟨(by rw [hw]; exact (by (with_reducible repeat (first | refine blk_drewN ?_ _ | refine blk_drew ?_ | refine blk_alloc ?_ _)); refine blk_put (cs := #[.int .i64 ((rd_T63 (rd_L5 (rd_L6 l0_2 (rd l1 x29_1)) (rd x7_1 (rd l1 x29_1))) x66_3).f0), .int .i64 ((rd_T63 (rd_L5 (rd_L6 l0_2 (rd l1 x29_1)) (rd x7_1 (rd l1 x29_1))) x66_3).f1), .int .i64 0]) ?_ 2 _ rfl; (with_reducible repeat (first | refine blk_drewN ?_ _ | refine blk_drew ?_ | refine blk_alloc ?_ _)); refine blk_put (cs := #[.int .i64 ((rd_T63 (rd_L5 (rd_L6 l0_2 (rd l1 x29_1)) (rd x7_1 (rd l1 x29_1))) x66_3).f0), .int .i64 0, .int .i64 0]) ?_ 1 _ rfl; (with_reducible repeat (first | refine blk_drewN ?_ _ | refine blk_drew ?_ | refine blk_alloc ?_ _)); refine blk_put (cs := #[.int .i64 0, .int .i64 0, .int .i64 0]) ?_ 0 _ rfl; (with_reducible repeat (first | refine blk_drewN ?_ _ | refine blk_drew ?_ | refine blk_alloc ?_ _)); exact BK238.out))⟩; have n4_ : Aside0 (Below w.heap.size w w50) := ⟨(by rw [hw]; exact (by repeat (first | (with_reducible first | exact HB.out | apply below_alloc | apply pw_below_drewN | apply below_drew1 | refine below_set ?_ GE221.out | refine below_set ?_ GE238.out) | exact HB.out)))⟩; clear hw; clear HO_6; clear HO_7; clear BK221; clear BK238; clear HB; have HO_6 := n0_; have HO_7 := n1_; have BK221 := n2_; have BK238 := n3_; have HB := n4_; clear n0_ n1_ n2_ n3_ n4_; have hcz51_0 : w50.cell? ⟨gb238, 0, none⟩ = some (.int .i64 ((rd_T63 (rd_L5 (rd_L6 l0_2 (rd l1 x29_1)) (rd x7_1 (rd l1 x29_1))) x66_3).f0)) := (blk_cell BK238.out 0).trans rfl; have hcz51_1 : w50.cell? ⟨gb238, 1, none⟩ = some (.int .i64 ((rd_T63 (rd_L5 (rd_L6 l0_2 (rd l1 x29_1)) (rd x7_1 (rd l1 x29_1))) x66_3).f1)) := (blk_cell BK238.out 1).trans rfl; have hcz51_2 : w50.cell? ⟨gb238, 2, none⟩ = some (.int .i64 ((rd_T63 (rd_L5 (rd_L6 l0_2 (rd l1 x29_1)) (rd x7_1 (rd l1 x29_1))) x66_3).f2)) := (blk_cell BK238.out 2).trans rfl; have hfz51_0 := blk_frozen BK238.out 0; have hfz51_1 := blk_frozen BK238.out 1; have hfz51_2 := blk_frozen BK238.out 2; have p46 : 0 ≤ (((rd_T63 (rd_L5 (rd_L6 l0_2 (rd l1 x29_1)) (rd x7_1 (rd l1 x29_1))) x66_3).f1) : Int) := of_decide_eq_true (by assumption); have q46 : (((rd_T63 (rd_L5 (rd_L6 l0_2 (rd l1 x29_1)) (rd x7_1 (rd l1 x29_1))) x66_3).f1) : Int) < ((x6_3.length : Int) : Int) := of_decide_eq_true (by assumption); obtain ⟨go46, co46, eo46, gb46, gl46, cl46, HG46⟩ := Kd.R_form HO_6.out (by omega); (first | cases eo46 | (injection eo46 with ea_ en_ ec_; (first | subst ea_ | (injection ea_ with ea_; subst ea_)); subst ec_; clear en_)); have GB46 := Aside0.mk gb46; have GG46 := Aside0.mk HG46; clear gb46 gl46 HG46; obtain ⟨hx46_0, hf46_0⟩ := Kd.R_celln 0 HO_6.out (((rd_T63 (rd_L5 (rd_L6 l0_2 (rd l1 x29_1)) (rd x7_1 (rd l1 x29_1))) x66_3).f1) : Int) p46 q46; replace p46 := eq_true p46; replace q46 := eq_true q46; obtain ⟨hy52_, hz52_⟩ := Kd.R_celln 0 HO_6.out (((rd_T63 (rd_L5 (rd_L6 l0_2 (rd l1 x29_1)) (rd x7_1 (rd l1 x29_1))) x66_3).f1) : Int) (of_decide_eq_true (by assumption)) (of_decide_eq_true (by assumption)); have HP52 := Kd.R_putg HO_6.out (((rd_T63 (rd_L5 (rd_L6 l0_2 (rd l1 x29_1)) (rd x7_1 (rd l1 x29_1))) x66_3).f1) : Int) ((rd_T63 (rd_L5 (rd_L6 l0_2 (rd l1 x29_1)) (rd x7_1 (rd l1 x29_1))) x66_3).f2)) | ((with_reducible refine gate_store (t := 3) (p := 79) rfl ?_); refine store_event (t := 3) (p := 79) (v := ?vo_w53) (w1 := (w50.setCell ⟨go46, (((rd_T63 (rd_L5 (rd_L6 l0_2 (rd l1 x29_1)) (rd x7_1 (rd l1 x29_1))) x66_3).f1) : Int).toNat, none⟩ (.int .i64 ((rd_T63 (rd_L5 (rd_L6 l0_2 (rd l1 x29_1)) (rd x7_1 (rd l1 x29_1))) x66_3).f2)))) ?hg ?ho ?hn ?hr ?_; (case ho => rfl); (case hg => rfl); (case hn => rfl); (case hr => first | (go_simp; done) | (go_simp; rfl)); intro w53 hw; have hg : w50.grownBy w53 (some go46) := (by rw [hw]; exact HP52.2); have hp_ : Kd.R (Kd.int .i64) 3 w53 w.heap.size (fun k_ => some k_ ≠ (.slice (some ad233) x7_1.length co39 : Value).ownBlock) (.slice (some ⟨go46, 0, none⟩) x6_3.length co46) y239 := (by rw [hw, Ny239.out]; exact HP52.1); clear HP52; have n0_ := Aside0.mk (hp_); have n1_ := Aside0.mk (Kd.R_after (v := (.slice (some ⟨go46, 0, none⟩) x6_3.length co46)) (v1 := (.slice (some ⟨go46, 0, none⟩) x6_3.length co46)) (ok := (fun _ => True)) (by (with_reducible repeat (first | apply Kd.R_alloc | apply Kd.R_drewN | apply Kd.R_drew)); exact Kd.R_mono HO_7.out (fun _ hk => ⟨trivial, hk⟩)) hg (.inl rfl)); have n2_ := Aside0.mk (blk_grown (g := gb221) (o := .cells #[.slice A0_0 l0_0.length c0_0, .int .i64 a0_1, .slice (some ad232) l0_2.length c0_2] 30 (0, 0)) (by (with_reducible repeat (first | refine blk_drewN ?_ _ | refine blk_drew ?_ | refine blk_alloc ?_ _)); exact BK221.out) hg (Kd.R_ne HO_6.out BK221.out (by decide))); have n3_ := Aside0.mk (blk_grown (g := gb238) (o := .cells #[.int .i64 ((rd_T63 (rd_L5 (rd_L6 l0_2 (rd l1 x29_1)) (rd x7_1 (rd l1 x29_1))) x66_3).f0), .int .i64 ((rd_T63 (rd_L5 (rd_L6 l0_2 (rd l1 x29_1)) (rd x7_1 (rd l1 x29_1))) x66_3).f1), .int .i64 ((rd_T63 (rd_L5 (rd_L6 l0_2 (rd l1 x29_1)) (rd x7_1 (rd l1 x29_1))) x66_3).f2)] 63 (0, 0)) (by (with_reducible repeat (first | refine blk_drewN ?_ _ | refine blk_drew ?_ | refine blk_alloc ?_ _)); exact BK238.out) hg (Kd.R_ne HO_6.out BK238.out (by decide))); have n4_ := Aside0.mk ((by rw [hw]; exact below_set (HB.out) GB46.out : Below w.heap.size w w53)); clear HO_6; clear HO_7; clear BK221; clear BK238; clear HB; have HO_6 := n0_; have HO_7 := n1_; have BK221 := n2_; have BK238 := n3_; have HB := n4_; clear n0_ n1_ n2_ n3_ n4_; clear hg hw hp_))
                                                    go_roundg k3
                                                    case measure => have := HK1.out; have := HJ20.out; have := HK3.out; omega
                                                    case rel => exact ⟨(y239), (wrap64 (x66_3 + 1)), (by first | rfl | (simp; done) | (simp [*]; done)), H', ⟨by have := HK1.out; have := HJ20.out; have := HK3.out; omega⟩, ⟨by (with_reducible repeat (first | apply Kd.R_alloc | apply Kd.R_drewN | apply Kd.R_drew)); exact HO_6.out⟩, ⟨by (with_reducible repeat (first | apply Kd.R_alloc | apply Kd.R_drewN | apply Kd.R_drew)); exact Kd.R_mono HO_7.out (fun _ hk => hk.2)⟩, ⟨by (with_reducible repeat (first | refine blk_drewN ?_ _ | refine blk_drew ?_ | refine blk_alloc ?_ _)); exact BK221.out⟩, ⟨by repeat (first | (with_reducible first | exact HB.out | apply below_alloc | apply pw_below_drewN | apply below_drew1 | refine below_set ?_ GE221.out | refine below_set ?_ GE238.out) | exact HB.out)⟩⟩
                                                  · rw [if_neg c45] at H
                                                    exact absurd H (by simp)
                                                · rw [if_neg c44] at H
                                                  exact absurd H (by simp)
                                              · rw [if_neg c43] at H
                                                have c43b0 : (((rd_T63 (rd_L5 (rd_L6 l0_2 (rd l1 x29_1)) (rd x7_1 (rd l1 x29_1))) x66_3).f0) == 2) = false := beq_eq_false_iff_ne.mpr c43
                                                have c43b1 : (((rd_T63 (rd_L5 (rd_L6 l0_2 (rd l1 x29_1)) (rd x7_1 (rd l1 x29_1))) x66_3).f0) != 2) = true := bne_iff_ne.mpr c43
                                                by_cases c54 : ((rd_T63 (rd_L5 (rd_L6 l0_2 (rd l1 x29_1)) (rd x7_1 (rd l1 x29_1))) x66_3).f0) = 3
                                                · rw [if_pos c54] at H
                                                  have c54b0 : (((rd_T63 (rd_L5 (rd_L6 l0_2 (rd l1 x29_1)) (rd x7_1 (rd l1 x29_1))) x66_3).f0) == 3) = true := beq_iff_eq.mpr c54
                                                  have c54b1 : (((rd_T63 (rd_L5 (rd_L6 l0_2 (rd l1 x29_1)) (rd x7_1 (rd l1 x29_1))) x66_3).f0) != 3) = false := bne_eq_false_iff_eq.mpr c54
                                                  clear c54
                                                  by_cases c55 : 0 ≤ ((rd_T63 (rd_L5 (rd_L6 l0_2 (rd l1 x29_1)) (rd x7_1 (rd l1 x29_1))) x66_3).f1)
                                                  · rw [if_pos c55] at H
                                                    have c55b0 : decide (0 ≤ ((rd_T63 (rd_L5 (rd_L6 l0_2 (rd l1 x29_1)) (rd x7_1 (rd l1 x29_1))) x66_3).f1)) = true := decide_eq_true c55
                                                    clear c55
                                                    by_cases c56 : ((rd_T63 (rd_L5 (rd_L6 l0_2 (rd l1 x29_1)) (rd x7_1 (rd l1 x29_1))) x66_3).f1) < (x6_3.length : Int)
                                                    · rw [if_pos c56] at H
                                                      have c56b0 : decide (((rd_T63 (rd_L5 (rd_L6 l0_2 (rd l1 x29_1)) (rd x7_1 (rd l1 x29_1))) x66_3).f1) < (x6_3.length : Int)) = true := decide_eq_true c56
                                                      clear c56
                                                      obtain ⟨y241, hy241⟩ : ∃ y_ : List Int, y_ = (x6_3.set (((rd_T63 (rd_L5 (rd_L6 l0_2 (rd l1 x29_1)) (rd x7_1 (rd l1 x29_1))) x66_3).f1) : Int).toNat (wrap64 ((rd x6_3 ((rd_T63 (rd_L5 (rd_L6 l0_2 (rd l1 x29_1)) (rd x7_1 (rd l1 x29_1))) x66_3).f1)) + ((rd_T63 (rd_L5 (rd_L6 l0_2 (rd l1 x29_1)) (rd x7_1 (rd l1 x29_1))) x66_3).f2)))) := ⟨_, rfl⟩
                                                      replace H : (impl_TxSerial.l1 k3 y241 x7_1 (rd l1 x29_1) l1 (l1.length : Int) x29_1 (rd_L5 (rd_L6 l0_2 (rd l1 x29_1)) (rd x7_1 (rd l1 x29_1))) ((rd_L5 (rd_L6 l0_2 (rd l1 x29_1)) (rd x7_1 (rd l1 x29_1))).length : Int) (wrap64 (x66_3 + 1)) l0_0 a0_1 l0_2) = some (r1, r2) := by first | (rw [hy241]; with_reducible exact H) | (have H2_ := (Option.bind_some _ _).symm.trans H; rw [hy241]; with_reducible exact H2_) | (have H2_ := (Option.bind_some _ _).symm.trans H; with_reducible exact H2_) | with_reducible exact H | (rw [hy241]; exact H) | exact H
                                                      have Ny241 := Aside0.mk hy241
                                                      clear hy241
                                                      have H' := Aside0.mk H
                                                      clear H
                                                      have p237 : 0 ≤ (x66_3 : Int) := of_decide_eq_true (by assumption)
                                                      have q237 : x66_3 < ((rd_L5 (rd_L6 l0_2 (rd l1 x29_1)) (rd x7_1 (rd l1 x29_1))).length : Int) := of_decide_eq_true (by assumption)
                                                      obtain ⟨ad237, e237, hx237_0, hx237_1, hx237_2⟩ := at_T63 HR234_0.out x66_3 p237 q237
                                                      cases e237
                                                      replace hx237_0 := (HB.out.cell (World.block_lt_of_cell? w _ hx237_0)).trans hx237_0
                                                      replace hx237_1 := (HB.out.cell (World.block_lt_of_cell? w _ hx237_1)).trans hx237_1
                                                      replace hx237_2 := (HB.out.cell (World.block_lt_of_cell? w _ hx237_2)).trans hx237_2
                                                      replace p237 := eq_true p237
                                                      replace q237 := eq_true q237
                                                      try go_wp2_with (first | ((with_reducible refine gate_dst (N := 11) rfl ?_); (try (refine gate_guard (by rfl) ?_; dsimp only)); refine box_event ?hg (N := 11) ?hd (cs := #[.int .i64 0, .int .i64 0, .int .i64 0]) (t := 63) ?hr ?_; (case hd => rfl); (case hg => rfl); (case hr => first | (go_simp; done) | (go_simp; rfl)); intro gb238 hg w58 hbox hb; have n0_ := Aside0.mk (Kd.R_below (by (with_reducible repeat (first | apply Kd.R_alloc | apply Kd.R_drewN | apply Kd.R_drew)); exact HO_6.out) hb); have n1_ := Aside0.mk (Kd.R_below (by (with_reducible repeat (first | apply Kd.R_alloc | apply Kd.R_drewN | apply Kd.R_drew)); exact HO_7.out) hb); have n2_ := Aside0.mk (blk_below (g := gb221) (o := .cells #[.slice A0_0 l0_0.length c0_0, .int .i64 a0_1, .slice (some ad232) l0_2.length c0_2] 30 (0, 0)) (by (with_reducible repeat (first | refine blk_drewN ?_ _ | refine blk_drew ?_ | refine blk_alloc ?_ _)); exact BK221.out) hb); have n3_ := Aside0.mk (below_step (by repeat (first | (with_reducible first | exact HB.out | apply below_alloc | apply pw_below_drewN | apply below_drew1 | refine below_set ?_ GE221.out) | exact HB.out)) hb); have n4_ := Aside0.mk (hbox); have n5_ := Aside0.mk ((by rw [hg]; exact (below_size (by repeat (first | (with_reducible first | exact HB.out | apply below_alloc | apply pw_below_drewN | apply below_drew1 | refine below_set ?_ GE221.out) | exact HB.out))) : w.heap.size ≤ gb238)); have n6_ := Aside0.mk ((by rw [hg]; exact (below_size (by repeat (first | (with_reducible first | exact HB.out | apply below_alloc | apply pw_below_drewN | apply below_drew1 | refine below_set ?_ GE221.out) | exact HB.out))) : w.heap.size ≤ gb238)); have n7_ := Aside0.mk ((by rw [hg]; exact Nat.ne_of_lt (blk_lt (g := gb221) (o := .cells #[.slice A0_0 l0_0.length c0_0, .int .i64 a0_1, .slice (some ad232) l0_2.length c0_2] 30 (0, 0)) (by (with_reducible repeat (first | refine blk_drewN ?_ _ | refine blk_drew ?_ | refine blk_alloc ?_ _)); exact BK221.out)) : gb221 ≠ gb238)); have n8_ := Aside0.mk ((by rw [hg]; exact Nat.ne_of_gt (blk_lt (g := gb221) (o := .cells #[.slice A0_0 l0_0.length c0_0, .int .i64 a0_1, .slice (some ad232) l0_2.length c0_2] 30 (0, 0)) (by (with_reducible repeat (first | refine blk_drewN ?_ _ | refine blk_drew ?_ | refine blk_alloc ?_ _)); exact BK221.out)) : gb238 ≠ gb221)); clear HO_6; clear HO_7; clear BK221; clear HB; have HO_6 := n0_; have HO_7 := n1_; have BK221 := n2_; have HB := n3_; have BK238 := n4_; have GW238 := n5_; have GE238 := n6_; have NB221_238 := n7_; have NB238_221 := n8_; clear n0_ n1_ n2_ n3_ n4_ n5_ n6_ n7_ n8_; clear hb hbox hg; have hnb59 := NB238_221.out; have hnc59 := NB221_238.out; have hcz60_0 : w58.cell? ⟨gb238, 0, none⟩ = some (.int .i64 0) := (blk_cell BK238.out 0).trans rfl; have hcz60_1 : w58.cell? ⟨gb238, 1, none⟩ = some (.int .i64 0) := (blk_cell BK238.out 1).trans rfl; have hcz60_2 : w58.cell? ⟨gb238, 2, none⟩ = some (.int .i64 0) := (blk_cell BK238.out 2).trans rfl; have hfz60_0 := blk_frozen BK238.out 0; have hfz60_1 := blk_frozen BK238.out 1; have hfz60_2 := blk_frozen BK238.out 2))
                                                      have n0_ : Aside0 (Kd.R (Kd.int .i64) 3 (((w58.setCell ⟨gb238, 0, none⟩ (.int .i64 ((rd_T63 (rd_L5 (rd_L6 l0_2 (rd l1 x29_1)) (rd x7_1 (rd l1 x29_1))) x66_3).f0))).setCell ⟨gb238, 1, none⟩ (.int .i64 ((rd_T63 (rd_L5 (rd_L6 l0_2 (rd l1 x29_1)) (rd x7_1 (rd l1 x29_1))) x66_3).f1))).setCell ⟨gb238, 2, none⟩ (.int .i64 ((rd_T63 (rd_L5 (rd_L6 l0_2 (rd l1 x29_1)) (rd x7_1 (rd l1 x29_1))) x66_3).f2))) w.heap.size (fun k_ => some k_ ≠ (.slice (some ad233) x7_1.length co39 : Value).ownBlock) v224 x6_3) := ⟨by (with_reducible repeat (first | apply Kd.R_alloc | apply Kd.R_drewN | apply Kd.R_drew)); exact Kd.R_mono (Kd.R_far (p := ⟨gb238, 2, none⟩) (Kd.R_far (p := ⟨gb238, 1, none⟩) (Kd.R_far (p := ⟨gb238, 0, none⟩) (Kd.R_types HO_6.out BK238.out (by decide)) (fun _ hk => hk.2) (.int .i64 ((rd_T63 (rd_L5 (rd_L6 l0_2 (rd l1 x29_1)) (rd x7_1 (rd l1 x29_1))) x66_3).f0))) (fun _ hk => hk.2) (.int .i64 ((rd_T63 (rd_L5 (rd_L6 l0_2 (rd l1 x29_1)) (rd x7_1 (rd l1 x29_1))) x66_3).f1))) (fun _ hk => hk.2) (.int .i64 ((rd_T63 (rd_L5 (rd_L6 l0_2 (rd l1 x29_1)) (rd x7_1 (rd l1 x29_1))) x66_3).f2))) (fun _ hk => hk.1)⟩
                                                      have n1_ : Aside0 (Kd.R (Kd.int .i64) 3 (((w58.setCell ⟨gb238, 0, none⟩ (.int .i64 ((rd_T63 (rd_L5 (rd_L6 l0_2 (rd l1 x29_1)) (rd x7_1 (rd l1 x29_1))) x66_3).f0))).setCell ⟨gb238, 1, none⟩ (.int .i64 ((rd_T63 (rd_L5 (rd_L6 l0_2 (rd l1 x29_1)) (rd x7_1 (rd l1 x29_1))) x66_3).f1))).setCell ⟨gb238, 2, none⟩ (.int .i64 ((rd_T63 (rd_L5 (rd_L6 l0_2 (rd l1 x29_1)) (rd x7_1 (rd l1 x29_1))) x66_3).f2))) w.heap.size (fun k_ => some k_ ≠ (v224 : Value).ownBlock) (.slice (some ad233) x7_1.length co39) x7_1) := ⟨by (with_reducible repeat (first | apply Kd.R_alloc | apply Kd.R_drewN | apply Kd.R_drew)); exact Kd.R_mono (Kd.R_far (p := ⟨gb238, 2, none⟩) (Kd.R_far (p := ⟨gb238, 1, none⟩) (Kd.R_far (p := ⟨gb238, 0, none⟩) (Kd.R_types HO_7.out BK238.out (by decide)) (fun _ hk => hk.2) (.int .i64 ((rd_T63 (rd_L5 (rd_L6 l0_2 (rd l1 x29_1)) (rd x7_1 (rd l1 x29_1))) x66_3).f0))) (fun _ hk => hk.2) (.int .i64 ((rd_T63 (rd_L5 (rd_L6 l0_2 (rd l1 x29_1)) (rd x7_1 (rd l1 x29_1))) x66_3).f1))) (fun _ hk => hk.2) (.int .i64 ((rd_T63 (rd_L5 (rd_L6 l0_2 (rd l1 x29_1)) (rd x7_1 (rd l1 x29_1))) x66_3).f2))) (fun _ hk => hk.1)⟩
                                                      have n2_ : Aside0 ((((w58.setCell ⟨gb238, 0, none⟩ (.int .i64 ((rd_T63 (rd_L5 (rd_L6 l0_2 (rd l1 x29_1)) (rd x7_1 (rd l1 x29_1))) x66_3).f0))).setCell ⟨gb238, 1, none⟩ (.int .i64 ((rd_T63 (rd_L5 (rd_L6 l0_2 (rd l1 x29_1)) (rd x7_1 (rd l1 x29_1))) x66_3).f1))).setCell ⟨gb238, 2, none⟩ (.int .i64 ((rd_T63 (rd_L5 (rd_L6 l0_2 (rd l1 x29_1)) (rd x7_1 (rd l1 x29_1))) x66_3).f2))).heap[gb221]? = some (.cells #[.slice A0_0 l0_0.length c0_0, .int .i64 a0_1, .slice (some ad232) l0_2.length c0_2] 30 (0, 0))) := ⟨by (with_reducible repeat (first | refine blk_drewN ?_ _ | refine blk_drew ?_ | refine blk_alloc ?_ _)); refine blk_far ?_ NB221_238.out _; (with_reducible repeat (first | refine blk_drewN ?_ _ | refine blk_drew ?_ | refine blk_alloc ?_ _)); refine blk_far ?_ NB221_238.out _; (with_reducible repeat (first | refine blk_drewN ?_ _ | refine blk_drew ?_ | refine blk_alloc ?_ _)); refine blk_far ?_ NB221_238.out _; (with_reducible repeat (first | refine blk_drewN ?_ _ | refine blk_drew ?_ | refine blk_alloc ?_ _)); exact BK221.out⟩
                                                      have n3_ : Aside0 ((((w58.setCell ⟨gb238, 0, none⟩ (.int .i64 ((rd_T63 (rd_L5 (rd_L6 l0_2 (rd l1 x29_1)) (rd x7_1 (rd l1 x29_1))) x66_3).f0))).setCell ⟨gb238, 1, none⟩ (.int .i64 ((rd_T63 (rd_L5 (rd_L6 l0_2 (rd l1 x29_1)) (rd x7_1 (rd l1 x29_1))) x66_3).f1))).setCell ⟨gb238, 2, none⟩ (.int .i64 ((rd_T63 (rd_L5 (rd_L6 l0_2 (rd l1 x29_1)) (rd x7_1 (rd l1 x29_1))) x66_3).f2))).heap[gb238]? = some (.cells #[.int .i64 ((rd_T63 (rd_L5 (rd_L6 l0_2 (rd l1 x29_1)) (rd x7_1 (rd l1 x29_1))) x66_3).f0), .int .i64 ((rd_T63 (rd_L5 (rd_L6 l0_2 (rd l1 x29_1)) (rd x7_1 (rd l1 x29_1))) x66_3).f1), .int .i64 ((rd_T63 (rd_L5 (rd_L6 l0_2 (rd l1 x29_1)) (rd x7_1 (rd l1 x29_1))) x66_3).f2)] 63 (0, 0))) := ⟨by (with_reducible repeat (first | refine blk_drewN ?_ _ | refine blk_drew ?_ | refine blk_alloc ?_ _)); refine blk_put (cs := #[.int .i64 ((rd_T63 (rd_L5 (rd_L6 l0_2 (rd l1 x29_1)) (rd x7_1 (rd l1 x29_1))) x66_3).f0), .int .i64 ((rd_T63 (rd_L5 (rd_L6 l0_2 (rd l1 x29_1)) (rd x7_1 (rd l1 x29_1))) x66_3).f1), .int .i64 0]) ?_ 2 _ rfl; (with_reducible repeat (first | refine blk_drewN ?_ _ | refine blk_drew ?_ | refine blk_alloc ?_ _)); refine blk_put (cs := #[.int .i64 ((rd_T63 (rd_L5 (rd_L6 l0_2 (rd l1 x29_1)) (rd x7_1 (rd l1 x29_1))) x66_3).f0), .int .i64 0, .int .i64 0]) ?_ 1 _ rfl; (with_reducible repeat (first | refine blk_drewN ?_ _ | refine blk_drew ?_ | refine blk_alloc ?_ _)); refine blk_put (cs := #[.int .i64 0, .int .i64 0, .int .i64 0]) ?_ 0 _ rfl; (with_reducible repeat (first | refine blk_drewN ?_ _ | refine blk_drew ?_ | refine blk_alloc ?_ _)); exact BK238.out⟩
                                                      have n4_ : Aside0 (Below w.heap.size w (((w58.setCell ⟨gb238, 0, none⟩ (.int .i64 ((rd_T63 (rd_L5 (rd_L6 l0_2 (rd l1 x29_1)) (rd x7_1 (rd l1 x29_1))) x66_3).f0))).setCell ⟨gb238, 1, none⟩ (.int .i64 ((rd_T63 (rd_L5 (rd_L6 l0_2 (rd l1 x29_1)) (rd x7_1 (rd l1 x29_1))) x66_3).f1))).setCell ⟨gb238, 2, none⟩ (.int .i64 ((rd_T63 (rd_L5 (rd_L6 l0_2 (rd l1 x29_1)) (rd x7_1 (rd l1 x29_1))) x66_3).f2)))) := ⟨by repeat (first | (with_reducible first | exact HB.out | apply below_alloc | apply pw_below_drewN | apply below_drew1 | refine below_set ?_ GE221.out | refine below_set ?_ GE238.out) | exact HB.out)⟩
                                                      (try clear HO_6)
                                                      (try clear HO_7)
                                                      (try clear BK221)
                                                      (try clear BK238)
                                                      (try clear HB)
                                                      generalize (((w58.setCell ⟨gb238, 0, none⟩ (.int .i64 ((rd_T63 (rd_L5 (rd_L6 l0_2 (rd l1 x29_1)) (rd x7_1 (rd l1 x29_1))) x66_3).f0))).setCell ⟨gb238, 1, none⟩ (.int .i64 ((rd_T63 (rd_L5 (rd_L6 l0_2 (rd l1 x29_1)) (rd x7_1 (rd l1 x29_1))) x66_3).f1))).setCell ⟨gb238, 2, none⟩ (.int .i64 ((rd_T63 (rd_L5 (rd_L6 l0_2 (rd l1 x29_1)) (rd x7_1 (rd l1 x29_1))) x66_3).f2))) = w61 at n0_ n1_ n2_ n3_ n4_ ⊢
                                                      have HO_6 := n0_
                                                      have HO_7 := n1_
                                                      have BK221 := n2_
                                                      have BK238 := n3_
                                                      have HB := n4_
                                                      clear n0_ n1_ n2_ n3_ n4_
                                                      have n0_ := Aside0.mk (Kd.R_drew HO_6.out)
                                                      have n1_ := Aside0.mk (Kd.R_drew HO_7.out)
                                                      have n2_ := Aside0.mk (blk_drew BK221.out)
                                                      have n3_ := Aside0.mk (blk_drew BK238.out)
                                                      have n4_ := Aside0.mk (below_drew1 HB.out)
                                                      clear HO_6
                                                      clear HO_7
                                                      clear BK221
                                                      clear BK238
                                                      clear HB
                                                      have HO_6 := n0_
                                                      have HO_7 := n1_
                                                      have BK221 := n2_
                                                      have BK238 := n3_
                                                      have HB := n4_
                                                      clear n0_ n1_ n2_ n3_ n4_
                                                      obtain ⟨Ao63, co63, eo63⟩ := Kd.R_slice HO_6.out
                                                      (first | subst eo63 | (injection eo63 with f1_ f2_ f3_; have f4_ := f1_.symm; have f5_ := f3_.symm; clear f1_ f2_ f3_; subst f4_; subst f5_))
                                                      have p240 : 0 ≤ (((rd_T63 (rd_L5 (rd_L6 l0_2 (rd l1 x29_1)) (rd x7_1 (rd l1 x29_1))) x66_3).f1) : Int) := of_decide_eq_true (by assumption)
                                                      have q240 : ((rd_T63 (rd_L5 (rd_L6 l0_2 (rd l1 x29_1)) (rd x7_1 (rd l1 x29_1))) x66_3).f1) < (x6_3.length : Int) := of_decide_eq_true (by assumption)
                                                      obtain ⟨ad240, e240, hx240_0⟩ := Kd.at_int (Kd.R_reads' HO_6.out).2.2 ((rd_T63 (rd_L5 (rd_L6 l0_2 (rd l1 x29_1)) (rd x7_1 (rd l1 x29_1))) x66_3).f1) p240 q240
                                                      cases e240
                                                      replace p240 := eq_true p240
                                                      replace q240 := eq_true q240
                                                      have p57 : 0 ≤ (((rd_T63 (rd_L5 (rd_L6 l0_2 (rd l1 x29_1)) (rd x7_1 (rd l1 x29_1))) x66_3).f1) : Int) := of_decide_eq_true (by assumption)
                                                      have q57 : (((rd_T63 (rd_L5 (rd_L6 l0_2 (rd l1 x29_1)) (rd x7_1 (rd l1 x29_1))) x66_3).f1) : Int) < ((x6_3.length : Int) : Int) := of_decide_eq_true (by assumption)
                                                      obtain ⟨go57, co57, eo57, gb57, gl57, cl57, HG57⟩ := Kd.R_form HO_6.out (by omega)
                                                      (first | cases eo57 | (injection eo57 with ea_ en_ ec_; (first | subst ea_ | (injection ea_ with ea_; subst ea_)); subst ec_; clear en_))
                                                      have GB57 := Aside0.mk gb57
                                                      have GG57 := Aside0.mk HG57
                                                      clear gb57 gl57 HG57
                                                      (first | simp only [add_plain] at hx240_0 | skip)
                                                      obtain ⟨hx57_0, hf57_0⟩ := Kd.R_celln 0 HO_6.out (((rd_T63 (rd_L5 (rd_L6 l0_2 (rd l1 x29_1)) (rd x7_1 (rd l1 x29_1))) x66_3).f1) : Int) p57 q57
                                                      replace p57 := eq_true p57
                                                      replace q57 := eq_true q57
                                                      have HP64 := Kd.R_putn HO_6.out (((rd_T63 (rd_L5 (rd_L6 l0_2 (rd l1 x29_1)) (rd x7_1 (rd l1 x29_1))) x66_3).f1) : Int) (wrap64 ((rd x6_3 ((rd_T63 (rd_L5 (rd_L6 l0_2 (rd l1 x29_1)) (rd x7_1 (rd l1 x29_1))) x66_3).f1)) + ((rd_T63 (rd_L5 (rd_L6 l0_2 (rd l1 x29_1)) (rd x7_1 (rd l1 x29_1))) x66_3).f2)))
                                                      rw [← Ny241.out] at HP64
                                                      have HQ64 := Aside0.mk HP64
                                                      clear HP64
                                                      refine start_ (n := 10) (S := fun w' => w'.cell? ⟨gb238, 0, none⟩ = some (.int .i64 ((rd_T63 (rd_L5 (rd_L6 l0_2 (rd l1 x29_1)) (rd x7_1 (rd l1 x29_1))) x66_3).f0)) ∧ w'.cell? ⟨gb238, 1, none⟩ = some (.int .i64 ((rd_T63 (rd_L5 (rd_L6 l0_2 (rd l1 x29_1)) (rd x7_1 (rd l1 x29_1))) x66_3).f1)) ∧ w'.cell? ⟨gb238, 2, none⟩ = some (.int .i64 ((rd_T63 (rd_L5 (rd_L6 l0_2 (rd l1 x29_1)) (rd x7_1 (rd l1 x29_1))) x66_3).f2)) ∧ w'.cell? ⟨go57, (((rd_T63 (rd_L5 (rd_L6 l0_2 (rd l1 x29_1)) (rd x7_1 (rd l1 x29_1))) x66_3).f1)).toNat, none⟩ = some (.int .i64 (rd x6_3 ((rd_T63 (rd_L5 (rd_L6 l0_2 (rd l1 x29_1)) (rd x7_1 (rd l1 x29_1))) x66_3).f1)))) (ds := [9]) #[false, false, false, false, false, false, false, false, false, false] (by kernel_rfl) rfl rfl ⟨(blk_cell BK238.out 0).trans rfl, (blk_cell BK238.out 1).trans rfl, (blk_cell BK238.out 2).trans rfl, hx240_0⟩ (fun hHeld => ?_); refine with_tabW impl_TxSerial.tab19 impl_TxSerial.bits19 (fun HT_ HW_ => ?_)
                                                      generalize w61.drew = w62 at HO_6 HO_7 BK221 BK238 HB GG57 HQ64 hf57_0 hx240_0 hx57_0 hHeld ⊢
                                                      refine pure_ (i := 0) (N := some 82) (v := ?_) (a' := ?_) #[true, false, false, false, false, false, false, false, false, false] rfl rfl (any_of HT_.out (by kernel_rfl)) (fun _ _ _ h => h) (Or.inl ⟨by rfl, ?_⟩) ?_ ?_
                                                      rotate_left
                                                      · intro w'
                                                        go_simp
                                                        with_reducible rfl
                                                      rotate_left
                                                      · simp only [Act.put, List.setIfInBounds_toArray, List.set_cons_zero, List.set_cons_succ, i64_w, i32_w]
                                                        rfl
                                                      refine pure_ (i := 1) (N := some 83) (v := ?_) (a' := ?_) #[true, true, false, false, false, false, false, false, false, false] rfl rfl (any_of HT_.out (by kernel_rfl)) (fun _ _ _ h => h) (Or.inl ⟨by rfl, ?_⟩) ?_ ?_
                                                      rotate_left
                                                      · intro w'
                                                        go_simp
                                                        with_reducible rfl
                                                      rotate_left
                                                      · simp only [Act.put, List.setIfInBounds_toArray, List.set_cons_zero, List.set_cons_succ, i64_w, i32_w]
                                                        rfl
                                                      refine pure_ (i := 5) (N := some 87) (v := ?_) (a' := ?_) #[true, true, false, false, false, true, false, false, false, false] rfl rfl (any_of HT_.out (by kernel_rfl)) (fun _ _ _ h => h) (Or.inl ⟨by rfl, ?_⟩) ?_ ?_
                                                      rotate_left
                                                      · intro w'
                                                        go_simp
                                                        with_reducible rfl
                                                      rotate_left
                                                      · simp only [Act.put, List.setIfInBounds_toArray, List.set_cons_zero, List.set_cons_succ, i64_w, i32_w]
                                                        rfl
                                                      refine take_ (i := 2) (N := some 84) (v := ?_) (a' := ?_) #[true, true, true, false, false, true, false, false, false, false] rfl rfl (take_ofW HT_.out HW_.out (by kernel_rfl)) (fun _ _ _ h => h) (Or.inl ⟨by rfl, ?_⟩) hHeld ?_ ?_
                                                      rotate_left
                                                      · rintro w' ⟨s0, s1, s2, s3⟩
                                                        go_simp
                                                        with_reducible rfl
                                                      rotate_left
                                                      · simp only [Act.put, List.setIfInBounds_toArray, List.set_cons_zero, List.set_cons_succ, i64_w, i32_w]
                                                        rfl
                                                      refine pure_ (i := 3) (N := some 85) (v := ?_) (a' := ?_) #[true, true, true, true, false, true, false, false, false, false] rfl rfl (any_of HT_.out (by kernel_rfl)) (fun _ _ _ h => h) (Or.inl ⟨by rfl, ?_⟩) ?_ ?_
                                                      rotate_left
                                                      · intro w'
                                                        go_simp
                                                        with_reducible rfl
                                                      rotate_left
                                                      · simp only [Act.put, List.setIfInBounds_toArray, List.set_cons_zero, List.set_cons_succ, i64_w, i32_w]
                                                        rfl
                                                      refine take_ (i := 4) (N := some 86) (v := ?_) (a' := ?_) #[true, true, true, true, true, true, false, false, false, false] rfl rfl (take_ofW HT_.out HW_.out (by kernel_rfl)) (fun _ _ _ h => h) (Or.inl ⟨by rfl, ?_⟩) hHeld ?_ ?_
                                                      rotate_left
                                                      · rintro w' ⟨s0, s1, s2, s3⟩
                                                        go_simp
                                                        with_reducible rfl
                                                      rotate_left
                                                      · simp only [Act.put, List.setIfInBounds_toArray, List.set_cons_zero, List.set_cons_succ, i64_w, i32_w]
                                                        rfl
                                                      refine take_ (i := 6) (N := some 88) (v := ?_) (a' := ?_) #[true, true, true, true, true, true, true, false, false, false] rfl rfl (take_ofW HT_.out HW_.out (by kernel_rfl)) (fun _ _ _ h => h) (Or.inl ⟨by rfl, ?_⟩) hHeld ?_ ?_
                                                      rotate_left
                                                      · rintro w' ⟨s0, s1, s2, s3⟩
                                                        go_simp
                                                        with_reducible rfl
                                                      rotate_left
                                                      · simp only [Act.put, List.setIfInBounds_toArray, List.set_cons_zero, List.set_cons_succ, i64_w, i32_w]
                                                        rfl
                                                      refine pure_ (i := 7) (N := some 89) (v := ?_) (a' := ?_) #[true, true, true, true, true, true, true, true, false, false] rfl rfl (any_of HT_.out (by kernel_rfl)) (fun _ _ _ h => h) (Or.inl ⟨by rfl, ?_⟩) ?_ ?_
                                                      rotate_left
                                                      · intro w'
                                                        go_simp
                                                        with_reducible rfl
                                                      rotate_left
                                                      · simp only [Act.put, List.setIfInBounds_toArray, List.set_cons_zero, List.set_cons_succ, i64_w, i32_w]
                                                        rfl
                                                      refine pure_ (i := 8) (N := some 90) (v := ?_) (a' := ?_) #[true, true, true, true, true, true, true, true, true, false] rfl rfl (any_of HT_.out (by kernel_rfl)) (fun _ _ _ h => h) (Or.inl ⟨by rfl, ?_⟩) ?_ ?_
                                                      rotate_left
                                                      · intro w'
                                                        go_simp
                                                        with_reducible rfl
                                                      rotate_left
                                                      · simp only [Act.put, List.setIfInBounds_toArray, List.set_cons_zero, List.set_cons_succ, i64_w, i32_w]
                                                        rfl
                                                      refine last_ (i := 9) (N := none) #[true, true, true, true, true, true, true, true, true, true] rfl rfl (one_of HT_.out (by kernel_rfl)) (by decide) (fun K hK => ?_)
                                                      refine skip_ (w1 := ?_) (by rfl) rfl ?_ ?_
                                                      rotate_left
                                                      · go_simp
                                                        rfl
                                                      refine hK.out _ _ ?_
                                                      clear hK K
                                                      refine done_ (done_of HT_.out (by kernel_rfl)) ?_
                                                      try go_wp2
                                                      go_roundg k3
                                                      case measure => have := HK1.out; have := HJ20.out; have := HK3.out; omega
                                                      case rel => exact ⟨(y241), (wrap64 (x66_3 + 1)), (by first | rfl | (simp; done) | (simp [*]; done)), H', ⟨by have := HK1.out; have := HJ20.out; have := HK3.out; omega⟩, ⟨by (with_reducible repeat (first | apply Kd.R_alloc | apply Kd.R_drewN | apply Kd.R_drew)); exact HQ64.out⟩, ⟨by (with_reducible repeat (first | apply Kd.R_alloc | apply Kd.R_drewN | apply Kd.R_drew)); exact Kd.R_mono (Kd.R_far (p := ⟨go57, (((rd_T63 (rd_L5 (rd_L6 l0_2 (rd l1 x29_1)) (rd x7_1 (rd l1 x29_1))) x66_3).f1) : Int).toNat, none⟩) (Kd.R_mono HO_7.out (fun k_ hk => (⟨hk, fun e_ => hk (by rw [e_]; rfl)⟩ : _ ∧ k_ ≠ go57))) (fun _ hk => hk.2) (.int .i64 (wrap64 ((rd x6_3 ((rd_T63 (rd_L5 (rd_L6 l0_2 (rd l1 x29_1)) (rd x7_1 (rd l1 x29_1))) x66_3).f1)) + ((rd_T63 (rd_L5 (rd_L6 l0_2 (rd l1 x29_1)) (rd x7_1 (rd l1 x29_1))) x66_3).f2))))) (fun _ hk => hk.1)⟩, ⟨by (with_reducible repeat (first | refine blk_drewN ?_ _ | refine blk_drew ?_ | refine blk_alloc ?_ _)); refine blk_far ?_ (by have h_ := Kd.R_ne HO_6.out BK221.out (by decide); intro e_; exact h_ (by rw [e_]; rfl)) _; (with_reducible repeat (first | refine blk_drewN ?_ _ | refine blk_drew ?_ | refine blk_alloc ?_ _)); exact BK221.out⟩, ⟨by repeat (first | (with_reducible first | exact HB.out | apply below_alloc | apply pw_below_drewN | apply below_drew1 | refine below_set ?_ GB57.out | refine below_set ?_ GE221.out | refine below_set ?_ GE238.out) | exact HB.out)⟩⟩
                                                    · rw [if_neg c56] at H
                                                      exact absurd H (by simp)
                                                  · rw [if_neg c55] at H
                                                    exact absurd H (by simp)
                                                · rw [if_neg c54] at H
                                                  have c54b0 : (((rd_T63 (rd_L5 (rd_L6 l0_2 (rd l1 x29_1)) (rd x7_1 (rd l1 x29_1))) x66_3).f0) == 3) = false := beq_eq_false_iff_ne.mpr c54
                                                  have c54b1 : (((rd_T63 (rd_L5 (rd_L6 l0_2 (rd l1 x29_1)) (rd x7_1 (rd l1 x29_1))) x66_3).f0) != 3) = true := bne_iff_ne.mpr c54
                                                  have H' := Aside0.mk H
                                                  clear H
                                                  have p237 : 0 ≤ (x66_3 : Int) := of_decide_eq_true (by assumption)
                                                  have q237 : x66_3 < ((rd_L5 (rd_L6 l0_2 (rd l1 x29_1)) (rd x7_1 (rd l1 x29_1))).length : Int) := of_decide_eq_true (by assumption)
                                                  obtain ⟨ad237, e237, hx237_0, hx237_1, hx237_2⟩ := at_T63 HR234_0.out x66_3 p237 q237
                                                  cases e237
                                                  replace hx237_0 := (HB.out.cell (World.block_lt_of_cell? w _ hx237_0)).trans hx237_0
                                                  replace hx237_1 := (HB.out.cell (World.block_lt_of_cell? w _ hx237_1)).trans hx237_1
                                                  replace hx237_2 := (HB.out.cell (World.block_lt_of_cell? w _ hx237_2)).trans hx237_2
                                                  replace p237 := eq_true p237
                                                  replace q237 := eq_true q237
                                                  go_wp2_with (first | ((with_reducible refine gate_dst (N := 11) rfl ?_); (try (refine gate_guard (by rfl) ?_; dsimp only)); refine box_event ?hg (N := 11) ?hd (cs := #[.int .i64 0, .int .i64 0, .int .i64 0]) (t := 63) ?hr ?_; (case hd => rfl); (case hg => rfl); (case hr => first | (go_simp; done) | (go_simp; rfl)); intro gb238 hg w65 hbox hb; have n0_ := Aside0.mk (Kd.R_below (by (with_reducible repeat (first | apply Kd.R_alloc | apply Kd.R_drewN | apply Kd.R_drew)); exact HO_6.out) hb); have n1_ := Aside0.mk (Kd.R_below (by (with_reducible repeat (first | apply Kd.R_alloc | apply Kd.R_drewN | apply Kd.R_drew)); exact HO_7.out) hb); have n2_ := Aside0.mk (blk_below (g := gb221) (o := .cells #[.slice A0_0 l0_0.length c0_0, .int .i64 a0_1, .slice (some ad232) l0_2.length c0_2] 30 (0, 0)) (by (with_reducible repeat (first | refine blk_drewN ?_ _ | refine blk_drew ?_ | refine blk_alloc ?_ _)); exact BK221.out) hb); have n3_ := Aside0.mk (below_step (by repeat (first | (with_reducible first | exact HB.out | apply below_alloc | apply pw_below_drewN | apply below_drew1 | refine below_set ?_ GE221.out) | exact HB.out)) hb); have n4_ := Aside0.mk (hbox); have n5_ := Aside0.mk ((by rw [hg]; exact (below_size (by repeat (first | (with_reducible first | exact HB.out | apply below_alloc | apply pw_below_drewN | apply below_drew1 | refine below_set ?_ GE221.out) | exact HB.out))) : w.heap.size ≤ gb238)); have n6_ := Aside0.mk ((by rw [hg]; exact (below_size (by repeat (first | (with_reducible first | exact HB.out | apply below_alloc | apply pw_below_drewN | apply below_drew1 | refine below_set ?_ GE221.out) | exact HB.out))) : w.heap.size ≤ gb238)); have n7_ := Aside0.mk ((by rw [hg]; exact Nat.ne_of_lt (blk_lt (g := gb221) (o := .cells #[.slice A0_0 l0_0.length c0_0, .int .i64 a0_1, .slice (some ad232) l0_2.length c0_2] 30 (0, 0)) (by (with_reducible repeat (first | refine blk_drewN ?_ _ | refine blk_drew ?_ | refine blk_alloc ?_ _)); exact BK221.out)) : gb221 ≠ gb238)); have n8_ := Aside0.mk ((by rw [hg]; exact Nat.ne_of_gt (blk_lt (g := gb221) (o := .cells #[.slice A0_0 l0_0.length c0_0, .int .i64 a0_1, .slice (some ad232) l0_2.length c0_2] 30 (0, 0)) (by (with_reducible repeat (first | refine blk_drewN ?_ _ | refine blk_drew ?_ | refine blk_alloc ?_ _)); exact BK221.out)) : gb238 ≠ gb221)); clear HO_6; clear HO_7; clear BK221; clear HB; have HO_6 := n0_; have HO_7 := n1_; have BK221 := n2_; have HB := n3_; have BK238 := n4_; have GW238 := n5_; have GE238 := n6_; have NB221_238 := n7_; have NB238_221 := n8_; clear n0_ n1_ n2_ n3_ n4_ n5_ n6_ n7_ n8_; clear hb hbox hg; have hnb66 := NB238_221.out; have hnc66 := NB221_238.out; have hcz67_0 : w65.cell? ⟨gb238, 0, none⟩ = some (.int .i64 0) := (blk_cell BK238.out 0).trans rfl; have hcz67_1 : w65.cell? ⟨gb238, 1, none⟩ = some (.int .i64 0) := (blk_cell BK238.out 1).trans rfl; have hcz67_2 : w65.cell? ⟨gb238, 2, none⟩ = some (.int .i64 0) := (blk_cell BK238.out 2).trans rfl; have hfz67_0 := blk_frozen BK238.out 0; have hfz67_1 := blk_frozen BK238.out 1; have hfz67_2 := blk_frozen BK238.out 2))
                                                  go_roundg k3
                                                  case measure => have := HK1.out; have := HJ20.out; have := HK3.out; omega
                                                  case rel => exact ⟨(x6_3), (wrap64 (x66_3 + 1)), (by first | rfl | (simp; done) | (simp [*]; done)), H', ⟨by have := HK1.out; have := HJ20.out; have := HK3.out; omega⟩, ⟨by (with_reducible repeat (first | apply Kd.R_alloc | apply Kd.R_drewN | apply Kd.R_drew)); exact Kd.R_mono (Kd.R_far (p := ⟨gb238, 2, none⟩) (Kd.R_far (p := ⟨gb238, 1, none⟩) (Kd.R_far (p := ⟨gb238, 0, none⟩) (Kd.R_types HO_6.out BK238.out (by decide)) (fun _ hk => hk.2) (.int .i64 ((rd_T63 (rd_L5 (rd_L6 l0_2 (rd l1 x29_1)) (rd x7_1 (rd l1 x29_1))) x66_3).f0))) (fun _ hk => hk.2) (.int .i64 ((rd_T63 (rd_L5 (rd_L6 l0_2 (rd l1 x29_1)) (rd x7_1 (rd l1 x29_1))) x66_3).f1))) (fun _ hk => hk.2) (.int .i64 ((rd_T63 (rd_L5 (rd_L6 l0_2 (rd l1 x29_1)) (rd x7_1 (rd l1 x29_1))) x66_3).f2))) (fun _ hk => hk.1)⟩, ⟨by (with_reducible repeat (first | apply Kd.R_alloc | apply Kd.R_drewN | apply Kd.R_drew)); exact Kd.R_mono (Kd.R_far (p := ⟨gb238, 2, none⟩) (Kd.R_far (p := ⟨gb238, 1, none⟩) (Kd.R_far (p := ⟨gb238, 0, none⟩) (Kd.R_types HO_7.out BK238.out (by decide)) (fun _ hk => hk.2) (.int .i64 ((rd_T63 (rd_L5 (rd_L6 l0_2 (rd l1 x29_1)) (rd x7_1 (rd l1 x29_1))) x66_3).f0))) (fun _ hk => hk.2) (.int .i64 ((rd_T63 (rd_L5 (rd_L6 l0_2 (rd l1 x29_1)) (rd x7_1 (rd l1 x29_1))) x66_3).f1))) (fun _ hk => hk.2) (.int .i64 ((rd_T63 (rd_L5 (rd_L6 l0_2 (rd l1 x29_1)) (rd x7_1 (rd l1 x29_1))) x66_3).f2))) (fun _ hk => hk.1)⟩, ⟨by (with_reducible repeat (first | refine blk_drewN ?_ _ | refine blk_drew ?_ | refine blk_alloc ?_ _)); refine blk_far ?_ NB221_238.out _; (with_reducible repeat (first | refine blk_drewN ?_ _ | refine blk_drew ?_ | refine blk_alloc ?_ _)); refine blk_far ?_ NB221_238.out _; (with_reducible repeat (first | refine blk_drewN ?_ _ | refine blk_drew ?_ | refine blk_alloc ?_ _)); refine blk_far ?_ NB221_238.out _; (with_reducible repeat (first | refine blk_drewN ?_ _ | refine blk_drew ?_ | refine blk_alloc ?_ _)); exact BK221.out⟩, ⟨by repeat (first | (with_reducible first | exact HB.out | apply below_alloc | apply pw_below_drewN | apply below_drew1 | refine below_set ?_ GE221.out | refine below_set ?_ GE238.out) | exact HB.out)⟩⟩
                                            · rw [if_neg c42] at H
                                              exact absurd H (by simp)
                                          · rw [if_neg c41] at H
                                            exact absurd H (by simp)
                                        · rw [if_neg c40] at H
                                          have c40b0 : decide (x66_3 < ((rd_L5 (rd_L6 l0_2 (rd l1 x29_1)) (rd x7_1 (rd l1 x29_1))).length : Int)) = false := decide_eq_false c40
                                          clear c40
                                          by_cases c68 : 0 ≤ (rd l1 x29_1)
                                          · rw [if_pos c68] at H
                                            have c68b0 : decide (0 ≤ (rd l1 x29_1)) = true := decide_eq_true c68
                                            clear c68
                                            by_cases c69 : (rd l1 x29_1) < (x7_1.length : Int)
                                            · rw [if_pos c69] at H
                                              have c69b0 : decide ((rd l1 x29_1) < (x7_1.length : Int)) = true := decide_eq_true c69
                                              clear c69
                                              obtain ⟨y236, hy236⟩ : ∃ y_ : List Int, y_ = (x7_1.set ((rd l1 x29_1) : Int).toNat (wrap64 ((rd x7_1 (rd l1 x29_1)) + 1))) := ⟨_, rfl⟩
                                              replace H : (impl_TxSerial.l0 k3 x6_3 y236 l1 (l1.length : Int) (wrap64 (x29_1 + 1)) l0_0 a0_1 l0_2) = some (r1, r2) := by first | (rw [hy236]; with_reducible exact H) | (have H2_ := (Option.bind_some _ _).symm.trans H; rw [hy236]; with_reducible exact H2_) | (have H2_ := (Option.bind_some _ _).symm.trans H; with_reducible exact H2_) | with_reducible exact H | (rw [hy236]; exact H) | exact H
                                              have Ny236 := Aside0.mk hy236
                                              clear hy236
                                              have H' := Aside0.mk H
                                              clear H
                                              have p235 : 0 ≤ ((rd l1 x29_1) : Int) := of_decide_eq_true (by assumption)
                                              have q235 : (rd l1 x29_1) < (x7_1.length : Int) := of_decide_eq_true (by assumption)
                                              obtain ⟨ad235, e235, hx235_0⟩ := Kd.at_int (Kd.R_reads' HO_7.out).2.2 (rd l1 x29_1) p235 q235
                                              obtain rfl : ad233 = ad235 := (by injection e235)
                                              replace p235 := eq_true p235
                                              replace q235 := eq_true q235
                                              have p70 : 0 ≤ ((rd l1 x29_1) : Int) := of_decide_eq_true (by assumption)
                                              have q70 : ((rd l1 x29_1) : Int) < ((x7_1.length : Int) : Int) := of_decide_eq_true (by assumption)
                                              obtain ⟨go70, co70, eo70, gb70, gl70, cl70, HG70⟩ := Kd.R_form HO_7.out (by omega)
                                              (first | cases eo70 | (injection eo70 with ea_ en_ ec_; (first | subst ea_ | (injection ea_ with ea_; subst ea_)); subst ec_; clear en_))
                                              have GB70 := Aside0.mk gb70
                                              have GG70 := Aside0.mk HG70
                                              clear gb70 gl70 HG70
                                              (first | simp only [add_plain] at hx233_0 | skip)
                                              (first | simp only [add_plain] at hx235_0 | skip)
                                              obtain ⟨hx70_0, hf70_0⟩ := Kd.R_celln 0 HO_7.out ((rd l1 x29_1) : Int) p70 q70
                                              replace p70 := eq_true p70
                                              replace q70 := eq_true q70
                                              have HP71 := Kd.R_putg HO_7.out ((rd l1 x29_1) : Int) (wrap64 ((rd x7_1 (rd l1 x29_1)) + 1))
                                              go_wp2_with (first | ((with_reducible refine gate_store (t := 3) (p := 97) rfl ?_); refine store_event (t := 3) (p := 97) (v := ?vo_w72) (w1 := (wr.setCell ⟨go70, ((rd l1 x29_1) : Int).toNat, none⟩ (.int .i64 (wrap64 ((rd x7_1 (rd l1 x29_1)) + 1))))) ?hg ?ho ?hn ?hr ?_; (case ho => rfl); (case hg => rfl); (case hn => rfl); (case hr => first | (go_simp; done) | (go_simp; rfl)); intro w72 hw; have hg : wr.grownBy w72 (some go70) := (by rw [hw]; exact HP71.2); have hp_ : Kd.R (Kd.int .i64) 3 w72 w.heap.size (fun k_ => some k_ ≠ (v224 : Value).ownBlock) (.slice (some ⟨go70, 0, none⟩) x7_1.length co39) y236 := (by rw [hw, Ny236.out]; exact HP71.1); clear HP71; have n0_ := Aside0.mk (Kd.R_after (v := (.slice (some ⟨go70, 0, none⟩) x7_1.length co39)) (v1 := (.slice (some ⟨go70, 0, none⟩) x7_1.length co39)) (ok := (fun _ => True)) (by (with_reducible repeat (first | apply Kd.R_alloc | apply Kd.R_drewN | apply Kd.R_drew)); exact Kd.R_mono HO_6.out (fun _ hk => ⟨trivial, hk⟩)) hg (.inl rfl)); have n1_ := Aside0.mk (hp_); have n2_ := Aside0.mk (blk_grown (g := gb221) (o := .cells #[.slice A0_0 l0_0.length c0_0, .int .i64 a0_1, .slice (some ad232) l0_2.length c0_2] 30 (0, 0)) (by (with_reducible repeat (first | refine blk_drewN ?_ _ | refine blk_drew ?_ | refine blk_alloc ?_ _)); exact BK221.out) hg (Kd.R_ne HO_7.out BK221.out (by decide))); have n3_ := Aside0.mk ((by rw [hw]; exact below_set (HB.out) GB70.out : Below w.heap.size w w72)); clear HO_6; clear HO_7; clear BK221; clear HB; have HO_6 := n0_; have HO_7 := n1_; have BK221 := n2_; have HB := n3_; clear n0_ n1_ n2_ n3_; clear hg hw hp_))
                                              go_roundg k3
                                              case measure => have := HK1.out; have := HJ20.out; have := HK3.out; omega
                                              case rel => exact ⟨(x6_3), (y236), (wrap64 (x29_1 + 1)), (by first | rfl | (simp; done) | (simp [*]; done)), H', ⟨by have := HK1.out; have := HJ20.out; have := HK3.out; omega⟩, ⟨by (with_reducible repeat (first | apply Kd.R_alloc | apply Kd.R_drewN | apply Kd.R_drew)); exact Kd.R_mono HO_6.out (fun _ hk => hk.2)⟩, ⟨by (with_reducible repeat (first | apply Kd.R_alloc | apply Kd.R_drewN | apply Kd.R_drew)); exact HO_7.out⟩, ⟨by (with_reducible repeat (first | refine blk_drewN ?_ _ | refine blk_drew ?_ | refine blk_alloc ?_ _)); exact BK221.out⟩, ⟨by repeat (first | (with_reducible first | exact HB.out | apply below_alloc | apply pw_below_drewN | apply below_drew1 | refine below_set ?_ GE221.out) | exact HB.out)⟩⟩
                                            · rw [if_neg c69] at H
                                              exact absurd H (by simp)
                                          · rw [if_neg c68] at H
                                            exact absurd H (by simp)
                                  · rw [if_neg c37] at H
                                    exact absurd H (by simp)
                                · rw [if_neg c36] at H
                                  exact absurd H (by simp)
                              · rw [if_neg c35] at H
                                exact absurd H (by simp)
                            · rw [if_neg c34] at H
                              exact absurd H (by simp)
                          · rw [if_neg c33] at H
                            exact absurd H (by simp)
                  · rw [if_neg c20] at H
                    exact absurd H (by simp)
                · rw [if_neg c19] at H
                  exact absurd H (by simp)
              · rw [if_neg c18] at H
                have c18b0 : decide (x29_1 < (l1.length : Int)) = false := decide_eq_false c18
                clear c18
                simp only [Option.some.injEq, Prod.mk.injEq] at H
                obtain ⟨rfl, rfl⟩ := H
                go_wp2
                go_ret2
                exact ⟨_, by first | rfl | (simp <;> rfl) | (simp [*] <;> rfl), by (with_reducible repeat (first | apply Kd.R_alloc | apply Kd.R_drewN | apply Kd.R_drew)); exact Kd.R_mono HO_6.out (fun _ hk => trivial), by repeat (first | (with_reducible first | exact HB.out | apply below_alloc | apply pw_below_drewN | apply below_drew1 | refine below_set ?_ GE221.out) | exact HB.out)⟩
        · rw [if_neg c9] at H
          exact absurd H (by simp)
      · rw [if_neg c8] at H
        exact absurd H (by simp)
    · replace c6 := Bool.eq_false_iff.mpr c6
      subst c6
      have H1 : (some (([] : List Int), 1)) = some (r1, r2) := by rw [if_neg (show ¬ (false = true) by decide)] at H; exact H
      clear H
      have H := H1
      clear H1
      simp only [Option.some.injEq, Prod.mk.injEq] at H
      obtain ⟨rfl, rfl⟩ := H
      go_enter Try.func15, Try.ntmps15
      go_wp2_with (first | ((with_reducible refine gate_dst (N := 2) rfl ?_); (try (refine gate_guard (by rfl) ?_; dsimp only)); refine box_event ?hg (N := 2) ?hd (cs := #[.slice A0_0 l0_0.length c0_0, .int .i64 a0_1, .slice A0_2 l0_2.length c0_2]) (t := 30) ?hr ?_; (case hd => rfl); (case hg => rfl); (case hr => first | (go_simp; done) | (go_simp; rfl)); intro gb221 hg w73 hbox hb; have n0_ := Aside0.mk (below_step (by repeat (first | (with_reducible first | exact HB.out | apply below_alloc | apply pw_below_drewN | apply below_drew1) | exact HB.out)) hb); have n1_ := Aside0.mk (hbox); have n2_ := Aside0.mk ((by rw [hg]; exact (below_size (by repeat (first | (with_reducible first | exact HB.out | apply below_alloc | apply pw_below_drewN | apply below_drew1) | exact HB.out))) : w.heap.size ≤ gb221)); have n3_ := Aside0.mk ((by rw [hg]; exact (below_size (by repeat (first | (with_reducible first | exact HB.out | apply below_alloc | apply pw_below_drewN | apply below_drew1) | exact HB.out))) : w.heap.size ≤ gb221)); clear HB; have HB := n0_; have BK221 := n1_; have GW221 := n2_; have GE221 := n3_; clear n0_ n1_ n2_ n3_; clear hb hbox hg; have hcz74_0 : w73.cell? ⟨gb221, 0, none⟩ = some (.slice A0_0 l0_0.length c0_0) := (blk_cell BK221.out 0).trans rfl; have hcz74_1 : w73.cell? ⟨gb221, 1, none⟩ = some (.int .i64 a0_1) := (blk_cell BK221.out 1).trans rfl; have hcz74_2 : w73.cell? ⟨gb221, 2, none⟩ = some (.slice A0_2 l0_2.length c0_2) := (blk_cell BK221.out 2).trans rfl; have hfz74_0 := blk_frozen BK221.out 0; have hfz74_1 := blk_frozen BK221.out 1; have hfz74_2 := blk_frozen BK221.out 2) | ((with_reducible refine gate_callee (f := 11) rfl ?_); refine goesL_ (some 18) rfl rfl Try.func11 (by kernel_rfl) rfl #[.agg #[.slice A0_0 l0_0.length c0_0, .int .i64 a0_1, .slice A0_2 l0_2.length c0_2]] rfl (by (try simp only [List.map_toArray, List.map_cons, List.map_nil]); first | done | rfl) ?_; (with_reducible refine (impl_TxOK.calls k _ _ l0_0 a0_1 _ _ l0_2 false _ ?side1 ?side2 ?side3 ?side4 A5.out).mono ?_); (case side1 => repeat (first | exact (Kd.C_below HR0_0.out HB.out) | (with_reducible refine Kd.C_alloc ?_ _) | (with_reducible refine Kd.C_drewN ?_ _) | (with_reducible refine Kd.C_drew ?_))); (case side2 => exact HC0_0.out); (case side3 => repeat (first | exact (Kd.C_below HR0_2.out HB.out) | (with_reducible refine Kd.C_alloc ?_ _) | (with_reducible refine Kd.C_drewN ?_ _) | (with_reducible refine Kd.C_drew ?_))); (case side4 => exact HC0_2.out); rintro e w75 ⟨rfl, hb⟩; refine ⟨_, rfl, ?_⟩; have n0_ := Aside0.mk (blk_below (g := gb221) (o := .cells #[.slice A0_0 l0_0.length c0_0, .int .i64 a0_1, .slice A0_2 l0_2.length c0_2] 30 (0, 0)) (by (with_reducible repeat (first | refine blk_drewN ?_ _ | refine blk_drew ?_ | refine blk_alloc ?_ _)); exact BK221.out) hb); have n1_ := Aside0.mk (below_step (by repeat (first | (with_reducible first | exact HB.out | apply below_alloc | apply pw_below_drewN | apply below_drew1 | refine below_set ?_ GE221.out) | exact HB.out)) hb); clear BK221; clear HB; have BK221 := n0_; have HB := n1_; clear n0_ n1_; (try clear hb); (try clear hb2); (try clear hk); (try clear hi)))
      go_ret2
      exact ⟨_, by first | rfl | (simp <;> rfl) | (simp [*] <;> rfl), by first | exact Kd.R_nil _ _ _ _ _ | exact Kd.N_nil _ _ _ _ _ | exact Kd.V_nil _ _ _ _ _ | exact Kd.Q_nil _ _ _ _ _ | exact Kd.S_nil _ _ _ _ _, by repeat (first | (with_reducible first | exact HB.out | apply below_alloc | apply pw_below_drewN | apply below_drew1 | refine below_set ?_ GE221.out) | exact HB.out)⟩

end Go.Proofs.Ytonhmkllfbagmaa.PFnExactTxSerial
