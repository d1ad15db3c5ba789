/- What spec.SyncOK and impl.SyncOK answer: contracts over the translation. -/
import Derived.Test.YtlfhdjodcfifpaaSFnExactSyncOKa
import Derived.Lib.Hide
import Derived.BigRegion
namespace Go.Proofs.Ytlfhdjodcfifpaa.PFnExactSyncOK
open Go.RowKit Go.Proofs.YtlfhdjodcfifpaaW.PrintWords Go.Proofs.YtlfhdjodcfifpaaW.PrintLast Go.Proofs.YtlfhdjodcfifpaaW.PrintMore
set_option linter.unusedSimpArgs false
set_option linter.unusedVariables false

theorem goesV_ {P : Program} {ops : Array Oper} {Q : Exit → Act → World → Prop} {oi : Oper} {N : Option Tmp} {a : Act} {w : World} {K : Act → World → Prop} {f : FuncId} {fn : Func} {as_ : Array Operand} {ts : Array TypeId} {x : Operand} (hf : P.funcs[f]? = some fn) (hname : (fn.name == "runtime.NumGoroutine") = false) (hb : fn.body.isSome = true) (args : Array Value)
    (hw : Region.wanted oi (yielded ops a.tmps) = true) (hN : oi.dst = N) (hop : oi.op = .call { callee := .value x, args := as_, argTypes := ts }) (hv : a.eval x = .func (.func f) #[] #[]) (hargs : as_.map a.eval = args)
    (h : Calls P f args w fun e w' => ∃ v, e = .returned v ∧ K (a.put N v) w') : if Region.wanted oi (yielded ops a.tmps) = true then Oper.wp P oi a w K Q else K (a.put N undef) w := by
  refine call_ f args hw hN ?_ h
  have he := enters_ hf hname hb args w
  unfold execOp
  simp [hop, resolve, Deferred.ofValue, invoke, hv, hargs, he]
theorem clos34' (a b : Int) (w : World) : Calls Try.prog 34 #[.int .i64 a, .int .i64 b] w fun e w' => e = .returned (.func (.func 35) #[] #[.pointer (some ⟨w.heap.size, 0, none⟩), .pointer (some ⟨w.heap.size + 1, 0, none⟩)]) ∧ w'.cell? ⟨w.heap.size, 0, none⟩ = some (.int .i64 a) ∧ w'.cell? ⟨w.heap.size + 1, 0, none⟩ = some (.int .i64 b) ∧ Below w.heap.size w w' := by
  refine (clos34 a b w).mono ?_
  rintro e w' ⟨rfl, rfl⟩
  have hz : (w.alloc (.cells #[.int .i64 a] 3)).heap.size = w.heap.size + 1 := by simp
  refine ⟨rfl, ?_, ?_, below_alloc (below_alloc (Below.refl _ _) _) _⟩
  · refine ((below_alloc (Below.refl _ (w.alloc (.cells #[.int .i64 a] 3))) _).cell (p := ⟨w.heap.size, 0, none⟩) (by rw [hz]; exact Nat.lt_succ_self _)).trans ?_
    exact cell_of_row _ _ 0 _ 3 (0, 0) (heap_alloc_new w _)
  · rw [← hz]
    exact cell_of_row _ _ 0 _ 3 (0, 0) (heap_alloc_new (w.alloc (.cells #[.int .i64 a] 3)) _)
set_option maxHeartbeats 16000000 in
set_option maxRecDepth 100000 in
theorem impl_SyncOK.calls (a0 a1 : Int) (A2 : Option Addr) (c2 : Nat) (l2 : List Int) (A3 : Option Addr) (c3 : Nat) (l3 : List Int) (A4 : Option Addr) (c4 : Nat) (l4 : List Int) (A5 : Option Addr) (c5 : Nat) (l5 : List (List (S56))) (r : Bool) (w : World) (hr2 : Kd.C (Kd.int .i64) w A2 l2.length l2) (hc2 : l2.length ≤ c2) (hr3 : Kd.C (Kd.int .i64) w A3 l3.length l3) (hc3 : l3.length ≤ c3) (hr4 : Kd.C (Kd.int .i64) w A4 l4.length l4) (hc4 : l4.length ≤ c4) (hr5 : Kd.C (Kd.slice 56 k56) w A5 l5.length l5) (hc5 : l5.length ≤ c5) (h : impl_SyncOK.f a0 a1 l2 l3 l4 l5 = some r) :
    Calls Try.prog 10 #[.agg #[.int .i64 a0, .int .i64 a1, .slice A2 l2.length c2, .slice A3 l3.length c3, .slice A4 l4.length c4, .slice A5 l5.length c5]] w fun e w' => e = .returned (.bool r) ∧ Below w.heap.size w w' := by
  obtain rfl : syncB a0 a1 l2 l3 l4 l5 = r := Option.some.inj h
  clear h
  have HR2 := Lib.hid hr2; have HR3 := Lib.hid hr3; have HR4 := Lib.hid hr4; have HR5 := Lib.hid hr5
  clear hr2 hr3 hr4 hr5
  by_cases q0 : a0 < 0
  · have e : syncB a0 a1 l2 l3 l4 l5 = false := by unfold syncB headB; rw [show decide (0 ≤ a0 ∧ a0 ≤ 6 ∧ 0 ≤ a1 ∧ a1 ≤ 4 ∧ l2.length ≤ 4 ∧ l3.length ≤ 4 ∧ l4.length ≤ 4 ∧ 1 ≤ l5.length ∧ l5.length ≤ 4) = false by rw [decide_eq_false_iff_not]; omega]; rfl
    rw [e]
    clear e
    have d0 : decide (a0 < 0) = true := decide_eq_true q0
    go_enter Try.func10, Try.ntmps10
    go_wp2_with fail
    go_ret
    exact ⟨rfl, (Below.refl _ w).alloc (Nat.le_refl _) _⟩
  by_cases q1 : 6 < a0
  · have e : syncB a0 a1 l2 l3 l4 l5 = false := by unfold syncB headB; rw [show decide (0 ≤ a0 ∧ a0 ≤ 6 ∧ 0 ≤ a1 ∧ a1 ≤ 4 ∧ l2.length ≤ 4 ∧ l3.length ≤ 4 ∧ l4.length ≤ 4 ∧ 1 ≤ l5.length ∧ l5.length ≤ 4) = false by rw [decide_eq_false_iff_not]; omega]; rfl
    rw [e]
    clear e
    have d0 : decide (a0 < 0) = false := decide_eq_false q0
    have d1 : decide (6 < a0) = true := decide_eq_true q1
    go_enter Try.func10, Try.ntmps10
    go_wp2_with fail
    go_ret
    exact ⟨rfl, (Below.refl _ w).alloc (Nat.le_refl _) _⟩
  by_cases q2 : a1 < 0
  · have e : syncB a0 a1 l2 l3 l4 l5 = false := by unfold syncB headB; rw [show decide (0 ≤ a0 ∧ a0 ≤ 6 ∧ 0 ≤ a1 ∧ a1 ≤ 4 ∧ l2.length ≤ 4 ∧ l3.length ≤ 4 ∧ l4.length ≤ 4 ∧ 1 ≤ l5.length ∧ l5.length ≤ 4) = false by rw [decide_eq_false_iff_not]; omega]; rfl
    rw [e]
    clear e
    have d0 : decide (a0 < 0) = false := decide_eq_false q0
    have d1 : decide (6 < a0) = false := decide_eq_false q1
    have d2 : decide (a1 < 0) = true := decide_eq_true q2
    go_enter Try.func10, Try.ntmps10
    go_wp2_with fail
    go_ret
    exact ⟨rfl, (Below.refl _ w).alloc (Nat.le_refl _) _⟩
  by_cases q3 : 4 < a1
  · have e : syncB a0 a1 l2 l3 l4 l5 = false := by unfold syncB headB; rw [show decide (0 ≤ a0 ∧ a0 ≤ 6 ∧ 0 ≤ a1 ∧ a1 ≤ 4 ∧ l2.length ≤ 4 ∧ l3.length ≤ 4 ∧ l4.length ≤ 4 ∧ 1 ≤ l5.length ∧ l5.length ≤ 4) = false by rw [decide_eq_false_iff_not]; omega]; rfl
    rw [e]
    clear e
    have d0 : decide (a0 < 0) = false := decide_eq_false q0
    have d1 : decide (6 < a0) = false := decide_eq_false q1
    have d2 : decide (a1 < 0) = false := decide_eq_false q2
    have d3 : decide (4 < a1) = true := decide_eq_true q3
    go_enter Try.func10, Try.ntmps10
    go_wp2_with fail
    go_ret
    exact ⟨rfl, (Below.refl _ w).alloc (Nat.le_refl _) _⟩
  by_cases q4 : (4 : Int) < (l2.length : Int)
  · have e : syncB a0 a1 l2 l3 l4 l5 = false := by unfold syncB headB; rw [show decide (0 ≤ a0 ∧ a0 ≤ 6 ∧ 0 ≤ a1 ∧ a1 ≤ 4 ∧ l2.length ≤ 4 ∧ l3.length ≤ 4 ∧ l4.length ≤ 4 ∧ 1 ≤ l5.length ∧ l5.length ≤ 4) = false by rw [decide_eq_false_iff_not]; omega]; rfl
    rw [e]
    clear e
    have d0 : decide (a0 < 0) = false := decide_eq_false q0
    have d1 : decide (6 < a0) = false := decide_eq_false q1
    have d2 : decide (a1 < 0) = false := decide_eq_false q2
    have d3 : decide (4 < a1) = false := decide_eq_false q3
    have d4 : decide ((4 : Int) < (l2.length : Int)) = true := decide_eq_true q4
    go_enter Try.func10, Try.ntmps10
    go_wp2_with fail
    go_ret
    exact ⟨rfl, (Below.refl _ w).alloc (Nat.le_refl _) _⟩
  by_cases q5 : (4 : Int) < (l3.length : Int)
  · have e : syncB a0 a1 l2 l3 l4 l5 = false := by unfold syncB headB; rw [show decide (0 ≤ a0 ∧ a0 ≤ 6 ∧ 0 ≤ a1 ∧ a1 ≤ 4 ∧ l2.length ≤ 4 ∧ l3.length ≤ 4 ∧ l4.length ≤ 4 ∧ 1 ≤ l5.length ∧ l5.length ≤ 4) = false by rw [decide_eq_false_iff_not]; omega]; rfl
    rw [e]
    clear e
    have d0 : decide (a0 < 0) = false := decide_eq_false q0
    have d1 : decide (6 < a0) = false := decide_eq_false q1
    have d2 : decide (a1 < 0) = false := decide_eq_false q2
    have d3 : decide (4 < a1) = false := decide_eq_false q3
    have d4 : decide ((4 : Int) < (l2.length : Int)) = false := decide_eq_false q4
    have d5 : decide ((4 : Int) < (l3.length : Int)) = true := decide_eq_true q5
    go_enter Try.func10, Try.ntmps10
    go_wp2_with fail
    go_ret
    exact ⟨rfl, (Below.refl _ w).alloc (Nat.le_refl _) _⟩
  by_cases q6 : (4 : Int) < (l4.length : Int)
  · have e : syncB a0 a1 l2 l3 l4 l5 = false := by unfold syncB headB; rw [show decide (0 ≤ a0 ∧ a0 ≤ 6 ∧ 0 ≤ a1 ∧ a1 ≤ 4 ∧ l2.length ≤ 4 ∧ l3.length ≤ 4 ∧ l4.length ≤ 4 ∧ 1 ≤ l5.length ∧ l5.length ≤ 4) = false by rw [decide_eq_false_iff_not]; omega]; rfl
    rw [e]
    clear e
    have d0 : decide (a0 < 0) = false := decide_eq_false q0
    have d1 : decide (6 < a0) = false := decide_eq_false q1
    have d2 : decide (a1 < 0) = false := decide_eq_false q2
    have d3 : decide (4 < a1) = false := decide_eq_false q3
    have d4 : decide ((4 : Int) < (l2.length : Int)) = false := decide_eq_false q4
    have d5 : decide ((4 : Int) < (l3.length : Int)) = false := decide_eq_false q5
    have d6 : decide ((4 : Int) < (l4.length : Int)) = true := decide_eq_true q6
    go_enter Try.func10, Try.ntmps10
    go_wp2_with fail
    go_ret
    exact ⟨rfl, (Below.refl _ w).alloc (Nat.le_refl _) _⟩
  by_cases q7 : (l5.length : Int) < 1
  · have e : syncB a0 a1 l2 l3 l4 l5 = false := by unfold syncB headB; rw [show decide (0 ≤ a0 ∧ a0 ≤ 6 ∧ 0 ≤ a1 ∧ a1 ≤ 4 ∧ l2.length ≤ 4 ∧ l3.length ≤ 4 ∧ l4.length ≤ 4 ∧ 1 ≤ l5.length ∧ l5.length ≤ 4) = false by rw [decide_eq_false_iff_not]; omega]; rfl
    rw [e]
    clear e
    have d0 : decide (a0 < 0) = false := decide_eq_false q0
    have d1 : decide (6 < a0) = false := decide_eq_false q1
    have d2 : decide (a1 < 0) = false := decide_eq_false q2
    have d3 : decide (4 < a1) = false := decide_eq_false q3
    have d4 : decide ((4 : Int) < (l2.length : Int)) = false := decide_eq_false q4
    have d5 : decide ((4 : Int) < (l3.length : Int)) = false := decide_eq_false q5
    have d6 : decide ((4 : Int) < (l4.length : Int)) = false := decide_eq_false q6
    have d7 : decide ((l5.length : Int) < 1) = true := decide_eq_true q7
    go_enter Try.func10, Try.ntmps10
    go_wp2_with fail
    go_ret
    exact ⟨rfl, (Below.refl _ w).alloc (Nat.le_refl _) _⟩
  by_cases q8 : (4 : Int) < (l5.length : Int)
  · have e : syncB a0 a1 l2 l3 l4 l5 = false := by unfold syncB headB; rw [show decide (0 ≤ a0 ∧ a0 ≤ 6 ∧ 0 ≤ a1 ∧ a1 ≤ 4 ∧ l2.length ≤ 4 ∧ l3.length ≤ 4 ∧ l4.length ≤ 4 ∧ 1 ≤ l5.length ∧ l5.length ≤ 4) = false by rw [decide_eq_false_iff_not]; omega]; rfl
    rw [e]
    clear e
    have d0 : decide (a0 < 0) = false := decide_eq_false q0
    have d1 : decide (6 < a0) = false := decide_eq_false q1
    have d2 : decide (a1 < 0) = false := decide_eq_false q2
    have d3 : decide (4 < a1) = false := decide_eq_false q3
    have d4 : decide ((4 : Int) < (l2.length : Int)) = false := decide_eq_false q4
    have d5 : decide ((4 : Int) < (l3.length : Int)) = false := decide_eq_false q5
    have d6 : decide ((4 : Int) < (l4.length : Int)) = false := decide_eq_false q6
    have d7 : decide ((l5.length : Int) < 1) = false := decide_eq_false q7
    have d8 : decide ((4 : Int) < (l5.length : Int)) = true := decide_eq_true q8
    go_enter Try.func10, Try.ntmps10
    go_wp2_with fail
    go_ret
    exact ⟨rfl, (Below.refl _ w).alloc (Nat.le_refl _) _⟩
  have d9 := Lib.hid (And.intro q0 (And.intro q1 (And.intro q2 (And.intro q3 (And.intro q4 (And.intro q5 (And.intro q6 (And.intro q7 q8))))))))
  have hhd : headB a0 a1 l2.length l3.length l4.length l5.length = true := by unfold headB; rw [decide_eq_true_eq]; omega
  have HSB := Lib.hid (show syncB a0 a1 l2 l3 l4 l5 = (okL 0 (a0 - 1) l2 && (okL 0 9 l3 && (okL 1 9 l4 && l5.all (thB a0 a1 l2.length l3.length l4.length)))) by unfold syncB; rw [hhd]; rfl)
  clear hhd
  obtain ⟨W, hW⟩ : ∃ W, W = w.alloc (.cells #[.int .i64 a0, .int .i64 a1, .slice A2 l2.length c2, .slice A3 l3.length c3, .slice A4 l4.length c4, .slice A5 l5.length c5] 30) := ⟨_, rfl⟩
  have HW := Lib.hid hW
  have HBW := Lib.hid (show Below w.heap.size w W by rw [hW]; exact (Below.refl _ w).alloc (Nat.le_refl _) _)
  have HBX := Lib.hid (show ∀ o, W.cell? ⟨w.heap.size, o, none⟩ = (#[.int .i64 a0, .int .i64 a1, .slice A2 l2.length c2, .slice A3 l3.length c3, .slice A4 l4.length c4, .slice A5 l5.length c5] : Array Value)[o]? by intro o; rw [hW]; exact box_at w _ o)
  have hws : w.heap.size < W.heap.size := by rw [hW]; simp
  have HR2' := Lib.hid (Kd.C_below HR2.out HBW.out); have HR3' := Lib.hid (Kd.C_below HR3.out HBW.out); have HR4' := Lib.hid (Kd.C_below HR4.out HBW.out); have HR5' := Lib.hid (Kd.C_below HR5.out HBW.out)
  clear hW HR2 HR3 HR4 HR5
  have d0 : decide (a0 < 0) = false := decide_eq_false q0
  have d1 : decide (6 < a0) = false := decide_eq_false q1
  have d2 : decide (a1 < 0) = false := decide_eq_false q2
  have d3 : decide (4 < a1) = false := decide_eq_false q3
  have d4 : decide ((4 : Int) < (l2.length : Int)) = false := decide_eq_false q4
  have d5 : decide ((4 : Int) < (l3.length : Int)) = false := decide_eq_false q5
  have d6 : decide ((4 : Int) < (l4.length : Int)) = false := decide_eq_false q6
  have d7 : decide ((l5.length : Int) < 1) = false := decide_eq_false q7
  have d8 : decide ((4 : Int) < (l5.length : Int)) = false := decide_eq_false q8
  clear q0 q1 q2 q3 q4 q5 q6 q7 q8
  have f0 : W.drew.cell? ⟨w.heap.size, 0, none⟩ = some (.int .i64 a0) := HBX.out 0
  have f2 : W.drew.cell? ⟨w.heap.size, 2, none⟩ = some (.slice A2 l2.length c2) := HBX.out 2
  have f3 : W.drew.cell? ⟨w.heap.size, 3, none⟩ = some (.slice A3 l3.length c3) := HBX.out 3
  have f4 : W.drew.cell? ⟨w.heap.size, 4, none⟩ = some (.slice A4 l4.length c4) := HBX.out 4
  have BB0 := Lib.hid (below_drew (Below.refl W.heap.size W))
  go_enter Try.func10, Try.ntmps10
  go_wp2_with fail
  rw [← HW.out]
  clear d0 d1 d2 d3 d4 d5 d6 d7 d8
  obtain ⟨q0, q1, q2, q3, q4, q5, q6, q7, q8⟩ := d9.out
  have hsub : IntKind.i64.wrap (a0 - 1) = a0 - 1 := by rw [IntKind.wrap_i64]; omega
  have hsub2 : wrap64 (a0 - 1) = a0 - 1 := by unfold wrap64; omega
  rcases ok0 : okL 0 (a0 - 1) l2 with _ | _
  · have HOK0 := Lib.hid ok0
    refine start_ (n := 22) (S := fun w' => w'.cell? ⟨w.heap.size, 0, none⟩ = some (.int .i64 a0) ∧ w'.cell? ⟨w.heap.size, 2, none⟩ = some (.slice A2 l2.length c2) ∧ w'.cell? ⟨w.heap.size, 3, none⟩ = some (.slice A3 l3.length c3) ∧ w'.cell? ⟨w.heap.size, 4, none⟩ = some (.slice A4 l4.length c4)) (ds := []) #[false, false, false, false, false, false, false, false, false, false, false, false, false, false, false, false, false, false, false, false, false, false] (by kernel_rfl) rfl rfl ⟨f0, f2, f3, f4⟩ (fun hHeld => ?_)
    refine pure_ (i := 0) (N := some 57) (v := ?_) (a' := ?_) #[true, false, false, false, false, false, false, false, false, false, false, false, false, false, false, false, false, false, false, false, false, false] rfl rfl (by kernel_rfl) (fun _ _ _ h => h) (Or.inl ⟨by rfl, ?_⟩) ?_ ?_
    rotate_left
    · intro w'
      go_simp
      with_reducible rfl
    rotate_left
    · simp only [Act.put, List.setIfInBounds_toArray, List.set_cons_zero, List.set_cons_succ, i64_w, i32_w]
      rfl
    refine pure_ (i := 2) (N := some 59) (v := ?_) (a' := ?_) #[true, false, true, false, false, false, false, false, false, false, false, false, false, false, false, false, false, false, false, false, false, false] rfl rfl (by kernel_rfl) (fun _ _ _ h => h) (Or.inl ⟨by rfl, ?_⟩) ?_ ?_
    rotate_left
    · intro w'
      go_simp
      with_reducible rfl
    rotate_left
    · simp only [Act.put, List.setIfInBounds_toArray, List.set_cons_zero, List.set_cons_succ, i64_w, i32_w]
      rfl
    refine pure_ (i := 3) (N := some 60) (v := ?_) (a' := ?_) #[true, false, true, true, false, false, false, false, false, false, false, false, false, false, false, false, false, false, false, false, false, false] rfl rfl (by kernel_rfl) (fun _ _ _ h => h) (Or.inl ⟨by rfl, ?_⟩) ?_ ?_
    rotate_left
    · intro w'
      go_simp
      with_reducible rfl
    rotate_left
    · simp only [Act.put, List.setIfInBounds_toArray, List.set_cons_zero, List.set_cons_succ, i64_w, i32_w]
      rfl
    refine take_ (i := 1) (N := some 58) (v := ?_) (a' := ?_) #[true, true, true, true, false, false, false, false, false, false, false, false, false, false, false, false, false, false, false, false, false, false] rfl rfl (by kernel_rfl) (fun _ _ _ h => h) (Or.inl ⟨by rfl, ?_⟩) hHeld ?_ ?_
    rotate_left
    · rintro w' ⟨s0, s1, s2, s3⟩
      go_simp
      with_reducible rfl
    rotate_left
    · simp only [Act.put, List.setIfInBounds_toArray, List.set_cons_zero, List.set_cons_succ, i64_w, i32_w]
      rfl
    refine take_ (i := 4) (N := some 61) (v := ?_) (a' := ?_) #[true, true, true, true, true, false, false, false, false, false, false, false, false, false, false, false, false, false, false, false, false, false] rfl rfl (by kernel_rfl) (fun _ _ _ h => h) (Or.inl ⟨by rfl, ?_⟩) hHeld ?_ ?_
    rotate_left
    · rintro w' ⟨s0, s1, s2, s3⟩
      go_simp
      with_reducible rfl
    rotate_left
    · simp only [Act.put, List.setIfInBounds_toArray, List.set_cons_zero, List.set_cons_succ, i64_w, i32_w]
      rfl
    refine pure_ (i := 5) (N := some 62) (v := ?_) (a' := ?_) #[true, true, true, true, true, true, false, false, false, false, false, false, false, false, false, false, false, false, false, false, false, false] rfl rfl (by kernel_rfl) (fun _ _ _ h => h) (Or.inl ⟨by rfl, ?_⟩) ?_ ?_
    rotate_left
    · intro w'
      go_simp
      with_reducible rfl
    rotate_left
    · simp only [Act.put, List.setIfInBounds_toArray, List.set_cons_zero, List.set_cons_succ, i64_w, i32_w]
      rfl
    refine one_ (i := 6) (N := some 63) #[true, true, true, true, true, true, true, false, false, false, false, false, false, false, false, false, false, false, false, false, false, false] rfl rfl (by kernel_rfl) (by decide) (fun K hK => ?_)
    refine goesV_ Try.func34 (by kernel_rfl) rfl #[.int .i64 0, .int .i64 (a0 - 1)] (by rfl) rfl rfl (by rfl) (by simp only [List.map_toArray, List.map_cons, List.map_nil]; rfl) ?_
    with_reducible refine (clos34' 0 (a0 - 1) _).mono ?_
    rintro e w3 ⟨rfl, ha0, hc0, hb0⟩
    refine ⟨_, rfl, ?_⟩
    have BB1 := Lib.hid (below_then BB0.out BB0.out.size hb0)
    refine hK.out _ _ ⟨(hb0.cell (p := ⟨w.heap.size, 0, none⟩) (Nat.lt_of_lt_of_le hws BB0.out.size)).trans hHeld.1, (hb0.cell (p := ⟨w.heap.size, 2, none⟩) (Nat.lt_of_lt_of_le hws BB0.out.size)).trans hHeld.2.1, (hb0.cell (p := ⟨w.heap.size, 3, none⟩) (Nat.lt_of_lt_of_le hws BB0.out.size)).trans hHeld.2.2.1, (hb0.cell (p := ⟨w.heap.size, 4, none⟩) (Nat.lt_of_lt_of_le hws BB0.out.size)).trans hHeld.2.2.2⟩ (fun hHeld => ?_)
    clear hK K
    refine norm_ (a' := ?_) ?_ ?_
    rotate_left
    · show Act.put _ (some 63) _ = _
      simp only [Act.put, List.setIfInBounds_toArray, List.set_cons_zero, List.set_cons_succ, i64_w, i32_w]
      rfl
    refine one_ (i := 7) (N := some 64) #[true, true, true, true, true, true, true, true, false, false, false, false, false, false, false, false, false, false, false, false, false, false] rfl rfl (by kernel_rfl) (by decide) (fun K hK => ?_)
    refine goes_ Try.func36 (by kernel_rfl) rfl #[.slice A2 l2.length c2, .func (.func 35) #[] #[.pointer (some ⟨_, 0, none⟩), .pointer (some ⟨_, 0, none⟩)]] (by rfl) rfl rfl (by simp only [List.map_toArray, List.map_cons, List.map_nil]; rfl) ?_
    with_reducible refine (contains36 0 (a0 - 1) _ _ A2 c2 l2 _ ha0 hc0 (Kd.C_below HR2'.out BB1.out) (by omega)).mono ?_
    rintro e w9 ⟨rfl, rfl⟩
    refine ⟨_, rfl, ?_⟩
    rw [ok0]
    refine hK.out _ _ ⟨hHeld.1, hHeld.2.1, hHeld.2.2.1, hHeld.2.2.2⟩ (fun hHeld => ?_)
    clear hK K
    refine norm_ (a' := ?_) ?_ ?_
    rotate_left
    · show Act.put _ (some 64) _ = _
      simp only [Act.put, List.setIfInBounds_toArray, List.set_cons_zero, List.set_cons_succ, i64_w, i32_w]
      rfl
    refine pure_ (i := 8) (N := some 65) (v := ?_) (a' := ?_) #[true, true, true, true, true, true, true, true, true, false, false, false, false, false, false, false, false, false, false, false, false, false] rfl rfl (by kernel_rfl) (fun _ _ _ h => h) (Or.inl ⟨by rfl, ?_⟩) ?_ ?_
    rotate_left
    · intro w'
      go_simp
      with_reducible rfl
    rotate_left
    · simp only [Act.put, List.setIfInBounds_toArray, List.set_cons_zero, List.set_cons_succ, i64_w, i32_w]
      rfl
    refine pure_ (i := 9) (N := some 66) (v := undef) (a' := ?_) #[true, true, true, true, true, true, true, true, true, true, false, false, false, false, false, false, false, false, false, false, false, false] rfl rfl (by kernel_rfl) (fun _ _ _ h => h) (Or.inr ⟨by rfl, rfl⟩) ?_ ?_
    rotate_left
    · simp only [Act.put, List.setIfInBounds_toArray, List.set_cons_zero, List.set_cons_succ, i64_w, i32_w]
      rfl
    refine pure_ (i := 10) (N := some 67) (v := undef) (a' := ?_) #[true, true, true, true, true, true, true, true, true, true, true, false, false, false, false, false, false, false, false, false, false, false] rfl rfl (by kernel_rfl) (fun _ _ _ h => h) (Or.inr ⟨by rfl, rfl⟩) ?_ ?_
    rotate_left
    · simp only [Act.put, List.setIfInBounds_toArray, List.set_cons_zero, List.set_cons_succ, i64_w, i32_w]
      rfl
    refine pure_ (i := 11) (N := some 68) (v := undef) (a' := ?_) #[true, true, true, true, true, true, true, true, true, true, true, true, false, false, false, false, false, false, false, false, false, false] rfl rfl (by kernel_rfl) (fun _ _ _ h => h) (Or.inr ⟨by rfl, rfl⟩) ?_ ?_
    rotate_left
    · simp only [Act.put, List.setIfInBounds_toArray, List.set_cons_zero, List.set_cons_succ, i64_w, i32_w]
      rfl
    refine pure_ (i := 12) (N := some 69) (v := undef) (a' := ?_) #[true, true, true, true, true, true, true, true, true, true, true, true, true, false, false, false, false, false, false, false, false, false] rfl rfl (by kernel_rfl) (fun _ _ _ h => h) (Or.inr ⟨by rfl, rfl⟩) ?_ ?_
    rotate_left
    · simp only [Act.put, List.setIfInBounds_toArray, List.set_cons_zero, List.set_cons_succ, i64_w, i32_w]
      rfl
    refine pure_ (i := 13) (N := some 70) (v := undef) (a' := ?_) #[true, true, true, true, true, true, true, true, true, true, true, true, true, true, false, false, false, false, false, false, false, false] rfl rfl (by kernel_rfl) (fun _ _ _ h => h) (Or.inr ⟨by rfl, rfl⟩) ?_ ?_
    rotate_left
    · simp only [Act.put, List.setIfInBounds_toArray, List.set_cons_zero, List.set_cons_succ, i64_w, i32_w]
      rfl
    refine pure_ (i := 14) (N := some 71) (v := ?_) (a' := ?_) #[true, true, true, true, true, true, true, true, true, true, true, true, true, true, true, false, false, false, false, false, false, false] rfl rfl (by kernel_rfl) (fun _ _ _ h => h) (Or.inl ⟨by rfl, ?_⟩) ?_ ?_
    rotate_left
    · intro w'
      go_simp
      with_reducible rfl
    rotate_left
    · simp only [Act.put, List.setIfInBounds_toArray, List.set_cons_zero, List.set_cons_succ, i64_w, i32_w]
      rfl
    refine pure_ (i := 15) (N := some 72) (v := ?_) (a' := ?_) #[true, true, true, true, true, true, true, true, true, true, true, true, true, true, true, true, false, false, false, false, false, false] rfl rfl (by kernel_rfl) (fun _ _ _ h => h) (Or.inl ⟨by rfl, ?_⟩) ?_ ?_
    rotate_left
    · intro w'
      go_simp
      with_reducible rfl
    rotate_left
    · simp only [Act.put, List.setIfInBounds_toArray, List.set_cons_zero, List.set_cons_succ, i64_w, i32_w]
      rfl
    refine pure_ (i := 16) (N := some 73) (v := undef) (a' := ?_) #[true, true, true, true, true, true, true, true, true, true, true, true, true, true, true, true, true, false, false, false, false, false] rfl rfl (by kernel_rfl) (fun _ _ _ h => h) (Or.inr ⟨by rfl, rfl⟩) ?_ ?_
    rotate_left
    · simp only [Act.put, List.setIfInBounds_toArray, List.set_cons_zero, List.set_cons_succ, i64_w, i32_w]
      rfl
    refine pure_ (i := 17) (N := some 74) (v := undef) (a' := ?_) #[true, true, true, true, true, true, true, true, true, true, true, true, true, true, true, true, true, true, false, false, false, false] rfl rfl (by kernel_rfl) (fun _ _ _ h => h) (Or.inr ⟨by rfl, rfl⟩) ?_ ?_
    rotate_left
    · simp only [Act.put, List.setIfInBounds_toArray, List.set_cons_zero, List.set_cons_succ, i64_w, i32_w]
      rfl
    refine pure_ (i := 18) (N := some 75) (v := undef) (a' := ?_) #[true, true, true, true, true, true, true, true, true, true, true, true, true, true, true, true, true, true, true, false, false, false] rfl rfl (by kernel_rfl) (fun _ _ _ h => h) (Or.inr ⟨by rfl, rfl⟩) ?_ ?_
    rotate_left
    · simp only [Act.put, List.setIfInBounds_toArray, List.set_cons_zero, List.set_cons_succ, i64_w, i32_w]
      rfl
    refine pure_ (i := 19) (N := some 76) (v := undef) (a' := ?_) #[true, true, true, true, true, true, true, true, true, true, true, true, true, true, true, true, true, true, true, true, false, false] rfl rfl (by kernel_rfl) (fun _ _ _ h => h) (Or.inr ⟨by rfl, rfl⟩) ?_ ?_
    rotate_left
    · simp only [Act.put, List.setIfInBounds_toArray, List.set_cons_zero, List.set_cons_succ, i64_w, i32_w]
      rfl
    refine pure_ (i := 20) (N := some 77) (v := undef) (a' := ?_) #[true, true, true, true, true, true, true, true, true, true, true, true, true, true, true, true, true, true, true, true, true, false] rfl rfl (by kernel_rfl) (fun _ _ _ h => h) (Or.inr ⟨by rfl, rfl⟩) ?_ ?_
    rotate_left
    · simp only [Act.put, List.setIfInBounds_toArray, List.set_cons_zero, List.set_cons_succ, i64_w, i32_w]
      rfl
    refine pure_ (i := 21) (N := some 78) (v := ?_) (a' := ?_) #[true, true, true, true, true, true, true, true, true, true, true, true, true, true, true, true, true, true, true, true, true, true] rfl rfl (by kernel_rfl) (fun _ _ _ h => h) (Or.inl ⟨by rfl, ?_⟩) ?_ ?_
    rotate_left
    · intro w'
      go_simp
      with_reducible rfl
    rotate_left
    · simp only [Act.put, List.setIfInBounds_toArray, List.set_cons_zero, List.set_cons_succ, i64_w, i32_w]
      rfl
    refine done_ (by kernel_rfl) ?_
    go_wp2_with fail
    go_ret
    exact ⟨by rw [HSB.out, HOK0.out]; rfl, below_step HBW.out BB1.out⟩
  · have HOK0 := Lib.hid ok0
    rcases ok1 : okL 0 9 l3 with _ | _
    · have HOK1 := Lib.hid ok1
      refine start_ (n := 22) (S := fun w' => w'.cell? ⟨w.heap.size, 0, none⟩ = some (.int .i64 a0) ∧ w'.cell? ⟨w.heap.size, 2, none⟩ = some (.slice A2 l2.length c2) ∧ w'.cell? ⟨w.heap.size, 3, none⟩ = some (.slice A3 l3.length c3) ∧ w'.cell? ⟨w.heap.size, 4, none⟩ = some (.slice A4 l4.length c4)) (ds := []) #[false, false, false, false, false, false, false, false, false, false, false, false, false, false, false, false, false, false, false, false, false, false] (by kernel_rfl) rfl rfl ⟨f0, f2, f3, f4⟩ (fun hHeld => ?_)
      refine pure_ (i := 0) (N := some 57) (v := ?_) (a' := ?_) #[true, false, false, false, false, false, false, false, false, false, false, false, false, false, false, false, false, false, false, false, false, false] rfl rfl (by kernel_rfl) (fun _ _ _ h => h) (Or.inl ⟨by rfl, ?_⟩) ?_ ?_
      rotate_left
      · intro w'
        go_simp
        with_reducible rfl
      rotate_left
      · simp only [Act.put, List.setIfInBounds_toArray, List.set_cons_zero, List.set_cons_succ, i64_w, i32_w]
        rfl
      refine pure_ (i := 2) (N := some 59) (v := ?_) (a' := ?_) #[true, false, true, false, false, false, false, false, false, false, false, false, false, false, false, false, false, false, false, false, false, false] rfl rfl (by kernel_rfl) (fun _ _ _ h => h) (Or.inl ⟨by rfl, ?_⟩) ?_ ?_
      rotate_left
      · intro w'
        go_simp
        with_reducible rfl
      rotate_left
      · simp only [Act.put, List.setIfInBounds_toArray, List.set_cons_zero, List.set_cons_succ, i64_w, i32_w]
        rfl
      refine pure_ (i := 3) (N := some 60) (v := ?_) (a' := ?_) #[true, false, true, true, false, false, false, false, false, false, false, false, false, false, false, false, false, false, false, false, false, false] rfl rfl (by kernel_rfl) (fun _ _ _ h => h) (Or.inl ⟨by rfl, ?_⟩) ?_ ?_
      rotate_left
      · intro w'
        go_simp
        with_reducible rfl
      rotate_left
      · simp only [Act.put, List.setIfInBounds_toArray, List.set_cons_zero, List.set_cons_succ, i64_w, i32_w]
        rfl
      refine take_ (i := 1) (N := some 58) (v := ?_) (a' := ?_) #[true, true, true, true, false, false, false, false, false, false, false, false, false, false, false, false, false, false, false, false, false, false] rfl rfl (by kernel_rfl) (fun _ _ _ h => h) (Or.inl ⟨by rfl, ?_⟩) hHeld ?_ ?_
      rotate_left
      · rintro w' ⟨s0, s1, s2, s3⟩
        go_simp
        with_reducible rfl
      rotate_left
      · simp only [Act.put, List.setIfInBounds_toArray, List.set_cons_zero, List.set_cons_succ, i64_w, i32_w]
        rfl
      refine take_ (i := 4) (N := some 61) (v := ?_) (a' := ?_) #[true, true, true, true, true, false, false, false, false, false, false, false, false, false, false, false, false, false, false, false, false, false] rfl rfl (by kernel_rfl) (fun _ _ _ h => h) (Or.inl ⟨by rfl, ?_⟩) hHeld ?_ ?_
      rotate_left
      · rintro w' ⟨s0, s1, s2, s3⟩
        go_simp
        with_reducible rfl
      rotate_left
      · simp only [Act.put, List.setIfInBounds_toArray, List.set_cons_zero, List.set_cons_succ, i64_w, i32_w]
        rfl
      refine pure_ (i := 5) (N := some 62) (v := ?_) (a' := ?_) #[true, true, true, true, true, true, false, false, false, false, false, false, false, false, false, false, false, false, false, false, false, false] rfl rfl (by kernel_rfl) (fun _ _ _ h => h) (Or.inl ⟨by rfl, ?_⟩) ?_ ?_
      rotate_left
      · intro w'
        go_simp
        with_reducible rfl
      rotate_left
      · simp only [Act.put, List.setIfInBounds_toArray, List.set_cons_zero, List.set_cons_succ, i64_w, i32_w]
        rfl
      refine one_ (i := 6) (N := some 63) #[true, true, true, true, true, true, true, false, false, false, false, false, false, false, false, false, false, false, false, false, false, false] rfl rfl (by kernel_rfl) (by decide) (fun K hK => ?_)
      refine goesV_ Try.func34 (by kernel_rfl) rfl #[.int .i64 0, .int .i64 (a0 - 1)] (by rfl) rfl rfl (by rfl) (by simp only [List.map_toArray, List.map_cons, List.map_nil]; rfl) ?_
      with_reducible refine (clos34' 0 (a0 - 1) _).mono ?_
      rintro e w3 ⟨rfl, ha0, hc0, hb0⟩
      refine ⟨_, rfl, ?_⟩
      have BB1 := Lib.hid (below_then BB0.out BB0.out.size hb0)
      refine hK.out _ _ ⟨(hb0.cell (p := ⟨w.heap.size, 0, none⟩) (Nat.lt_of_lt_of_le hws BB0.out.size)).trans hHeld.1, (hb0.cell (p := ⟨w.heap.size, 2, none⟩) (Nat.lt_of_lt_of_le hws BB0.out.size)).trans hHeld.2.1, (hb0.cell (p := ⟨w.heap.size, 3, none⟩) (Nat.lt_of_lt_of_le hws BB0.out.size)).trans hHeld.2.2.1, (hb0.cell (p := ⟨w.heap.size, 4, none⟩) (Nat.lt_of_lt_of_le hws BB0.out.size)).trans hHeld.2.2.2⟩ (fun hHeld => ?_)
      clear hK K
      refine norm_ (a' := ?_) ?_ ?_
      rotate_left
      · show Act.put _ (some 63) _ = _
        simp only [Act.put, List.setIfInBounds_toArray, List.set_cons_zero, List.set_cons_succ, i64_w, i32_w]
        rfl
      refine one_ (i := 7) (N := some 64) #[true, true, true, true, true, true, true, true, false, false, false, false, false, false, false, false, false, false, false, false, false, false] rfl rfl (by kernel_rfl) (by decide) (fun K hK => ?_)
      refine goes_ Try.func36 (by kernel_rfl) rfl #[.slice A2 l2.length c2, .func (.func 35) #[] #[.pointer (some ⟨_, 0, none⟩), .pointer (some ⟨_, 0, none⟩)]] (by rfl) rfl rfl (by simp only [List.map_toArray, List.map_cons, List.map_nil]; rfl) ?_
      with_reducible refine (contains36 0 (a0 - 1) _ _ A2 c2 l2 _ ha0 hc0 (Kd.C_below HR2'.out BB1.out) (by omega)).mono ?_
      rintro e w9 ⟨rfl, rfl⟩
      refine ⟨_, rfl, ?_⟩
      rw [ok0]
      refine hK.out _ _ ⟨hHeld.1, hHeld.2.1, hHeld.2.2.1, hHeld.2.2.2⟩ (fun hHeld => ?_)
      clear hK K
      refine norm_ (a' := ?_) ?_ ?_
      rotate_left
      · show Act.put _ (some 64) _ = _
        simp only [Act.put, List.setIfInBounds_toArray, List.set_cons_zero, List.set_cons_succ, i64_w, i32_w]
        rfl
      refine pure_ (i := 8) (N := some 65) (v := ?_) (a' := ?_) #[true, true, true, true, true, true, true, true, true, false, false, false, false, false, false, false, false, false, false, false, false, false] rfl rfl (by kernel_rfl) (fun _ _ _ h => h) (Or.inl ⟨by rfl, ?_⟩) ?_ ?_
      rotate_left
      · intro w'
        go_simp
        with_reducible rfl
      rotate_left
      · simp only [Act.put, List.setIfInBounds_toArray, List.set_cons_zero, List.set_cons_succ, i64_w, i32_w]
        rfl
      refine pure_ (i := 9) (N := some 66) (v := ?_) (a' := ?_) #[true, true, true, true, true, true, true, true, true, true, false, false, false, false, false, false, false, false, false, false, false, false] rfl rfl (by kernel_rfl) (fun _ _ _ h => h) (Or.inl ⟨by rfl, ?_⟩) ?_ ?_
      rotate_left
      · intro w'
        go_simp
        with_reducible rfl
      rotate_left
      · simp only [Act.put, List.setIfInBounds_toArray, List.set_cons_zero, List.set_cons_succ, i64_w, i32_w]
        rfl
      refine pure_ (i := 11) (N := some 68) (v := ?_) (a' := ?_) #[true, true, true, true, true, true, true, true, true, true, false, true, false, false, false, false, false, false, false, false, false, false] rfl rfl (by kernel_rfl) (fun _ _ _ h => h) (Or.inl ⟨by rfl, ?_⟩) ?_ ?_
      rotate_left
      · intro w'
        go_simp
        with_reducible rfl
      rotate_left
      · simp only [Act.put, List.setIfInBounds_toArray, List.set_cons_zero, List.set_cons_succ, i64_w, i32_w]
        rfl
      refine take_ (i := 10) (N := some 67) (v := ?_) (a' := ?_) #[true, true, true, true, true, true, true, true, true, true, true, true, false, false, false, false, false, false, false, false, false, false] rfl rfl (by kernel_rfl) (fun _ _ _ h => h) (Or.inl ⟨by rfl, ?_⟩) hHeld ?_ ?_
      rotate_left
      · rintro w' ⟨s0, s1, s2, s3⟩
        go_simp
        with_reducible rfl
      rotate_left
      · simp only [Act.put, List.setIfInBounds_toArray, List.set_cons_zero, List.set_cons_succ, i64_w, i32_w]
        rfl
      refine one_ (i := 12) (N := some 69) #[true, true, true, true, true, true, true, true, true, true, true, true, true, false, false, false, false, false, false, false, false, false] rfl rfl (by kernel_rfl) (by decide) (fun K hK => ?_)
      refine goesV_ Try.func34 (by kernel_rfl) rfl #[.int .i64 0, .int .i64 9] (by rfl) rfl rfl (by rfl) (by simp only [List.map_toArray, List.map_cons, List.map_nil]; rfl) ?_
      with_reducible refine (clos34' 0 9 _).mono ?_
      rintro e w4 ⟨rfl, ha1, hc1, hb1⟩
      refine ⟨_, rfl, ?_⟩
      have BB2 := Lib.hid (below_then BB1.out BB1.out.size hb1)
      refine hK.out _ _ ⟨(hb1.cell (p := ⟨w.heap.size, 0, none⟩) (Nat.lt_of_lt_of_le hws BB1.out.size)).trans hHeld.1, (hb1.cell (p := ⟨w.heap.size, 2, none⟩) (Nat.lt_of_lt_of_le hws BB1.out.size)).trans hHeld.2.1, (hb1.cell (p := ⟨w.heap.size, 3, none⟩) (Nat.lt_of_lt_of_le hws BB1.out.size)).trans hHeld.2.2.1, (hb1.cell (p := ⟨w.heap.size, 4, none⟩) (Nat.lt_of_lt_of_le hws BB1.out.size)).trans hHeld.2.2.2⟩ (fun hHeld => ?_)
      clear hK K
      refine norm_ (a' := ?_) ?_ ?_
      rotate_left
      · show Act.put _ (some 69) _ = _
        simp only [Act.put, List.setIfInBounds_toArray, List.set_cons_zero, List.set_cons_succ, i64_w, i32_w]
        rfl
      refine one_ (i := 13) (N := some 70) #[true, true, true, true, true, true, true, true, true, true, true, true, true, true, false, false, false, false, false, false, false, false] rfl rfl (by kernel_rfl) (by decide) (fun K hK => ?_)
      refine goes_ Try.func36 (by kernel_rfl) rfl #[.slice A3 l3.length c3, .func (.func 35) #[] #[.pointer (some ⟨_, 0, none⟩), .pointer (some ⟨_, 0, none⟩)]] (by rfl) rfl rfl (by simp only [List.map_toArray, List.map_cons, List.map_nil]; rfl) ?_
      with_reducible refine (contains36 0 9 _ _ A3 c3 l3 _ ha1 hc1 (Kd.C_below HR3'.out BB2.out) (by omega)).mono ?_
      rintro e w9 ⟨rfl, rfl⟩
      refine ⟨_, rfl, ?_⟩
      rw [ok1]
      refine hK.out _ _ ⟨hHeld.1, hHeld.2.1, hHeld.2.2.1, hHeld.2.2.2⟩ (fun hHeld => ?_)
      clear hK K
      refine norm_ (a' := ?_) ?_ ?_
      rotate_left
      · show Act.put _ (some 70) _ = _
        simp only [Act.put, List.setIfInBounds_toArray, List.set_cons_zero, List.set_cons_succ, i64_w, i32_w]
        rfl
      refine pure_ (i := 14) (N := some 71) (v := ?_) (a' := ?_) #[true, true, true, true, true, true, true, true, true, true, true, true, true, true, true, false, false, false, false, false, false, false] rfl rfl (by kernel_rfl) (fun _ _ _ h => h) (Or.inl ⟨by rfl, ?_⟩) ?_ ?_
      rotate_left
      · intro w'
        go_simp
        with_reducible rfl
      rotate_left
      · simp only [Act.put, List.setIfInBounds_toArray, List.set_cons_zero, List.set_cons_succ, i64_w, i32_w]
        rfl
      refine pure_ (i := 15) (N := some 72) (v := ?_) (a' := ?_) #[true, true, true, true, true, true, true, true, true, true, true, true, true, true, true, true, false, false, false, false, false, false] rfl rfl (by kernel_rfl) (fun _ _ _ h => h) (Or.inl ⟨by rfl, ?_⟩) ?_ ?_
      rotate_left
      · intro w'
        go_simp
        with_reducible rfl
      rotate_left
      · simp only [Act.put, List.setIfInBounds_toArray, List.set_cons_zero, List.set_cons_succ, i64_w, i32_w]
        rfl
      refine pure_ (i := 16) (N := some 73) (v := undef) (a' := ?_) #[true, true, true, true, true, true, true, true, true, true, true, true, true, true, true, true, true, false, false, false, false, false] rfl rfl (by kernel_rfl) (fun _ _ _ h => h) (Or.inr ⟨by rfl, rfl⟩) ?_ ?_
      rotate_left
      · simp only [Act.put, List.setIfInBounds_toArray, List.set_cons_zero, List.set_cons_succ, i64_w, i32_w]
        rfl
      refine pure_ (i := 17) (N := some 74) (v := undef) (a' := ?_) #[true, true, true, true, true, true, true, true, true, true, true, true, true, true, true, true, true, true, false, false, false, false] rfl rfl (by kernel_rfl) (fun _ _ _ h => h) (Or.inr ⟨by rfl, rfl⟩) ?_ ?_
      rotate_left
      · simp only [Act.put, List.setIfInBounds_toArray, List.set_cons_zero, List.set_cons_succ, i64_w, i32_w]
        rfl
      refine pure_ (i := 18) (N := some 75) (v := undef) (a' := ?_) #[true, true, true, true, true, true, true, true, true, true, true, true, true, true, true, true, true, true, true, false, false, false] rfl rfl (by kernel_rfl) (fun _ _ _ h => h) (Or.inr ⟨by rfl, rfl⟩) ?_ ?_
      rotate_left
      · simp only [Act.put, List.setIfInBounds_toArray, List.set_cons_zero, List.set_cons_succ, i64_w, i32_w]
        rfl
      refine pure_ (i := 19) (N := some 76) (v := undef) (a' := ?_) #[true, true, true, true, true, true, true, true, true, true, true, true, true, true, true, true, true, true, true, true, false, false] rfl rfl (by kernel_rfl) (fun _ _ _ h => h) (Or.inr ⟨by rfl, rfl⟩) ?_ ?_
      rotate_left
      · simp only [Act.put, List.setIfInBounds_toArray, List.set_cons_zero, List.set_cons_succ, i64_w, i32_w]
        rfl
      refine pure_ (i := 20) (N := some 77) (v := undef) (a' := ?_) #[true, true, true, true, true, true, true, true, true, true, true, true, true, true, true, true, true, true, true, true, true, false] rfl rfl (by kernel_rfl) (fun _ _ _ h => h) (Or.inr ⟨by rfl, rfl⟩) ?_ ?_
      rotate_left
      · simp only [Act.put, List.setIfInBounds_toArray, List.set_cons_zero, List.set_cons_succ, i64_w, i32_w]
        rfl
      refine pure_ (i := 21) (N := some 78) (v := ?_) (a' := ?_) #[true, true, true, true, true, true, true, true, true, true, true, true, true, true, true, true, true, true, true, true, true, true] rfl rfl (by kernel_rfl) (fun _ _ _ h => h) (Or.inl ⟨by rfl, ?_⟩) ?_ ?_
      rotate_left
      · intro w'
        go_simp
        with_reducible rfl
      rotate_left
      · simp only [Act.put, List.setIfInBounds_toArray, List.set_cons_zero, List.set_cons_succ, i64_w, i32_w]
        rfl
      refine done_ (by kernel_rfl) ?_
      go_wp2_with fail
      go_ret
      exact ⟨by rw [HSB.out, HOK0.out, HOK1.out]; rfl, below_step HBW.out BB2.out⟩
    · have HOK1 := Lib.hid ok1
      rcases ok2 : okL 1 9 l4 with _ | _
      · have HOK2 := Lib.hid ok2
        refine start_ (n := 22) (S := fun w' => w'.cell? ⟨w.heap.size, 0, none⟩ = some (.int .i64 a0) ∧ w'.cell? ⟨w.heap.size, 2, none⟩ = some (.slice A2 l2.length c2) ∧ w'.cell? ⟨w.heap.size, 3, none⟩ = some (.slice A3 l3.length c3) ∧ w'.cell? ⟨w.heap.size, 4, none⟩ = some (.slice A4 l4.length c4)) (ds := []) #[false, false, false, false, false, false, false, false, false, false, false, false, false, false, false, false, false, false, false, false, false, false] (by kernel_rfl) rfl rfl ⟨f0, f2, f3, f4⟩ (fun hHeld => ?_)
        refine pure_ (i := 0) (N := some 57) (v := ?_) (a' := ?_) #[true, false, false, false, false, false, false, false, false, false, false, false, false, false, false, false, false, false, false, false, false, false] rfl rfl (by kernel_rfl) (fun _ _ _ h => h) (Or.inl ⟨by rfl, ?_⟩) ?_ ?_
        rotate_left
        · intro w'
          go_simp
          with_reducible rfl
        rotate_left
        · simp only [Act.put, List.setIfInBounds_toArray, List.set_cons_zero, List.set_cons_succ, i64_w, i32_w]
          rfl
        refine pure_ (i := 2) (N := some 59) (v := ?_) (a' := ?_) #[true, false, true, false, false, false, false, false, false, false, false, false, false, false, false, false, false, false, false, false, false, false] rfl rfl (by kernel_rfl) (fun _ _ _ h => h) (Or.inl ⟨by rfl, ?_⟩) ?_ ?_
        rotate_left
        · intro w'
          go_simp
          with_reducible rfl
        rotate_left
        · simp only [Act.put, List.setIfInBounds_toArray, List.set_cons_zero, List.set_cons_succ, i64_w, i32_w]
          rfl
        refine pure_ (i := 3) (N := some 60) (v := ?_) (a' := ?_) #[true, false, true, true, false, false, false, false, false, false, false, false, false, false, false, false, false, false, false, false, false, false] rfl rfl (by kernel_rfl) (fun _ _ _ h => h) (Or.inl ⟨by rfl, ?_⟩) ?_ ?_
        rotate_left
        · intro w'
          go_simp
          with_reducible rfl
        rotate_left
        · simp only [Act.put, List.setIfInBounds_toArray, List.set_cons_zero, List.set_cons_succ, i64_w, i32_w]
          rfl
        refine take_ (i := 1) (N := some 58) (v := ?_) (a' := ?_) #[true, true, true, true, false, false, false, false, false, false, false, false, false, false, false, false, false, false, false, false, false, false] rfl rfl (by kernel_rfl) (fun _ _ _ h => h) (Or.inl ⟨by rfl, ?_⟩) hHeld ?_ ?_
        rotate_left
        · rintro w' ⟨s0, s1, s2, s3⟩
          go_simp
          with_reducible rfl
        rotate_left
        · simp only [Act.put, List.setIfInBounds_toArray, List.set_cons_zero, List.set_cons_succ, i64_w, i32_w]
          rfl
        refine take_ (i := 4) (N := some 61) (v := ?_) (a' := ?_) #[true, true, true, true, true, false, false, false, false, false, false, false, false, false, false, false, false, false, false, false, false, false] rfl rfl (by kernel_rfl) (fun _ _ _ h => h) (Or.inl ⟨by rfl, ?_⟩) hHeld ?_ ?_
        rotate_left
        · rintro w' ⟨s0, s1, s2, s3⟩
          go_simp
          with_reducible rfl
        rotate_left
        · simp only [Act.put, List.setIfInBounds_toArray, List.set_cons_zero, List.set_cons_succ, i64_w, i32_w]
          rfl
        refine pure_ (i := 5) (N := some 62) (v := ?_) (a' := ?_) #[true, true, true, true, true, true, false, false, false, false, false, false, false, false, false, false, false, false, false, false, false, false] rfl rfl (by kernel_rfl) (fun _ _ _ h => h) (Or.inl ⟨by rfl, ?_⟩) ?_ ?_
        rotate_left
        · intro w'
          go_simp
          with_reducible rfl
        rotate_left
        · simp only [Act.put, List.setIfInBounds_toArray, List.set_cons_zero, List.set_cons_succ, i64_w, i32_w]
          rfl
        refine one_ (i := 6) (N := some 63) #[true, true, true, true, true, true, true, false, false, false, false, false, false, false, false, false, false, false, false, false, false, false] rfl rfl (by kernel_rfl) (by decide) (fun K hK => ?_)
        refine goesV_ Try.func34 (by kernel_rfl) rfl #[.int .i64 0, .int .i64 (a0 - 1)] (by rfl) rfl rfl (by rfl) (by simp only [List.map_toArray, List.map_cons, List.map_nil]; rfl) ?_
        with_reducible refine (clos34' 0 (a0 - 1) _).mono ?_
        rintro e w3 ⟨rfl, ha0, hc0, hb0⟩
        refine ⟨_, rfl, ?_⟩
        have BB1 := Lib.hid (below_then BB0.out BB0.out.size hb0)
        refine hK.out _ _ ⟨(hb0.cell (p := ⟨w.heap.size, 0, none⟩) (Nat.lt_of_lt_of_le hws BB0.out.size)).trans hHeld.1, (hb0.cell (p := ⟨w.heap.size, 2, none⟩) (Nat.lt_of_lt_of_le hws BB0.out.size)).trans hHeld.2.1, (hb0.cell (p := ⟨w.heap.size, 3, none⟩) (Nat.lt_of_lt_of_le hws BB0.out.size)).trans hHeld.2.2.1, (hb0.cell (p := ⟨w.heap.size, 4, none⟩) (Nat.lt_of_lt_of_le hws BB0.out.size)).trans hHeld.2.2.2⟩ (fun hHeld => ?_)
        clear hK K
        refine norm_ (a' := ?_) ?_ ?_
        rotate_left
        · show Act.put _ (some 63) _ = _
          simp only [Act.put, List.setIfInBounds_toArray, List.set_cons_zero, List.set_cons_succ, i64_w, i32_w]
          rfl
        refine one_ (i := 7) (N := some 64) #[true, true, true, true, true, true, true, true, false, false, false, false, false, false, false, false, false, false, false, false, false, false] rfl rfl (by kernel_rfl) (by decide) (fun K hK => ?_)
        refine goes_ Try.func36 (by kernel_rfl) rfl #[.slice A2 l2.length c2, .func (.func 35) #[] #[.pointer (some ⟨_, 0, none⟩), .pointer (some ⟨_, 0, none⟩)]] (by rfl) rfl rfl (by simp only [List.map_toArray, List.map_cons, List.map_nil]; rfl) ?_
        with_reducible refine (contains36 0 (a0 - 1) _ _ A2 c2 l2 _ ha0 hc0 (Kd.C_below HR2'.out BB1.out) (by omega)).mono ?_
        rintro e w9 ⟨rfl, rfl⟩
        refine ⟨_, rfl, ?_⟩
        rw [ok0]
        refine hK.out _ _ ⟨hHeld.1, hHeld.2.1, hHeld.2.2.1, hHeld.2.2.2⟩ (fun hHeld => ?_)
        clear hK K
        refine norm_ (a' := ?_) ?_ ?_
        rotate_left
        · show Act.put _ (some 64) _ = _
          simp only [Act.put, List.setIfInBounds_toArray, List.set_cons_zero, List.set_cons_succ, i64_w, i32_w]
          rfl
        refine pure_ (i := 8) (N := some 65) (v := ?_) (a' := ?_) #[true, true, true, true, true, true, true, true, true, false, false, false, false, false, false, false, false, false, false, false, false, false] rfl rfl (by kernel_rfl) (fun _ _ _ h => h) (Or.inl ⟨by rfl, ?_⟩) ?_ ?_
        rotate_left
        · intro w'
          go_simp
          with_reducible rfl
        rotate_left
        · simp only [Act.put, List.setIfInBounds_toArray, List.set_cons_zero, List.set_cons_succ, i64_w, i32_w]
          rfl
        refine pure_ (i := 9) (N := some 66) (v := ?_) (a' := ?_) #[true, true, true, true, true, true, true, true, true, true, false, false, false, false, false, false, false, false, false, false, false, false] rfl rfl (by kernel_rfl) (fun _ _ _ h => h) (Or.inl ⟨by rfl, ?_⟩) ?_ ?_
        rotate_left
        · intro w'
          go_simp
          with_reducible rfl
        rotate_left
        · simp only [Act.put, List.setIfInBounds_toArray, List.set_cons_zero, List.set_cons_succ, i64_w, i32_w]
          rfl
        refine pure_ (i := 11) (N := some 68) (v := ?_) (a' := ?_) #[true, true, true, true, true, true, true, true, true, true, false, true, false, false, false, false, false, false, false, false, false, false] rfl rfl (by kernel_rfl) (fun _ _ _ h => h) (Or.inl ⟨by rfl, ?_⟩) ?_ ?_
        rotate_left
        · intro w'
          go_simp
          with_reducible rfl
        rotate_left
        · simp only [Act.put, List.setIfInBounds_toArray, List.set_cons_zero, List.set_cons_succ, i64_w, i32_w]
          rfl
        refine take_ (i := 10) (N := some 67) (v := ?_) (a' := ?_) #[true, true, true, true, true, true, true, true, true, true, true, true, false, false, false, false, false, false, false, false, false, false] rfl rfl (by kernel_rfl) (fun _ _ _ h => h) (Or.inl ⟨by rfl, ?_⟩) hHeld ?_ ?_
        rotate_left
        · rintro w' ⟨s0, s1, s2, s3⟩
          go_simp
          with_reducible rfl
        rotate_left
        · simp only [Act.put, List.setIfInBounds_toArray, List.set_cons_zero, List.set_cons_succ, i64_w, i32_w]
          rfl
        refine one_ (i := 12) (N := some 69) #[true, true, true, true, true, true, true, true, true, true, true, true, true, false, false, false, false, false, false, false, false, false] rfl rfl (by kernel_rfl) (by decide) (fun K hK => ?_)
        refine goesV_ Try.func34 (by kernel_rfl) rfl #[.int .i64 0, .int .i64 9] (by rfl) rfl rfl (by rfl) (by simp only [List.map_toArray, List.map_cons, List.map_nil]; rfl) ?_
        with_reducible refine (clos34' 0 9 _).mono ?_
        rintro e w4 ⟨rfl, ha1, hc1, hb1⟩
        refine ⟨_, rfl, ?_⟩
        have BB2 := Lib.hid (below_then BB1.out BB1.out.size hb1)
        refine hK.out _ _ ⟨(hb1.cell (p := ⟨w.heap.size, 0, none⟩) (Nat.lt_of_lt_of_le hws BB1.out.size)).trans hHeld.1, (hb1.cell (p := ⟨w.heap.size, 2, none⟩) (Nat.lt_of_lt_of_le hws BB1.out.size)).trans hHeld.2.1, (hb1.cell (p := ⟨w.heap.size, 3, none⟩) (Nat.lt_of_lt_of_le hws BB1.out.size)).trans hHeld.2.2.1, (hb1.cell (p := ⟨w.heap.size, 4, none⟩) (Nat.lt_of_lt_of_le hws BB1.out.size)).trans hHeld.2.2.2⟩ (fun hHeld => ?_)
        clear hK K
        refine norm_ (a' := ?_) ?_ ?_
        rotate_left
        · show Act.put _ (some 69) _ = _
          simp only [Act.put, List.setIfInBounds_toArray, List.set_cons_zero, List.set_cons_succ, i64_w, i32_w]
          rfl
        refine one_ (i := 13) (N := some 70) #[true, true, true, true, true, true, true, true, true, true, true, true, true, true, false, false, false, false, false, false, false, false] rfl rfl (by kernel_rfl) (by decide) (fun K hK => ?_)
        refine goes_ Try.func36 (by kernel_rfl) rfl #[.slice A3 l3.length c3, .func (.func 35) #[] #[.pointer (some ⟨_, 0, none⟩), .pointer (some ⟨_, 0, none⟩)]] (by rfl) rfl rfl (by simp only [List.map_toArray, List.map_cons, List.map_nil]; rfl) ?_
        with_reducible refine (contains36 0 9 _ _ A3 c3 l3 _ ha1 hc1 (Kd.C_below HR3'.out BB2.out) (by omega)).mono ?_
        rintro e w9 ⟨rfl, rfl⟩
        refine ⟨_, rfl, ?_⟩
        rw [ok1]
        refine hK.out _ _ ⟨hHeld.1, hHeld.2.1, hHeld.2.2.1, hHeld.2.2.2⟩ (fun hHeld => ?_)
        clear hK K
        refine norm_ (a' := ?_) ?_ ?_
        rotate_left
        · show Act.put _ (some 70) _ = _
          simp only [Act.put, List.setIfInBounds_toArray, List.set_cons_zero, List.set_cons_succ, i64_w, i32_w]
          rfl
        refine pure_ (i := 14) (N := some 71) (v := ?_) (a' := ?_) #[true, true, true, true, true, true, true, true, true, true, true, true, true, true, true, false, false, false, false, false, false, false] rfl rfl (by kernel_rfl) (fun _ _ _ h => h) (Or.inl ⟨by rfl, ?_⟩) ?_ ?_
        rotate_left
        · intro w'
          go_simp
          with_reducible rfl
        rotate_left
        · simp only [Act.put, List.setIfInBounds_toArray, List.set_cons_zero, List.set_cons_succ, i64_w, i32_w]
          rfl
        refine pure_ (i := 15) (N := some 72) (v := ?_) (a' := ?_) #[true, true, true, true, true, true, true, true, true, true, true, true, true, true, true, true, false, false, false, false, false, false] rfl rfl (by kernel_rfl) (fun _ _ _ h => h) (Or.inl ⟨by rfl, ?_⟩) ?_ ?_
        rotate_left
        · intro w'
          go_simp
          with_reducible rfl
        rotate_left
        · simp only [Act.put, List.setIfInBounds_toArray, List.set_cons_zero, List.set_cons_succ, i64_w, i32_w]
          rfl
        refine pure_ (i := 16) (N := some 73) (v := ?_) (a' := ?_) #[true, true, true, true, true, true, true, true, true, true, true, true, true, true, true, true, true, false, false, false, false, false] rfl rfl (by kernel_rfl) (fun _ _ _ h => h) (Or.inl ⟨by rfl, ?_⟩) ?_ ?_
        rotate_left
        · intro w'
          go_simp
          with_reducible rfl
        rotate_left
        · simp only [Act.put, List.setIfInBounds_toArray, List.set_cons_zero, List.set_cons_succ, i64_w, i32_w]
          rfl
        refine pure_ (i := 18) (N := some 75) (v := ?_) (a' := ?_) #[true, true, true, true, true, true, true, true, true, true, true, true, true, true, true, true, true, false, true, false, false, false] rfl rfl (by kernel_rfl) (fun _ _ _ h => h) (Or.inl ⟨by rfl, ?_⟩) ?_ ?_
        rotate_left
        · intro w'
          go_simp
          with_reducible rfl
        rotate_left
        · simp only [Act.put, List.setIfInBounds_toArray, List.set_cons_zero, List.set_cons_succ, i64_w, i32_w]
          rfl
        refine take_ (i := 17) (N := some 74) (v := ?_) (a' := ?_) #[true, true, true, true, true, true, true, true, true, true, true, true, true, true, true, true, true, true, true, false, false, false] rfl rfl (by kernel_rfl) (fun _ _ _ h => h) (Or.inl ⟨by rfl, ?_⟩) hHeld ?_ ?_
        rotate_left
        · rintro w' ⟨s0, s1, s2, s3⟩
          go_simp
          with_reducible rfl
        rotate_left
        · simp only [Act.put, List.setIfInBounds_toArray, List.set_cons_zero, List.set_cons_succ, i64_w, i32_w]
          rfl
        refine one_ (i := 19) (N := some 76) #[true, true, true, true, true, true, true, true, true, true, true, true, true, true, true, true, true, true, true, true, false, false] rfl rfl (by kernel_rfl) (by decide) (fun K hK => ?_)
        refine goesV_ Try.func34 (by kernel_rfl) rfl #[.int .i64 1, .int .i64 9] (by rfl) rfl rfl (by rfl) (by simp only [List.map_toArray, List.map_cons, List.map_nil]; rfl) ?_
        with_reducible refine (clos34' 1 9 _).mono ?_
        rintro e w5 ⟨rfl, ha2, hc2, hb2⟩
        refine ⟨_, rfl, ?_⟩
        have BB3 := Lib.hid (below_then BB2.out BB2.out.size hb2)
        refine hK.out _ _ ⟨(hb2.cell (p := ⟨w.heap.size, 0, none⟩) (Nat.lt_of_lt_of_le hws BB2.out.size)).trans hHeld.1, (hb2.cell (p := ⟨w.heap.size, 2, none⟩) (Nat.lt_of_lt_of_le hws BB2.out.size)).trans hHeld.2.1, (hb2.cell (p := ⟨w.heap.size, 3, none⟩) (Nat.lt_of_lt_of_le hws BB2.out.size)).trans hHeld.2.2.1, (hb2.cell (p := ⟨w.heap.size, 4, none⟩) (Nat.lt_of_lt_of_le hws BB2.out.size)).trans hHeld.2.2.2⟩ (fun hHeld => ?_)
        clear hK K
        refine norm_ (a' := ?_) ?_ ?_
        rotate_left
        · show Act.put _ (some 76) _ = _
          simp only [Act.put, List.setIfInBounds_toArray, List.set_cons_zero, List.set_cons_succ, i64_w, i32_w]
          rfl
        refine one_ (i := 20) (N := some 77) #[true, true, true, true, true, true, true, true, true, true, true, true, true, true, true, true, true, true, true, true, true, false] rfl rfl (by kernel_rfl) (by decide) (fun K hK => ?_)
        refine goes_ Try.func36 (by kernel_rfl) rfl #[.slice A4 l4.length c4, .func (.func 35) #[] #[.pointer (some ⟨_, 0, none⟩), .pointer (some ⟨_, 0, none⟩)]] (by rfl) rfl rfl (by simp only [List.map_toArray, List.map_cons, List.map_nil]; rfl) ?_
        with_reducible refine (contains36 1 9 _ _ A4 c4 l4 _ ha2 hc2 (Kd.C_below HR4'.out BB3.out) (by omega)).mono ?_
        rintro e w9 ⟨rfl, rfl⟩
        refine ⟨_, rfl, ?_⟩
        rw [ok2]
        refine hK.out _ _ ⟨hHeld.1, hHeld.2.1, hHeld.2.2.1, hHeld.2.2.2⟩ (fun hHeld => ?_)
        clear hK K
        refine norm_ (a' := ?_) ?_ ?_
        rotate_left
        · show Act.put _ (some 77) _ = _
          simp only [Act.put, List.setIfInBounds_toArray, List.set_cons_zero, List.set_cons_succ, i64_w, i32_w]
          rfl
        refine pure_ (i := 21) (N := some 78) (v := ?_) (a' := ?_) #[true, true, true, true, true, true, true, true, true, true, true, true, true, true, true, true, true, true, true, true, true, true] rfl rfl (by kernel_rfl) (fun _ _ _ h => h) (Or.inl ⟨by rfl, ?_⟩) ?_ ?_
        rotate_left
        · intro w'
          go_simp
          with_reducible rfl
        rotate_left
        · simp only [Act.put, List.setIfInBounds_toArray, List.set_cons_zero, List.set_cons_succ, i64_w, i32_w]
          rfl
        refine done_ (by kernel_rfl) ?_
        go_wp2_with fail
        go_ret
        exact ⟨by rw [HSB.out, HOK0.out, HOK1.out, HOK2.out]; rfl, below_step HBW.out BB3.out⟩
      · have HOK2 := Lib.hid ok2
        refine start_ (n := 22) (S := fun w' => w'.cell? ⟨w.heap.size, 0, none⟩ = some (.int .i64 a0) ∧ w'.cell? ⟨w.heap.size, 2, none⟩ = some (.slice A2 l2.length c2) ∧ w'.cell? ⟨w.heap.size, 3, none⟩ = some (.slice A3 l3.length c3) ∧ w'.cell? ⟨w.heap.size, 4, none⟩ = some (.slice A4 l4.length c4)) (ds := []) #[false, false, false, false, false, false, false, false, false, false, false, false, false, false, false, false, false, false, false, false, false, false] (by kernel_rfl) rfl rfl ⟨f0, f2, f3, f4⟩ (fun hHeld => ?_)
        refine pure_ (i := 0) (N := some 57) (v := ?_) (a' := ?_) #[true, false, false, false, false, false, false, false, false, false, false, false, false, false, false, false, false, false, false, false, false, false] rfl rfl (by kernel_rfl) (fun _ _ _ h => h) (Or.inl ⟨by rfl, ?_⟩) ?_ ?_
        rotate_left
        · intro w'
          go_simp
          with_reducible rfl
        rotate_left
        · simp only [Act.put, List.setIfInBounds_toArray, List.set_cons_zero, List.set_cons_succ, i64_w, i32_w]
          rfl
        refine pure_ (i := 2) (N := some 59) (v := ?_) (a' := ?_) #[true, false, true, false, false, false, false, false, false, false, false, false, false, false, false, false, false, false, false, false, false, false] rfl rfl (by kernel_rfl) (fun _ _ _ h => h) (Or.inl ⟨by rfl, ?_⟩) ?_ ?_
        rotate_left
        · intro w'
          go_simp
          with_reducible rfl
        rotate_left
        · simp only [Act.put, List.setIfInBounds_toArray, List.set_cons_zero, List.set_cons_succ, i64_w, i32_w]
          rfl
        refine pure_ (i := 3) (N := some 60) (v := ?_) (a' := ?_) #[true, false, true, true, false, false, false, false, false, false, false, false, false, false, false, false, false, false, false, false, false, false] rfl rfl (by kernel_rfl) (fun _ _ _ h => h) (Or.inl ⟨by rfl, ?_⟩) ?_ ?_
        rotate_left
        · intro w'
          go_simp
          with_reducible rfl
        rotate_left
        · simp only [Act.put, List.setIfInBounds_toArray, List.set_cons_zero, List.set_cons_succ, i64_w, i32_w]
          rfl
        refine take_ (i := 1) (N := some 58) (v := ?_) (a' := ?_) #[true, true, true, true, false, false, false, false, false, false, false, false, false, false, false, false, false, false, false, false, false, false] rfl rfl (by kernel_rfl) (fun _ _ _ h => h) (Or.inl ⟨by rfl, ?_⟩) hHeld ?_ ?_
        rotate_left
        · rintro w' ⟨s0, s1, s2, s3⟩
          go_simp
          with_reducible rfl
        rotate_left
        · simp only [Act.put, List.setIfInBounds_toArray, List.set_cons_zero, List.set_cons_succ, i64_w, i32_w]
          rfl
        refine take_ (i := 4) (N := some 61) (v := ?_) (a' := ?_) #[true, true, true, true, true, false, false, false, false, false, false, false, false, false, false, false, false, false, false, false, false, false] rfl rfl (by kernel_rfl) (fun _ _ _ h => h) (Or.inl ⟨by rfl, ?_⟩) hHeld ?_ ?_
        rotate_left
        · rintro w' ⟨s0, s1, s2, s3⟩
          go_simp
          with_reducible rfl
        rotate_left
        · simp only [Act.put, List.setIfInBounds_toArray, List.set_cons_zero, List.set_cons_succ, i64_w, i32_w]
          rfl
        refine pure_ (i := 5) (N := some 62) (v := ?_) (a' := ?_) #[true, true, true, true, true, true, false, false, false, false, false, false, false, false, false, false, false, false, false, false, false, false] rfl rfl (by kernel_rfl) (fun _ _ _ h => h) (Or.inl ⟨by rfl, ?_⟩) ?_ ?_
        rotate_left
        · intro w'
          go_simp
          with_reducible rfl
        rotate_left
        · simp only [Act.put, List.setIfInBounds_toArray, List.set_cons_zero, List.set_cons_succ, i64_w, i32_w]
          rfl
        refine one_ (i := 6) (N := some 63) #[true, true, true, true, true, true, true, false, false, false, false, false, false, false, false, false, false, false, false, false, false, false] rfl rfl (by kernel_rfl) (by decide) (fun K hK => ?_)
        refine goesV_ Try.func34 (by kernel_rfl) rfl #[.int .i64 0, .int .i64 (a0 - 1)] (by rfl) rfl rfl (by rfl) (by simp only [List.map_toArray, List.map_cons, List.map_nil]; rfl) ?_
        with_reducible refine (clos34' 0 (a0 - 1) _).mono ?_
        rintro e w3 ⟨rfl, ha0, hc0, hb0⟩
        refine ⟨_, rfl, ?_⟩
        have BB1 := Lib.hid (below_then BB0.out BB0.out.size hb0)
        refine hK.out _ _ ⟨(hb0.cell (p := ⟨w.heap.size, 0, none⟩) (Nat.lt_of_lt_of_le hws BB0.out.size)).trans hHeld.1, (hb0.cell (p := ⟨w.heap.size, 2, none⟩) (Nat.lt_of_lt_of_le hws BB0.out.size)).trans hHeld.2.1, (hb0.cell (p := ⟨w.heap.size, 3, none⟩) (Nat.lt_of_lt_of_le hws BB0.out.size)).trans hHeld.2.2.1, (hb0.cell (p := ⟨w.heap.size, 4, none⟩) (Nat.lt_of_lt_of_le hws BB0.out.size)).trans hHeld.2.2.2⟩ (fun hHeld => ?_)
        clear hK K
        refine norm_ (a' := ?_) ?_ ?_
        rotate_left
        · show Act.put _ (some 63) _ = _
          simp only [Act.put, List.setIfInBounds_toArray, List.set_cons_zero, List.set_cons_succ, i64_w, i32_w]
          rfl
        refine one_ (i := 7) (N := some 64) #[true, true, true, true, true, true, true, true, false, false, false, false, false, false, false, false, false, false, false, false, false, false] rfl rfl (by kernel_rfl) (by decide) (fun K hK => ?_)
        refine goes_ Try.func36 (by kernel_rfl) rfl #[.slice A2 l2.length c2, .func (.func 35) #[] #[.pointer (some ⟨_, 0, none⟩), .pointer (some ⟨_, 0, none⟩)]] (by rfl) rfl rfl (by simp only [List.map_toArray, List.map_cons, List.map_nil]; rfl) ?_
        with_reducible refine (contains36 0 (a0 - 1) _ _ A2 c2 l2 _ ha0 hc0 (Kd.C_below HR2'.out BB1.out) (by omega)).mono ?_
        rintro e w9 ⟨rfl, rfl⟩
        refine ⟨_, rfl, ?_⟩
        rw [ok0]
        refine hK.out _ _ ⟨hHeld.1, hHeld.2.1, hHeld.2.2.1, hHeld.2.2.2⟩ (fun hHeld => ?_)
        clear hK K
        refine norm_ (a' := ?_) ?_ ?_
        rotate_left
        · show Act.put _ (some 64) _ = _
          simp only [Act.put, List.setIfInBounds_toArray, List.set_cons_zero, List.set_cons_succ, i64_w, i32_w]
          rfl
        refine pure_ (i := 8) (N := some 65) (v := ?_) (a' := ?_) #[true, true, true, true, true, true, true, true, true, false, false, false, false, false, false, false, false, false, false, false, false, false] rfl rfl (by kernel_rfl) (fun _ _ _ h => h) (Or.inl ⟨by rfl, ?_⟩) ?_ ?_
        rotate_left
        · intro w'
          go_simp
          with_reducible rfl
        rotate_left
        · simp only [Act.put, List.setIfInBounds_toArray, List.set_cons_zero, List.set_cons_succ, i64_w, i32_w]
          rfl
        refine pure_ (i := 9) (N := some 66) (v := ?_) (a' := ?_) #[true, true, true, true, true, true, true, true, true, true, false, false, false, false, false, false, false, false, false, false, false, false] rfl rfl (by kernel_rfl) (fun _ _ _ h => h) (Or.inl ⟨by rfl, ?_⟩) ?_ ?_
        rotate_left
        · intro w'
          go_simp
          with_reducible rfl
        rotate_left
        · simp only [Act.put, List.setIfInBounds_toArray, List.set_cons_zero, List.set_cons_succ, i64_w, i32_w]
          rfl
        refine pure_ (i := 11) (N := some 68) (v := ?_) (a' := ?_) #[true, true, true, true, true, true, true, true, true, true, false, true, false, false, false, false, false, false, false, false, false, false] rfl rfl (by kernel_rfl) (fun _ _ _ h => h) (Or.inl ⟨by rfl, ?_⟩) ?_ ?_
        rotate_left
        · intro w'
          go_simp
          with_reducible rfl
        rotate_left
        · simp only [Act.put, List.setIfInBounds_toArray, List.set_cons_zero, List.set_cons_succ, i64_w, i32_w]
          rfl
        refine take_ (i := 10) (N := some 67) (v := ?_) (a' := ?_) #[true, true, true, true, true, true, true, true, true, true, true, true, false, false, false, false, false, false, false, false, false, false] rfl rfl (by kernel_rfl) (fun _ _ _ h => h) (Or.inl ⟨by rfl, ?_⟩) hHeld ?_ ?_
        rotate_left
        · rintro w' ⟨s0, s1, s2, s3⟩
          go_simp
          with_reducible rfl
        rotate_left
        · simp only [Act.put, List.setIfInBounds_toArray, List.set_cons_zero, List.set_cons_succ, i64_w, i32_w]
          rfl
        refine one_ (i := 12) (N := some 69) #[true, true, true, true, true, true, true, true, true, true, true, true, true, false, false, false, false, false, false, false, false, false] rfl rfl (by kernel_rfl) (by decide) (fun K hK => ?_)
        refine goesV_ Try.func34 (by kernel_rfl) rfl #[.int .i64 0, .int .i64 9] (by rfl) rfl rfl (by rfl) (by simp only [List.map_toArray, List.map_cons, List.map_nil]; rfl) ?_
        with_reducible refine (clos34' 0 9 _).mono ?_
        rintro e w4 ⟨rfl, ha1, hc1, hb1⟩
        refine ⟨_, rfl, ?_⟩
        have BB2 := Lib.hid (below_then BB1.out BB1.out.size hb1)
        refine hK.out _ _ ⟨(hb1.cell (p := ⟨w.heap.size, 0, none⟩) (Nat.lt_of_lt_of_le hws BB1.out.size)).trans hHeld.1, (hb1.cell (p := ⟨w.heap.size, 2, none⟩) (Nat.lt_of_lt_of_le hws BB1.out.size)).trans hHeld.2.1, (hb1.cell (p := ⟨w.heap.size, 3, none⟩) (Nat.lt_of_lt_of_le hws BB1.out.size)).trans hHeld.2.2.1, (hb1.cell (p := ⟨w.heap.size, 4, none⟩) (Nat.lt_of_lt_of_le hws BB1.out.size)).trans hHeld.2.2.2⟩ (fun hHeld => ?_)
        clear hK K
        refine norm_ (a' := ?_) ?_ ?_
        rotate_left
        · show Act.put _ (some 69) _ = _
          simp only [Act.put, List.setIfInBounds_toArray, List.set_cons_zero, List.set_cons_succ, i64_w, i32_w]
          rfl
        refine one_ (i := 13) (N := some 70) #[true, true, true, true, true, true, true, true, true, true, true, true, true, true, false, false, false, false, false, false, false, false] rfl rfl (by kernel_rfl) (by decide) (fun K hK => ?_)
        refine goes_ Try.func36 (by kernel_rfl) rfl #[.slice A3 l3.length c3, .func (.func 35) #[] #[.pointer (some ⟨_, 0, none⟩), .pointer (some ⟨_, 0, none⟩)]] (by rfl) rfl rfl (by simp only [List.map_toArray, List.map_cons, List.map_nil]; rfl) ?_
        with_reducible refine (contains36 0 9 _ _ A3 c3 l3 _ ha1 hc1 (Kd.C_below HR3'.out BB2.out) (by omega)).mono ?_
        rintro e w9 ⟨rfl, rfl⟩
        refine ⟨_, rfl, ?_⟩
        rw [ok1]
        refine hK.out _ _ ⟨hHeld.1, hHeld.2.1, hHeld.2.2.1, hHeld.2.2.2⟩ (fun hHeld => ?_)
        clear hK K
        refine norm_ (a' := ?_) ?_ ?_
        rotate_left
        · show Act.put _ (some 70) _ = _
          simp only [Act.put, List.setIfInBounds_toArray, List.set_cons_zero, List.set_cons_succ, i64_w, i32_w]
          rfl
        refine pure_ (i := 14) (N := some 71) (v := ?_) (a' := ?_) #[true, true, true, true, true, true, true, true, true, true, true, true, true, true, true, false, false, false, false, false, false, false] rfl rfl (by kernel_rfl) (fun _ _ _ h => h) (Or.inl ⟨by rfl, ?_⟩) ?_ ?_
        rotate_left
        · intro w'
          go_simp
          with_reducible rfl
        rotate_left
        · simp only [Act.put, List.setIfInBounds_toArray, List.set_cons_zero, List.set_cons_succ, i64_w, i32_w]
          rfl
        refine pure_ (i := 15) (N := some 72) (v := ?_) (a' := ?_) #[true, true, true, true, true, true, true, true, true, true, true, true, true, true, true, true, false, false, false, false, false, false] rfl rfl (by kernel_rfl) (fun _ _ _ h => h) (Or.inl ⟨by rfl, ?_⟩) ?_ ?_
        rotate_left
        · intro w'
          go_simp
          with_reducible rfl
        rotate_left
        · simp only [Act.put, List.setIfInBounds_toArray, List.set_cons_zero, List.set_cons_succ, i64_w, i32_w]
          rfl
        refine pure_ (i := 16) (N := some 73) (v := ?_) (a' := ?_) #[true, true, true, true, true, true, true, true, true, true, true, true, true, true, true, true, true, false, false, false, false, false] rfl rfl (by kernel_rfl) (fun _ _ _ h => h) (Or.inl ⟨by rfl, ?_⟩) ?_ ?_
        rotate_left
        · intro w'
          go_simp
          with_reducible rfl
        rotate_left
        · simp only [Act.put, List.setIfInBounds_toArray, List.set_cons_zero, List.set_cons_succ, i64_w, i32_w]
          rfl
        refine pure_ (i := 18) (N := some 75) (v := ?_) (a' := ?_) #[true, true, true, true, true, true, true, true, true, true, true, true, true, true, true, true, true, false, true, false, false, false] rfl rfl (by kernel_rfl) (fun _ _ _ h => h) (Or.inl ⟨by rfl, ?_⟩) ?_ ?_
        rotate_left
        · intro w'
          go_simp
          with_reducible rfl
        rotate_left
        · simp only [Act.put, List.setIfInBounds_toArray, List.set_cons_zero, List.set_cons_succ, i64_w, i32_w]
          rfl
        refine take_ (i := 17) (N := some 74) (v := ?_) (a' := ?_) #[true, true, true, true, true, true, true, true, true, true, true, true, true, true, true, true, true, true, true, false, false, false] rfl rfl (by kernel_rfl) (fun _ _ _ h => h) (Or.inl ⟨by rfl, ?_⟩) hHeld ?_ ?_
        rotate_left
        · rintro w' ⟨s0, s1, s2, s3⟩
          go_simp
          with_reducible rfl
        rotate_left
        · simp only [Act.put, List.setIfInBounds_toArray, List.set_cons_zero, List.set_cons_succ, i64_w, i32_w]
          rfl
        refine one_ (i := 19) (N := some 76) #[true, true, true, true, true, true, true, true, true, true, true, true, true, true, true, true, true, true, true, true, false, false] rfl rfl (by kernel_rfl) (by decide) (fun K hK => ?_)
        refine goesV_ Try.func34 (by kernel_rfl) rfl #[.int .i64 1, .int .i64 9] (by rfl) rfl rfl (by rfl) (by simp only [List.map_toArray, List.map_cons, List.map_nil]; rfl) ?_
        with_reducible refine (clos34' 1 9 _).mono ?_
        rintro e w5 ⟨rfl, ha2, hc2, hb2⟩
        refine ⟨_, rfl, ?_⟩
        have BB3 := Lib.hid (below_then BB2.out BB2.out.size hb2)
        refine hK.out _ _ ⟨(hb2.cell (p := ⟨w.heap.size, 0, none⟩) (Nat.lt_of_lt_of_le hws BB2.out.size)).trans hHeld.1, (hb2.cell (p := ⟨w.heap.size, 2, none⟩) (Nat.lt_of_lt_of_le hws BB2.out.size)).trans hHeld.2.1, (hb2.cell (p := ⟨w.heap.size, 3, none⟩) (Nat.lt_of_lt_of_le hws BB2.out.size)).trans hHeld.2.2.1, (hb2.cell (p := ⟨w.heap.size, 4, none⟩) (Nat.lt_of_lt_of_le hws BB2.out.size)).trans hHeld.2.2.2⟩ (fun hHeld => ?_)
        clear hK K
        refine norm_ (a' := ?_) ?_ ?_
        rotate_left
        · show Act.put _ (some 76) _ = _
          simp only [Act.put, List.setIfInBounds_toArray, List.set_cons_zero, List.set_cons_succ, i64_w, i32_w]
          rfl
        refine one_ (i := 20) (N := some 77) #[true, true, true, true, true, true, true, true, true, true, true, true, true, true, true, true, true, true, true, true, true, false] rfl rfl (by kernel_rfl) (by decide) (fun K hK => ?_)
        refine goes_ Try.func36 (by kernel_rfl) rfl #[.slice A4 l4.length c4, .func (.func 35) #[] #[.pointer (some ⟨_, 0, none⟩), .pointer (some ⟨_, 0, none⟩)]] (by rfl) rfl rfl (by simp only [List.map_toArray, List.map_cons, List.map_nil]; rfl) ?_
        with_reducible refine (contains36 1 9 _ _ A4 c4 l4 _ ha2 hc2 (Kd.C_below HR4'.out BB3.out) (by omega)).mono ?_
        rintro e w9 ⟨rfl, rfl⟩
        refine ⟨_, rfl, ?_⟩
        rw [ok2]
        refine hK.out _ _ ⟨hHeld.1, hHeld.2.1, hHeld.2.2.1, hHeld.2.2.2⟩ (fun hHeld => ?_)
        clear hK K
        refine norm_ (a' := ?_) ?_ ?_
        rotate_left
        · show Act.put _ (some 77) _ = _
          simp only [Act.put, List.setIfInBounds_toArray, List.set_cons_zero, List.set_cons_succ, i64_w, i32_w]
          rfl
        refine pure_ (i := 21) (N := some 78) (v := ?_) (a' := ?_) #[true, true, true, true, true, true, true, true, true, true, true, true, true, true, true, true, true, true, true, true, true, true] rfl rfl (by kernel_rfl) (fun _ _ _ h => h) (Or.inl ⟨by rfl, ?_⟩) ?_ ?_
        rotate_left
        · intro w'
          go_simp
          with_reducible rfl
        rotate_left
        · simp only [Act.put, List.setIfInBounds_toArray, List.set_cons_zero, List.set_cons_succ, i64_w, i32_w]
          rfl
        refine done_ (by kernel_rfl) ?_
        clear f0 f2 f3 f4 hHeld
        have b5 := (BB3.out.cell (p := ⟨w.heap.size, 5, none⟩) hws).trans (HBX.out 5)
        go_wp2_with fail
        go_loopw [82] (fun i wr => ∃ x : Int, 0 ≤ x ∧ x ≤ (l5.length : Int) ∧ i = .int .i64 x ∧ Below W.heap.size W wr ∧ l5.all (thB a0 a1 l2.length l3.length l4.length) = (l5.drop x.toNat).all (thB a0 a1 l2.length l3.length l4.length)) (fun i _ => l5.length - (intOf i).toNat)
        case atStart => exact ⟨0, Int.le_refl _, by omega, rfl, BB3.out, rfl⟩
        case round =>
          obtain ⟨x, hx0, hxn, rfl, hB, hE⟩ := hrel
          have HB := Lib.hid hB; have HE := Lib.hid hE
          clear hB hE
          by_cases hlt : x < (l5.length : Int)
          · obtain ⟨ad, A0, c0, eA, g0, hlc, hC⟩ := at_L4 HR5'.out x hx0 hlt
            subst eA
            have hG0 := g0
            replace g0 := (HB.out.cell (World.block_lt_of_cell? W _ g0)).trans g0
            have hst := Lib.hid (show (l5.drop x.toNat).all (thB a0 a1 l2.length l3.length l4.length) = (thB a0 a1 l2.length l3.length l4.length (rd_L4 l5 x) && (l5.drop (x.toNat + 1)).all (thB a0 a1 l2.length l3.length l4.length)) by rw [rd_atT l5 x hx0 hlt, List.all_cons])
            obtain ⟨t, ht⟩ : ∃ t, rd_L4 l5 x = t := ⟨_, rfl⟩
            rw [ht] at g0 hG0 hlc hC
            clear hG0
            have HY := Lib.hid ht
            have HC := Lib.hid hC
            clear ht hC
            have p0 := eq_true hx0
            have p1 := eq_true hlt
            by_cases y0 : (20 : Int) < (t.length : Int)
            · have hb : thB a0 a1 l2.length l3.length l4.length t = false := by unfold thB; rw [show decide (t.length ≤ 20) = false by rw [decide_eq_false_iff_not]; omega]; rfl
              have HBB := Lib.hid hb
              have e0 : decide ((20 : Int) < (t.length : Int)) = true := decide_eq_true y0
              clear hb y0
              go_wp2_with fail
              go_ret
              exact ⟨by rw [HSB.out, HOK0.out, Bool.true_and, HOK1.out, Bool.true_and, HOK2.out, Bool.true_and, HE.out, hst.out, HY.out, HBB.out]; rfl, below_step HBW.out HB.out⟩
            · have e0 : decide ((20 : Int) < (t.length : Int)) = false := decide_eq_false y0
              have HTH := Lib.hid (show thB a0 a1 l2.length l3.length l4.length t = t.all (opB a0 a1 l2.length l3.length l4.length) by unfold thB; rw [show decide (t.length ≤ 20) = true by rw [decide_eq_true_eq]; omega]; rfl)
              have HT20 := Lib.hid y0
              clear y0
              go_wp2_with fail
              clear e0 g0
              go_loopw [91] (fun i wr => ∃ y : Int, 0 ≤ y ∧ y ≤ (t.length : Int) ∧ i = .int .i64 y ∧ Below W.heap.size W wr ∧ t.all (opB a0 a1 l2.length l3.length l4.length) = (t.drop y.toNat).all (opB a0 a1 l2.length l3.length l4.length)) (fun i _ => t.length - (intOf i).toNat)
              case atStart => exact ⟨0, Int.le_refl _, by omega, rfl, HB.out, rfl⟩
              case round =>
                clear HB
                obtain ⟨y, hy0, hyn, rfl, hB, hE2⟩ := hrel
                have HB := Lib.hid hB; have HE2 := Lib.hid hE2
                clear hB hE2
                have bb := fun o => (HB.out.cell (p := ⟨w.heap.size, o, none⟩) hws).trans (HBX.out o)
                have k0 := bb 0; have k1 := bb 1; have k2 := bb 2; have k3 := bb 3; have k4 := bb 4
                clear bb
                have p2 := eq_true hy0
                have hWs := HB.out.size
                have ht20 : (t.length : Int) ≤ 20 := by have := HT20.out; omega
                by_cases hlt2 : y < (t.length : Int)
                · obtain ⟨ad2, eA2, g1, g2, g3⟩ := at_T56 HC.out y hy0 hlt2
                  subst eA2
                  replace g1 := (HB.out.cell (World.block_lt_of_cell? W _ g1)).trans g1; replace g2 := (HB.out.cell (World.block_lt_of_cell? W _ g2)).trans g2; replace g3 := (HB.out.cell (World.block_lt_of_cell? W _ g3)).trans g3
                  have hs2 := Lib.hid (show (t.drop y.toNat).all (opB a0 a1 l2.length l3.length l4.length) = (opB a0 a1 l2.length l3.length l4.length (rd_T56 t y) && (t.drop (y.toNat + 1)).all (opB a0 a1 l2.length l3.length l4.length)) by rw [rd_atS t y hy0 hlt2, List.all_cons])
                  obtain ⟨z, hz⟩ : ∃ z, rd_T56 t y = z := ⟨_, rfl⟩
                  rw [hz] at g1 g2 g3
                  have HZ := Lib.hid hz
                  clear hz
                  obtain ⟨f0, f1, f2⟩ := z
                  simp only at g1 g2 g3
                  have p3 := eq_true hlt2
                  have hold := fun o => ((Below.refl wr.heap.size wr).alloc (Nat.le_refl _) (.cells #[.int .i64 f0, .int .i64 f1, .int .i64 f2] 56)).cell (p := ⟨w.heap.size, o, none⟩) (by show w.heap.size < wr.heap.size; omega)
                  have j0 := (hold 0).trans k0; have j1 := (hold 1).trans k1; have j2 := (hold 2).trans k2; have j3 := (hold 3).trans k3; have j4 := (hold 4).trans k4
                  clear hold k0 k1 k2 k3 k4 hWs
                  have HBU := Lib.hid (below_alloc HB.out (.cells #[.int .i64 f0, .int .i64 f1, .int .i64 f2] 56))
                  have HOB := Lib.hid (show opB a0 a1 l2.length l3.length l4.length ⟨f0, f1, f2⟩ = decide (1 ≤ f0 ∧ f0 ≤ 15 ∧ 0 ≤ f1 ∧ f1 < many a0 a1 l2.length l3.length l4.length f0 ∧ (f2 = 0 ∨ f0 = 8 ∨ f0 = 15)) from rfl)
                  obtain ⟨mm, hmm⟩ : ∃ mm, many a0 a1 l2.length l3.length l4.length f0 = mm := ⟨_, rfl⟩
                  have HMM := Lib.hid hmm
                  clear hmm
                  go_upto_block 4 with (fail)
                  go_cut [8] from 97 to 128 (fun s8 wx => ∃ m8 : Int, s8 = .int .i64 m8 ∧ (1 ≤ f0 → m8 = mm) ∧ wx = wr.alloc (.cells #[.int .i64 f0, .int .i64 f1, .int .i64 f2] 56))
                  case first =>
                    by_cases z1 : f0 = 1
                    · subst z1
                      go_wp2_with fail
                      go_meet
                      exact ⟨_, rfl, fun _ => by rw [← HMM.out]; rfl, rfl⟩
                    by_cases z2 : f0 = 2
                    · subst z2
                      clear z1
                      go_wp2_with fail
                      go_meet
                      exact ⟨_, rfl, fun _ => by rw [← HMM.out]; rfl, rfl⟩
                    by_cases z3 : f0 = 3
                    · subst z3
                      clear z1 z2
                      go_wp2_with fail
                      go_meet
                      exact ⟨_, rfl, fun _ => by rw [← HMM.out]; rfl, rfl⟩
                    by_cases z4 : f0 = 4
                    · subst z4
                      clear z1 z2 z3
                      go_wp2_with fail
                      go_meet
                      exact ⟨_, rfl, fun _ => by rw [← HMM.out]; rfl, rfl⟩
                    by_cases z5 : f0 = 5
                    · subst z5
                      clear z1 z2 z3 z4
                      go_wp2_with fail
                      go_meet
                      exact ⟨_, rfl, fun _ => by rw [← HMM.out]; rfl, rfl⟩
                    by_cases z6 : f0 = 6
                    · subst z6
                      clear z1 z2 z3 z4 z5
                      go_wp2_with fail
                      go_meet
                      exact ⟨_, rfl, fun _ => by rw [← HMM.out]; rfl, rfl⟩
                    by_cases z7 : f0 = 7
                    · subst z7
                      clear z1 z2 z3 z4 z5 z6
                      go_wp2_with fail
                      go_meet
                      exact ⟨_, rfl, fun _ => by rw [← HMM.out]; rfl, rfl⟩
                    by_cases z8 : f0 = 8
                    · subst z8
                      clear z1 z2 z3 z4 z5 z6 z7
                      go_wp2_with fail
                      go_meet
                      exact ⟨_, rfl, fun _ => by rw [← HMM.out]; rfl, rfl⟩
                    by_cases z9 : f0 = 9
                    · subst z9
                      clear z1 z2 z3 z4 z5 z6 z7 z8
                      go_wp2_with fail
                      go_meet
                      exact ⟨_, rfl, fun _ => by rw [← HMM.out]; rfl, rfl⟩
                    by_cases z10 : f0 = 10
                    · subst z10
                      clear z1 z2 z3 z4 z5 z6 z7 z8 z9
                      go_wp2_with fail
                      go_meet
                      exact ⟨_, rfl, fun _ => by rw [← HMM.out]; rfl, rfl⟩
                    by_cases z11 : f0 = 11
                    · subst z11
                      clear z1 z2 z3 z4 z5 z6 z7 z8 z9 z10
                      go_wp2_with fail
                      go_meet
                      exact ⟨_, rfl, fun _ => by rw [← HMM.out]; rfl, rfl⟩
                    by_cases z12 : f0 = 12
                    · subst z12
                      clear z1 z2 z3 z4 z5 z6 z7 z8 z9 z10 z11
                      go_wp2_with fail
                      go_meet
                      exact ⟨_, rfl, fun _ => by rw [← HMM.out]; rfl, rfl⟩
                    by_cases z13 : f0 = 13
                    · subst z13
                      clear z1 z2 z3 z4 z5 z6 z7 z8 z9 z10 z11 z12
                      go_wp2_with fail
                      go_meet
                      exact ⟨_, rfl, fun _ => by rw [← HMM.out]; rfl, rfl⟩
                    by_cases z14 : f0 = 14
                    · subst z14
                      clear z1 z2 z3 z4 z5 z6 z7 z8 z9 z10 z11 z12 z13
                      go_wp2_with fail
                      go_meet
                      exact ⟨_, rfl, fun _ => by rw [← HMM.out]; rfl, rfl⟩
                    have zz1 : (f0 == 1) = false := by rw [beq_eq_false_iff_ne]; exact z1
                    have zz2 : (f0 == 2) = false := by rw [beq_eq_false_iff_ne]; exact z2
                    have zz3 : (f0 == 3) = false := by rw [beq_eq_false_iff_ne]; exact z3
                    have zz4 : (f0 == 4) = false := by rw [beq_eq_false_iff_ne]; exact z4
                    have zz5 : (f0 == 5) = false := by rw [beq_eq_false_iff_ne]; exact z5
                    have zz6 : (f0 == 6) = false := by rw [beq_eq_false_iff_ne]; exact z6
                    have zz7 : (f0 == 7) = false := by rw [beq_eq_false_iff_ne]; exact z7
                    have zz8 : (f0 == 8) = false := by rw [beq_eq_false_iff_ne]; exact z8
                    have zz9 : (f0 == 9) = false := by rw [beq_eq_false_iff_ne]; exact z9
                    have zz10 : (f0 == 10) = false := by rw [beq_eq_false_iff_ne]; exact z10
                    have zz11 : (f0 == 11) = false := by rw [beq_eq_false_iff_ne]; exact z11
                    have zz12 : (f0 == 12) = false := by rw [beq_eq_false_iff_ne]; exact z12
                    have zz13 : (f0 == 13) = false := by rw [beq_eq_false_iff_ne]; exact z13
                    have zz14 : (f0 == 14) = false := by rw [beq_eq_false_iff_ne]; exact z14
                    go_wp2_with fail
                    go_meet
                    exact ⟨1, rfl, fun h => by rw [← HMM.out]; unfold many; rw [if_neg (by omega), if_neg (by omega), if_neg (by omega), if_neg (by omega), if_neg (by omega)], rfl⟩
                  case rest =>
                    obtain ⟨m8, rfl, hm8, rfl⟩ := hcut
                    by_cases y0 : f0 < 1
                    · clear hm8
                      have tt0 : decide (f0 < 1) = true := decide_eq_true y0
                      have hop : opB a0 a1 l2.length l3.length l4.length ⟨f0, f1, f2⟩ = false := by rw [HOB.out, HMM.out, decide_eq_false_iff_not]; omega
                      have HOP := Lib.hid hop
                      clear hop HOB y0
                      go_wp2_with fail
                      go_ret
                      exact ⟨by rw [HSB.out, HOK0.out, Bool.true_and, HOK1.out, Bool.true_and, HOK2.out, Bool.true_and, HE.out, hst.out, HY.out, HTH.out, HE2.out, hs2.out, HZ.out, HOP.out]; rfl, below_step HBW.out HBU.out⟩
                    · obtain rfl : m8 = mm := hm8 (by omega)
                      clear hm8
                      by_cases y1 : 15 < f0
                      · have tt0 : decide (f0 < 1) = false := decide_eq_false y0
                        have tt1 : decide (15 < f0) = true := decide_eq_true y1
                        have hop : opB a0 a1 l2.length l3.length l4.length ⟨f0, f1, f2⟩ = false := by rw [HOB.out, HMM.out, decide_eq_false_iff_not]; omega
                        have HOP := Lib.hid hop
                        clear hop HOB y0 y1
                        go_wp2_with fail
                        go_ret
                        exact ⟨by rw [HSB.out, HOK0.out, Bool.true_and, HOK1.out, Bool.true_and, HOK2.out, Bool.true_and, HE.out, hst.out, HY.out, HTH.out, HE2.out, hs2.out, HZ.out, HOP.out]; rfl, below_step HBW.out HBU.out⟩
                      · by_cases y2 : f1 < 0
                        · have tt0 : decide (f0 < 1) = false := decide_eq_false y0
                          have tt1 : decide (15 < f0) = false := decide_eq_false y1
                          have tt2 : decide (f1 < 0) = true := decide_eq_true y2
                          have hop : opB a0 a1 l2.length l3.length l4.length ⟨f0, f1, f2⟩ = false := by rw [HOB.out, HMM.out, decide_eq_false_iff_not]; omega
                          have HOP := Lib.hid hop
                          clear hop HOB y0 y1 y2
                          go_wp2_with fail
                          go_ret
                          exact ⟨by rw [HSB.out, HOK0.out, Bool.true_and, HOK1.out, Bool.true_and, HOK2.out, Bool.true_and, HE.out, hst.out, HY.out, HTH.out, HE2.out, hs2.out, HZ.out, HOP.out]; rfl, below_step HBW.out HBU.out⟩
                        · by_cases y3 : m8 ≤ f1
                          · have tt0 : decide (f0 < 1) = false := decide_eq_false y0
                            have tt1 : decide (15 < f0) = false := decide_eq_false y1
                            have tt2 : decide (f1 < 0) = false := decide_eq_false y2
                            have tt3 : decide (m8 ≤ f1) = true := decide_eq_true y3
                            have hop : opB a0 a1 l2.length l3.length l4.length ⟨f0, f1, f2⟩ = false := by rw [HOB.out, HMM.out, decide_eq_false_iff_not]; omega
                            have HOP := Lib.hid hop
                            clear hop HOB y0 y1 y2 y3
                            go_wp2_with fail
                            go_ret
                            exact ⟨by rw [HSB.out, HOK0.out, Bool.true_and, HOK1.out, Bool.true_and, HOK2.out, Bool.true_and, HE.out, hst.out, HY.out, HTH.out, HE2.out, hs2.out, HZ.out, HOP.out]; rfl, below_step HBW.out HBU.out⟩
                          · by_cases y4 : f2 = 0
                            · have tt0 : decide (f0 < 1) = false := decide_eq_false y0
                              have tt1 : decide (15 < f0) = false := decide_eq_false y1
                              have tt2 : decide (f1 < 0) = false := decide_eq_false y2
                              have tt3 : decide (m8 ≤ f1) = false := decide_eq_false y3
                              have tt4 : (f2 == 0) = true := by rw [beq_iff_eq]; exact y4
                              have n4 : (f2 != 0) = false := by rw [bne_eq_false_iff_eq]; exact y4
                              have hop : opB a0 a1 l2.length l3.length l4.length ⟨f0, f1, f2⟩ = true := by rw [HOB.out, HMM.out, decide_eq_true_eq]; omega
                              have HOP := Lib.hid hop
                              clear hop HOB y0 y1 y2 y3 y4
                              go_wp2_with fail
                              go_roundw
                              case measure => simp [intOf]; omega
                              case rel => exact ⟨y + 1, by omega, by omega, rfl, HBU.out, by rw [HE2.out, hs2.out, HZ.out, HOP.out, show (y + 1).toNat = y.toNat + 1 by omega]; rfl⟩
                            · by_cases y5 : f0 = 8
                              · have tt0 : decide (f0 < 1) = false := decide_eq_false y0
                                have tt1 : decide (15 < f0) = false := decide_eq_false y1
                                have tt2 : decide (f1 < 0) = false := decide_eq_false y2
                                have tt3 : decide (m8 ≤ f1) = false := decide_eq_false y3
                                have tt4 : (f2 == 0) = false := by rw [beq_eq_false_iff_ne]; exact y4
                                have n4 : (f2 != 0) = true := by rw [bne_iff_ne]; exact y4
                                have tt5 : (f0 == 8) = true := by rw [beq_iff_eq]; exact y5
                                have n5 : (f0 != 8) = false := by rw [bne_eq_false_iff_eq]; exact y5
                                have hop : opB a0 a1 l2.length l3.length l4.length ⟨f0, f1, f2⟩ = true := by rw [HOB.out, HMM.out, decide_eq_true_eq]; omega
                                have HOP := Lib.hid hop
                                clear hop HOB y0 y1 y2 y3 y4 y5
                                go_wp2_with fail
                                go_roundw
                                case measure => simp [intOf]; omega
                                case rel => exact ⟨y + 1, by omega, by omega, rfl, HBU.out, by rw [HE2.out, hs2.out, HZ.out, HOP.out, show (y + 1).toNat = y.toNat + 1 by omega]; rfl⟩
                              · by_cases y6 : f0 = 15
                                · have tt0 : decide (f0 < 1) = false := decide_eq_false y0
                                  have tt1 : decide (15 < f0) = false := decide_eq_false y1
                                  have tt2 : decide (f1 < 0) = false := decide_eq_false y2
                                  have tt3 : decide (m8 ≤ f1) = false := decide_eq_false y3
                                  have tt4 : (f2 == 0) = false := by rw [beq_eq_false_iff_ne]; exact y4
                                  have n4 : (f2 != 0) = true := by rw [bne_iff_ne]; exact y4
                                  have tt5 : (f0 == 8) = false := by rw [beq_eq_false_iff_ne]; exact y5
                                  have n5 : (f0 != 8) = true := by rw [bne_iff_ne]; exact y5
                                  have tt6 : (f0 == 15) = true := by rw [beq_iff_eq]; exact y6
                                  have n6 : (f0 != 15) = false := by rw [bne_eq_false_iff_eq]; exact y6
                                  have hop : opB a0 a1 l2.length l3.length l4.length ⟨f0, f1, f2⟩ = true := by rw [HOB.out, HMM.out, decide_eq_true_eq]; omega
                                  have HOP := Lib.hid hop
                                  clear hop HOB y0 y1 y2 y3 y4 y5 y6
                                  go_wp2_with fail
                                  go_roundw
                                  case measure => simp [intOf]; omega
                                  case rel => exact ⟨y + 1, by omega, by omega, rfl, HBU.out, by rw [HE2.out, hs2.out, HZ.out, HOP.out, show (y + 1).toNat = y.toNat + 1 by omega]; rfl⟩
                                · have tt0 : decide (f0 < 1) = false := decide_eq_false y0
                                  have tt1 : decide (15 < f0) = false := decide_eq_false y1
                                  have tt2 : decide (f1 < 0) = false := decide_eq_false y2
                                  have tt3 : decide (m8 ≤ f1) = false := decide_eq_false y3
                                  have tt4 : (f2 == 0) = false := by rw [beq_eq_false_iff_ne]; exact y4
                                  have n4 : (f2 != 0) = true := by rw [bne_iff_ne]; exact y4
                                  have tt5 : (f0 == 8) = false := by rw [beq_eq_false_iff_ne]; exact y5
                                  have n5 : (f0 != 8) = true := by rw [bne_iff_ne]; exact y5
                                  have tt6 : (f0 == 15) = false := by rw [beq_eq_false_iff_ne]; exact y6
                                  have n6 : (f0 != 15) = true := by rw [bne_iff_ne]; exact y6
                                  have hop : opB a0 a1 l2.length l3.length l4.length ⟨f0, f1, f2⟩ = false := by rw [HOB.out, HMM.out, decide_eq_false_iff_not]; omega
                                  have HOP := Lib.hid hop
                                  clear hop HOB y0 y1 y2 y3 y4 y5 y6
                                  go_wp2_with fail
                                  go_ret
                                  exact ⟨by rw [HSB.out, HOK0.out, Bool.true_and, HOK1.out, Bool.true_and, HOK2.out, Bool.true_and, HE.out, hst.out, HY.out, HTH.out, HE2.out, hs2.out, HZ.out, HOP.out]; rfl, below_step HBW.out HBU.out⟩
                · have hf : thB a0 a1 l2.length l3.length l4.length t = true := by rw [HTH.out, HE2.out, show y.toNat = t.length by omega, List.drop_length]; rfl
                  have HFT := Lib.hid hf
                  clear hf
                  go_wp2_with fail
                  go_roundw
                  case measure => simp [intOf]; omega
                  case rel =>
                    have hrel9 := show l5.all (thB a0 a1 l2.length l3.length l4.length) = (l5.drop (x + 1).toNat).all (thB a0 a1 l2.length l3.length l4.length) by rw [HE.out, hst.out, HY.out, HFT.out, show (x + 1).toNat = x.toNat + 1 by omega]; rfl
                    first | exact ⟨x + 1, by omega, by omega, rfl, HB.out, hrel9⟩ | ((repeat apply Exists.intro); exact ⟨⟨x + 1, by omega, by omega, rfl, HB.out, hrel9⟩, rfl⟩)
          · have hf : l5.all (thB a0 a1 l2.length l3.length l4.length) = true := by rw [HE.out, show x.toNat = l5.length by omega, List.drop_length]; rfl
            have HF6 := Lib.hid hf
            clear hf HE
            go_wp2_with fail
            go_ret
            exact ⟨by rw [HSB.out, HOK0.out, Bool.true_and, HOK1.out, Bool.true_and, HOK2.out, Bool.true_and, HF6.out]; rfl, below_step HBW.out HB.out⟩
end Go.Proofs.Ytlfhdjodcfifpaa.PFnExactSyncOK
