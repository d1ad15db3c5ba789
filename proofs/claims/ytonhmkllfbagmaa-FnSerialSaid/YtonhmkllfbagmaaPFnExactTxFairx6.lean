-- Written by a program of this session (wip/print2.sh) out of the translation.
import Derived.Test.YtonhmkllfbagmaaPFnExactTxFairx0
namespace Go.Proofs.Ytonhmkllfbagmaa.PFnExactTxFair
open Go.RowKit Go.Proofs.YtonhmkllfbagmaaW.PrintWords Go.Proofs.YtonhmkllfbagmaaW.PrintLast Go.Proofs.YtonhmkllfbagmaaW.PrintMore
attribute [local go_sem] max2_int min2_int max_two min_two max_three min_three max_four min_four   -- for this text's walks alone
set_option linter.unusedVariables false
set_option linter.unusedSimpArgs false

/-! ### spec_l12Copy: function 35 -/
def spec_l12Copy.f (l0 : List Int) : Option (List Int) := (some (([] : List Int) : List Int)).bind fun y187 => (if y187.length + l0.length < 17592186044416 then (some (y187 ++ l0)) else (none))
set_option maxHeartbeats 8000000 in
set_option maxRecDepth 100000 in
theorem spec_l12Copy.calls (A0 : Option Addr) (c0 : Nat) (l0 : List Int) (r : List Int) (w : World) (hr0 : Kd.C (Kd.int .i64) w A0 l0.length l0) (hc0 : l0.length ≤ c0) (h : spec_l12Copy.f l0 = some r) :
    Calls Try.prog 35 #[.slice A0 l0.length c0] w fun e w' => ∃ v0_ : Value, e = .returned (v0_) ∧ Kd.R (Kd.int .i64) 3 w' w.heap.size (fun _ => True) v0_ r ∧ Below w.heap.size w w' := by
  have HR0 := Aside0.mk hr0
  have HC0 := Aside0.mk hc0
  clear hr0 hc0
  have HB := Aside0.mk (Below.refl w.heap.size w)
  have H : ((some (([] : List Int) : List Int)).bind fun y187 => (if y187.length + l0.length < 17592186044416 then (some (y187 ++ l0)) else (none))) = some r := h
  clear h
  obtain ⟨y187, hy187⟩ : ∃ y_ : List Int, y_ = (([] : List Int)) := ⟨_, rfl⟩
  replace H : (if y187.length + l0.length < 17592186044416 then (some (y187 ++ l0)) else (none)) = some r := by first | (rw [hy187]; with_reducible exact H) | (have H2_ := (Option.bind_some _ _).symm.trans H; rw [hy187]; with_reducible exact H2_) | (have H2_ := (Option.bind_some _ _).symm.trans H; with_reducible exact H2_) | with_reducible exact H | (rw [hy187]; exact H) | exact H
  have Ny187 := Aside0.mk hy187
  clear hy187
  by_cases c2 : y187.length + l0.length < 17592186044416
  · rw [if_pos c2] at H
    have LMc2 := Aside0.mk c2
    clear c2
    obtain ⟨y190, hy190⟩ : ∃ y_ : List Int, y_ = (y187 ++ l0) := ⟨_, rfl⟩
    replace H : (some y190) = some r := by first | (rw [hy190]; with_reducible exact H) | (have H2_ := (Option.bind_some _ _).symm.trans H; rw [hy190]; with_reducible exact H2_) | (have H2_ := (Option.bind_some _ _).symm.trans H; with_reducible exact H2_) | with_reducible exact H | (rw [hy190]; exact H) | exact H
    have Ny190 := Aside0.mk hy190
    clear hy190
    obtain rfl := Option.some.inj H
    go_enter Try.func35, Try.ntmps35
    go_wp2_with (first | ((with_reducible refine gate_dst (N := 3) rfl ?_); refine Kd.R_lit (Kd.int .i64) _ 3 ?hg (N := 3) ?hd (xs := ([] : List Int)) (inner := []) (ok := fun _ => True) (okp := fun _ => True) ?hr ?hp (fun _ hk => hk) trivial (Below.refl _ _) (Nat.le_refl _) (by simp) ?_; (case hd => rfl); (case hg => rfl); (case hr => first | (go_simp; done) | (go_simp; rfl)); (case hp => exact (Reps.none _ _)); intro v188 w3 ho4 hb hg_ hnew_; clear hg_ hnew_; (first | rw [← Ny187.out] at ho4 | (simp only [Int.reduceToNat] at ho4; rw [← Ny187.out] at ho4)); have n0_ := Aside0.mk (Kd.R_lower ho4 (below_size (by repeat (first | exact HB.out | apply below_alloc | apply pw_below_drewN | apply below_drew1)))); have n1_ := Aside0.mk (below_step (by repeat (first | exact HB.out | apply below_alloc | apply pw_below_drewN | apply below_drew1)) hb); clear HB; have HO189 := n0_; have HB := n1_; clear n0_ n1_; clear hb ho4) | ((with_reducible refine gate_builtin (b := .append) (xs := #[.tmp 3, .tmp 4]) rfl ?_); at_builtin; refine Kd.R_append_rows (Kd.int .i64) (w0 := w) w.heap.size rfl (.tmp 3) (.tmp 4) 22 3 (.int .i64 0) 8 rfl Try.underlying22 info3 rfl (by decide) (by omega) v188 y187 l0 _ _ _ (fun _ => True) (fun _ => False) rfl rfl ?aO ?aR (fun _ _ h => h) (fun _ h => h.elim) ?aF ?aB ?aS ?aL ?_; (case aR => repeat (first | exact (Kd.C_below HR0.out HB.out) | (with_reducible refine Kd.C_alloc ?_ _) | (with_reducible refine Kd.C_drewN ?_ _) | (with_reducible refine Kd.C_drew ?_))); (case aB => exact (by repeat (first | exact HB.out | apply below_alloc | apply pw_below_drewN | apply below_drew1))); (case aF => exact (fun _ _ => trivial)); (case aO => exact (by (with_reducible repeat (first | apply Kd.R_alloc | apply Kd.R_drewN | apply Kd.R_drew)); exact HO189.out)); (case aS => exact (below_size (by repeat (first | exact HB.out | apply below_alloc | apply pw_below_drewN | apply below_drew1)))); (case aL => have := LMc2.out; omega); intro v191 w5 ho hb hg hat; rw [← Ny190.out] at ho; have n0_ := Aside0.mk (hb); have n1_ := Aside0.mk (ho); clear HB; clear HO189; have HB := n0_; have HO192 := n1_; clear n0_ n1_; clear ho hb hg hat))
    go_ret
    exact ⟨_, by first | rfl | (simp <;> rfl) | (simp [*] <;> rfl), by (with_reducible repeat (first | apply Kd.R_alloc | apply Kd.R_drewN | apply Kd.R_drew)); exact HO192.out, by repeat (first | exact HB.out | apply below_alloc | apply pw_below_drewN | apply below_drew1)⟩
  · rw [if_neg c2] at H
    exact absurd H (by simp)

-- NOT PRINTED: function 38 (spec_l19Begin)

/-- A state of type 73 at block g of W; what its slices lead to came in by w0. -/
def IsS73 (w0 W : World) (g : Nat) (f0 : List Int) (f1 : Int) (f2 : List (List (List (S63)))) (f3 : List Int) (f4 : List Int) (f5 : List Int) (f6 : List (S90)) (f7 : Int) (f8 : Int) (f9 : Int) (f10 : List (S53)) (f11 : List Int) (f12 : List Int) : Prop := ∃ A0 c0, ∃ A2 c2, ∃ A3 c3, ∃ A4 c4, ∃ A5 c5, ∃ A6 c6, ∃ A10 c10, ∃ A11 c11, ∃ A12 c12, W.heap[g]? = some (.cells #[.slice A0 f0.length c0, .int .i64 f1, .slice A2 f2.length c2, .slice A3 f3.length c3, .slice A4 f4.length c4, .slice A5 f5.length c5, .slice A6 f6.length c6, .int .i64 f7, .int .i64 f8, .int .i64 f9, .slice A10 f10.length c10, .slice A11 f11.length c11, .slice A12 f12.length c12] 73 (0, 0)) ∧ w0.heap.size ≤ g ∧ Kd.C (Kd.int .i64) w0 A0 f0.length f0 ∧ Kd.C (Kd.slice 61 (Kd.slice 63 k63)) w0 A2 f2.length f2 ∧ Kd.C (Kd.int .i64) w0 A3 f3.length f3 ∧ Kd.C (Kd.int .i64) w0 A4 f4.length f4 ∧ Kd.C (Kd.int .i64) w0 A5 f5.length f5 ∧ Kd.C k90 w0 A6 f6.length f6 ∧ Kd.C k53 w0 A10 f10.length f10 ∧ Kd.C (Kd.int .i64) w0 A11 f11.length f11 ∧ Kd.C (Kd.int .i64) w0 A12 f12.length f12
theorem IsS73.grown {w0 W : World} {g : Nat} {f0 : List Int} {f1 : Int} {f2 : List (List (List (S63)))} {f3 : List Int} {f4 : List Int} {f5 : List Int} {f6 : List (S90)} {f7 : Int} {f8 : Int} {f9 : Int} {f10 : List (S53)} {f11 : List Int} {f12 : List Int} {W1 : World} {row : Option Nat} (h : IsS73 w0 W g f0 f1 f2 f3 f4 f5 f6 f7 f8 f9 f10 f11 f12) (hw : W.grownBy W1 row) (hne : some g ≠ row) : IsS73 w0 W1 g f0 f1 f2 f3 f4 f5 f6 f7 f8 f9 f10 f11 f12 := by
  obtain ⟨A0, c0, A2, c2, A3, c3, A4, c4, A5, c5, A6, c6, A10, c10, A11, c11, A12, c12, hb, hg, hr0, hr2, hr3, hr4, hr5, hr6, hr10, hr11, hr12⟩ := h
  exact ⟨A0, c0, A2, c2, A3, c3, A4, c4, A5, c5, A6, c6, A10, c10, A11, c11, A12, c12, blk_grown hb hw hne, hg, hr0, hr2, hr3, hr4, hr5, hr6, hr10, hr11, hr12⟩
theorem IsS73.fresh {w0 W : World} {g : Nat} {f0 : List Int} {f1 : Int} {f2 : List (List (List (S63)))} {f3 : List Int} {f4 : List Int} {f5 : List Int} {f6 : List (S90)} {f7 : Int} {f8 : Int} {f9 : Int} {f10 : List (S53)} {f11 : List Int} {f12 : List Int} (h : IsS73 w0 W g f0 f1 f2 f3 f4 f5 f6 f7 f8 f9 f10 f11 f12) : ∀ k, W.heap.size ≤ k → k ≠ g := by
  obtain ⟨A0, c0, A2, c2, A3, c3, A4, c4, A5, c5, A6, c6, A10, c10, A11, c11, A12, c12, hb, hg, hr0, hr2, hr3, hr4, hr5, hr6, hr10, hr11, hr12⟩ := h
  exact Kd.freshB hb
theorem IsS73.kept {w0 W : World} {g : Nat} {f0 : List Int} {f1 : Int} {f2 : List (List (List (S63)))} {f3 : List Int} {f4 : List Int} {f5 : List Int} {f6 : List (S90)} {f7 : Int} {f8 : Int} {f9 : Int} {f10 : List (S53)} {f11 : List Int} {f12 : List Int} {W1 : World} {S : Nat → Prop} (h : IsS73 w0 W g f0 f1 f2 f3 f4 f5 f6 f7 f8 f9 f10 f11 f12) (hk : Kept W W1 S) (hne : ¬ S g) : IsS73 w0 W1 g f0 f1 f2 f3 f4 f5 f6 f7 f8 f9 f10 f11 f12 := by
  obtain ⟨A0, c0, A2, c2, A3, c3, A4, c4, A5, c5, A6, c6, A10, c10, A11, c11, A12, c12, hb, hg, hr0, hr2, hr3, hr4, hr5, hr6, hr10, hr11, hr12⟩ := h
  exact ⟨A0, c0, A2, c2, A3, c3, A4, c4, A5, c5, A6, c6, A10, c10, A11, c11, A12, c12, blk_kept hb hk hne, hg, hr0, hr2, hr3, hr4, hr5, hr6, hr10, hr11, hr12⟩
theorem IsS73.below {w0 W : World} {g : Nat} {f0 : List Int} {f1 : Int} {f2 : List (List (List (S63)))} {f3 : List Int} {f4 : List Int} {f5 : List Int} {f6 : List (S90)} {f7 : Int} {f8 : Int} {f9 : Int} {f10 : List (S53)} {f11 : List Int} {f12 : List Int} {W1 : World} (h : IsS73 w0 W g f0 f1 f2 f3 f4 f5 f6 f7 f8 f9 f10 f11 f12) (hw : Below W.heap.size W W1) : IsS73 w0 W1 g f0 f1 f2 f3 f4 f5 f6 f7 f8 f9 f10 f11 f12 := h.grown (grown_of_below hw none) (by simp)
theorem IsS73.alloc {w0 W : World} {g : Nat} {f0 : List Int} {f1 : Int} {f2 : List (List (List (S63)))} {f3 : List Int} {f4 : List Int} {f5 : List Int} {f6 : List (S90)} {f7 : Int} {f8 : Int} {f9 : Int} {f10 : List (S53)} {f11 : List Int} {f12 : List Int} (h : IsS73 w0 W g f0 f1 f2 f3 f4 f5 f6 f7 f8 f9 f10 f11 f12) (o : Obj) : IsS73 w0 (W.alloc o) g f0 f1 f2 f3 f4 f5 f6 f7 f8 f9 f10 f11 f12 := h.below (below_alloc (Below.refl _ _) o)
theorem IsS73.drewN {w0 W : World} {g : Nat} {f0 : List Int} {f1 : Int} {f2 : List (List (List (S63)))} {f3 : List Int} {f4 : List Int} {f5 : List Int} {f6 : List (S90)} {f7 : Int} {f8 : Int} {f9 : Int} {f10 : List (S53)} {f11 : List Int} {f12 : List Int} (h : IsS73 w0 W g f0 f1 f2 f3 f4 f5 f6 f7 f8 f9 f10 f11 f12) (m : Nat) : IsS73 w0 (W.drewN m) g f0 f1 f2 f3 f4 f5 f6 f7 f8 f9 f10 f11 f12 := h
theorem IsS73.drew {w0 W : World} {g : Nat} {f0 : List Int} {f1 : Int} {f2 : List (List (List (S63)))} {f3 : List Int} {f4 : List Int} {f5 : List Int} {f6 : List (S90)} {f7 : Int} {f8 : Int} {f9 : Int} {f10 : List (S53)} {f11 : List Int} {f12 : List Int} (h : IsS73 w0 W g f0 f1 f2 f3 f4 f5 f6 f7 f8 f9 f10 f11 f12) : IsS73 w0 W.drew g f0 f1 f2 f3 f4 f5 f6 f7 f8 f9 f10 f11 f12 := h
theorem IsS73.at_ {w0 W : World} {g : Nat} {f0 : List Int} {f1 : Int} {f2 : List (List (List (S63)))} {f3 : List Int} {f4 : List Int} {f5 : List Int} {f6 : List (S90)} {f7 : Int} {f8 : Int} {f9 : Int} {f10 : List (S53)} {f11 : List Int} {f12 : List Int} {w' : World} {m : Nat} (hq : W.drewN m = w') (h : IsS73 w0 W g f0 f1 f2 f3 f4 f5 f6 f7 f8 f9 f10 f11 f12) : IsS73 w0 w' g f0 f1 f2 f3 f4 f5 f6 f7 f8 f9 f10 f11 f12 := by subst hq; exact IsS73.drewN h m
theorem IsS73.lt {w0 W : World} {g : Nat} {f0 : List Int} {f1 : Int} {f2 : List (List (List (S63)))} {f3 : List Int} {f4 : List Int} {f5 : List Int} {f6 : List (S90)} {f7 : Int} {f8 : Int} {f9 : Int} {f10 : List (S53)} {f11 : List Int} {f12 : List Int} (h : IsS73 w0 W g f0 f1 f2 f3 f4 f5 f6 f7 f8 f9 f10 f11 f12) : g < W.heap.size := by
  obtain ⟨A0, c0, A2, c2, A3, c3, A4, c4, A5, c5, A6, c6, A10, c10, A11, c11, A12, c12, hb, hg, hr0, hr2, hr3, hr4, hr5, hr6, hr10, hr11, hr12⟩ := h
  exact blk_lt hb
theorem IsS73.ge {w0 W : World} {g : Nat} {f0 : List Int} {f1 : Int} {f2 : List (List (List (S63)))} {f3 : List Int} {f4 : List Int} {f5 : List Int} {f6 : List (S90)} {f7 : Int} {f8 : Int} {f9 : Int} {f10 : List (S53)} {f11 : List Int} {f12 : List Int} (h : IsS73 w0 W g f0 f1 f2 f3 f4 f5 f6 f7 f8 f9 f10 f11 f12) : w0.heap.size ≤ g := by
  obtain ⟨A0, c0, A2, c2, A3, c3, A4, c4, A5, c5, A6, c6, A10, c10, A11, c11, A12, c12, hb, hg, hr0, hr2, hr3, hr4, hr5, hr6, hr10, hr11, hr12⟩ := h
  exact hg
theorem IsS73.far {w0 W : World} {g : Nat} {f0 : List Int} {f1 : Int} {f2 : List (List (List (S63)))} {f3 : List Int} {f4 : List Int} {f5 : List Int} {f6 : List (S90)} {f7 : Int} {f8 : Int} {f9 : Int} {f10 : List (S53)} {f11 : List Int} {f12 : List Int} {p : Addr} (h : IsS73 w0 W g f0 f1 f2 f3 f4 f5 f6 f7 f8 f9 f10 f11 f12) (hne : g ≠ p.block) (u : Value) : IsS73 w0 (W.setCell p u) g f0 f1 f2 f3 f4 f5 f6 f7 f8 f9 f10 f11 f12 := by
  obtain ⟨A0, c0, A2, c2, A3, c3, A4, c4, A5, c5, A6, c6, A10, c10, A11, c11, A12, c12, hb, hg, hr0, hr2, hr3, hr4, hr5, hr6, hr10, hr11, hr12⟩ := h
  exact ⟨A0, c0, A2, c2, A3, c3, A4, c4, A5, c5, A6, c6, A10, c10, A11, c11, A12, c12, blk_far hb hne u, hg, hr0, hr2, hr3, hr4, hr5, hr6, hr10, hr11, hr12⟩
theorem IsS73.new (w0 W : World) (A0 : Option Addr) (c0 : Nat) (A2 : Option Addr) (c2 : Nat) (A3 : Option Addr) (c3 : Nat) (A4 : Option Addr) (c4 : Nat) (A5 : Option Addr) (c5 : Nat) (A6 : Option Addr) (c6 : Nat) (A10 : Option Addr) (c10 : Nat) (A11 : Option Addr) (c11 : Nat) (A12 : Option Addr) (c12 : Nat) (f0 : List Int) (f1 : Int) (f2 : List (List (List (S63)))) (f3 : List Int) (f4 : List Int) (f5 : List Int) (f6 : List (S90)) (f7 : Int) (f8 : Int) (f9 : Int) (f10 : List (S53)) (f11 : List Int) (f12 : List Int) (hB : Below w0.heap.size w0 W) (hr0 : Kd.C (Kd.int .i64) w0 A0 f0.length f0) (hr2 : Kd.C (Kd.slice 61 (Kd.slice 63 k63)) w0 A2 f2.length f2) (hr3 : Kd.C (Kd.int .i64) w0 A3 f3.length f3) (hr4 : Kd.C (Kd.int .i64) w0 A4 f4.length f4) (hr5 : Kd.C (Kd.int .i64) w0 A5 f5.length f5) (hr6 : Kd.C k90 w0 A6 f6.length f6) (hr10 : Kd.C k53 w0 A10 f10.length f10) (hr11 : Kd.C (Kd.int .i64) w0 A11 f11.length f11) (hr12 : Kd.C (Kd.int .i64) w0 A12 f12.length f12) : IsS73 w0 (W.alloc (.cells #[.slice A0 f0.length c0, .int .i64 f1, .slice A2 f2.length c2, .slice A3 f3.length c3, .slice A4 f4.length c4, .slice A5 f5.length c5, .slice A6 f6.length c6, .int .i64 f7, .int .i64 f8, .int .i64 f9, .slice A10 f10.length c10, .slice A11 f11.length c11, .slice A12 f12.length c12] 73)) W.heap.size f0 f1 f2 f3 f4 f5 f6 f7 f8 f9 f10 f11 f12 := ⟨A0, c0, A2, c2, A3, c3, A4, c4, A5, c5, A6, c6, A10, c10, A11, c11, A12, c12, by simpa using heap_alloc_new W _, hB.size, hr0, hr2, hr3, hr4, hr5, hr6, hr10, hr11, hr12⟩

/-! ### spec_l19Run_may: function 39 -/
-- NOT PRINTED: function 56 (spec_l19Run_begin)

-- NOT PRINTED: function 61 (spec_l19Run_event)

-- NOT PRINTED: function 74 (spec_l19Run_free)

-- NOT PRINTED: function 57 (spec_l19Run_giveUp)

-- NOT PRINTED: function 58 (spec_l19Run_commit)

-- NOT PRINTED: function 59 (spec_l19Run_own)

-- NOT PRINTED: function 60 (spec_l19Run_see)

-- NOT PRINTED: function 40 (spec_l19Run_step)

-- NOT PRINTED: function 41 (spec_l19Run_plain)

-- NOT PRINTED: function 20 (spec_TxFair)

end Go.Proofs.Ytonhmkllfbagmaa.PFnExactTxFair
