/- What impl.Apart answers: its ways, one a theorem. -/
import Derived.Test.YthkngfieabdelaaSFnExactApart
import Derived.Lib.Hide
namespace Go.Proofs.Ythkngfieabdelaa.PFnExactApart
open Go.RowKit Go.Proofs.YthkngfieabdelaaW.PrintWords Go.Proofs.YthkngfieabdelaaW.PrintLast Go.Proofs.YthkngfieabdelaaW.PrintMore
set_option linter.unusedSimpArgs false
set_option linter.unusedVariables false

def apB (a0 a1 a7 b0 b1 b7 : Int) : Bool := onM a0 && onM b0 && !(seqB a0 a7 && seqB b0 b7) && (fenB a0 || fenB b0 || a1 != b1 || rdB a0 && rdB b0)

theorem cells_start (A B F : Array Value) (w : World) : ∃ W, W = ((w.alloc (.cells A 31)).alloc (.cells B 31)).alloc (.cells F 73) ∧ W.heap.size = w.heap.size + 1 + 1 + 1 ∧ Below w.heap.size w W ∧
    (∀ o, W.cell? ⟨w.heap.size, o, none⟩ = A[o]?) ∧ (∀ o, W.cell? ⟨w.heap.size + 1, o, none⟩ = B[o]?) ∧ (∀ o, W.cell? ⟨w.heap.size + 1 + 1, o, none⟩ = F[o]?) := by
  refine ⟨_, rfl, by simp, (((Below.refl _ w).alloc (Nat.le_refl _) _).alloc (by simp) _).alloc (by simp; omega) _, ?_, ?_, ?_⟩
  · intro o
    refine cell_of_row _ _ o A 31 (0, 0) ?_
    rw [Below.heap_alloc _ _ _ (by simp; omega), Below.heap_alloc _ _ _ (by simp)]
    exact heap_alloc_new w _
  · intro o
    refine cell_of_row _ _ o B 31 (0, 0) ?_
    rw [Below.heap_alloc _ _ _ (by simp)]
    have h := heap_alloc_new (w.alloc (.cells A 31)) (.cells B 31)
    simpa using h
  · intro o
    refine cell_of_row _ _ o F 73 (0, 0) ?_
    have h := heap_alloc_new ((w.alloc (.cells A 31)).alloc (.cells B 31)) (.cells F 73)
    simpa using h
theorem keep3 {W w1 : World} {n : Nat} {A B F : Array Value} (hb : Below W.heap.size W w1) (hs : n + 1 + 1 < W.heap.size) (h : (∀ o, W.cell? ⟨n, o, none⟩ = A[o]?) ∧ (∀ o, W.cell? ⟨n + 1, o, none⟩ = B[o]?) ∧ (∀ o, W.cell? ⟨n + 1 + 1, o, none⟩ = F[o]?)) :
    n + 1 + 1 < w1.heap.size ∧ (∀ o, w1.cell? ⟨n, o, none⟩ = A[o]?) ∧ (∀ o, w1.cell? ⟨n + 1, o, none⟩ = B[o]?) ∧ (∀ o, w1.cell? ⟨n + 1 + 1, o, none⟩ = F[o]?) :=
  ⟨by have := hb.size; omega, fun o => (hb.cell (p := ⟨n, o, none⟩) (show n < _ by omega)).trans (h.1 o), fun o => (hb.cell (p := ⟨n + 1, o, none⟩) (show n + 1 < _ by omega)).trans (h.2.1 o), fun o => (hb.cell (p := ⟨n + 1 + 1, o, none⟩) hs).trans (h.2.2 o)⟩

set_option maxHeartbeats 1000000 in
theorem ap_0 (a0 a1 a2 a3 a4 a5 a6 a7 a8 a9 b0 b1 b2 b3 b4 b5 b6 b7 b8 b9 : Int) (w : World) (oA : onM a0 = false) :
    Calls Try.prog 17 #[.agg #[.int .i64 a0, .int .i64 a1, .int .i64 a2, .int .i64 a3, .int .i64 a4, .int .i64 a5, .int .i64 a6, .int .i64 a7, .int .i64 a8, .int .i64 a9], .agg #[.int .i64 b0, .int .i64 b1, .int .i64 b2, .int .i64 b3, .int .i64 b4, .int .i64 b5, .int .i64 b6, .int .i64 b7, .int .i64 b8, .int .i64 b9]] w
    fun e w' => e = .returned (.bool (apB a0 a1 a7 b0 b1 b7)) ∧ Below w.heap.size w w' := by
  have hmf : ∀ (fn : Fn) (first cap : Array Value) (w : World), (Instr.makeFunc fn first cap).run Try.prog w = .ok (.func fn first cap) w := fun _ _ _ _ => rfl
  go_enter Try.func17, Try.ntmps17
  go_wp2_with (go_at_call 52; refine (c52 _ _).mono ?_; rintro e w' ⟨rfl, rfl⟩)
  go_ret
  exact ⟨by simp [apB, oA], ((Below.refl _ w).alloc (Nat.le_refl _) _).alloc (by simp) _⟩

set_option maxHeartbeats 1000000 in
theorem ap_1 (a0 a1 a2 a3 a4 a5 a6 a7 a8 a9 b0 b1 b2 b3 b4 b5 b6 b7 b8 b9 : Int) (w : World) (oA : onM a0 = true) (oB : onM b0 = false) :
    Calls Try.prog 17 #[.agg #[.int .i64 a0, .int .i64 a1, .int .i64 a2, .int .i64 a3, .int .i64 a4, .int .i64 a5, .int .i64 a6, .int .i64 a7, .int .i64 a8, .int .i64 a9], .agg #[.int .i64 b0, .int .i64 b1, .int .i64 b2, .int .i64 b3, .int .i64 b4, .int .i64 b5, .int .i64 b6, .int .i64 b7, .int .i64 b8, .int .i64 b9]] w
    fun e w' => e = .returned (.bool (apB a0 a1 a7 b0 b1 b7)) ∧ Below w.heap.size w w' := by
  have hmf : ∀ (fn : Fn) (first cap : Array Value) (w : World), (Instr.makeFunc fn first cap).run Try.prog w = .ok (.func fn first cap) w := fun _ _ _ _ => rfl
  go_enter Try.func17, Try.ntmps17
  go_wp2_with (go_at_call 52; refine (c52 _ _).mono ?_; rintro e w' ⟨rfl, rfl⟩)
  go_ret
  exact ⟨by simp [apB, oA, oB], ((Below.refl _ w).alloc (Nat.le_refl _) _).alloc (by simp) _⟩

set_option maxHeartbeats 1000000 in
theorem ap_2 (a0 a1 a2 a3 a4 a5 a6 a7 a8 a9 b0 b1 b2 b3 b4 b5 b6 b7 b8 b9 : Int) (w : World) (oA : onM a0 = true) (oB : onM b0 = true) (sA : seqB a0 a7 = true) (sB : seqB b0 b7 = true) :
    Calls Try.prog 17 #[.agg #[.int .i64 a0, .int .i64 a1, .int .i64 a2, .int .i64 a3, .int .i64 a4, .int .i64 a5, .int .i64 a6, .int .i64 a7, .int .i64 a8, .int .i64 a9], .agg #[.int .i64 b0, .int .i64 b1, .int .i64 b2, .int .i64 b3, .int .i64 b4, .int .i64 b5, .int .i64 b6, .int .i64 b7, .int .i64 b8, .int .i64 b9]] w
    fun e w' => e = .returned (.bool (apB a0 a1 a7 b0 b1 b7)) ∧ Below w.heap.size w w' := by
  have hmf : ∀ (fn : Fn) (first cap : Array Value) (w : World), (Instr.makeFunc fn first cap).run Try.prog w = .ok (.func fn first cap) w := fun _ _ _ _ => rfl
  have hval : apB a0 a1 a7 b0 b1 b7 = false := by simp [apB, oA, oB, sA, sB]
  rw [hval]; clear hval
  obtain ⟨W0, hW0, hs0, hbel, hcA, hcB, hcF⟩ := cells_start #[.int .i64 a0, .int .i64 a1, .int .i64 a2, .int .i64 a3, .int .i64 a4, .int .i64 a5, .int .i64 a6, .int .i64 a7, .int .i64 a8, .int .i64 a9] #[.int .i64 b0, .int .i64 b1, .int .i64 b2, .int .i64 b3, .int .i64 b4, .int .i64 b5, .int .i64 b6, .int .i64 b7, .int .i64 b8, .int .i64 b9] #[.func (.func 53) #[] #[]] w
  have H0 := Lib.hid hW0; clear hW0
  have HB := Lib.hid hbel; clear hbel
  have hz0 : w.heap.size + 1 + 1 < W0.heap.size := by omega
  clear hs0
  have HC0 := Lib.hid (And.intro hcA (And.intro hcB hcF)); clear hcA hcB hcF
  go_enter Try.func17, Try.ntmps17
  go_wp2_with (go_at_call 52; refine (c52 _ _).mono ?_; rintro e w' ⟨rfl, rfl⟩)
  rw [← H0.out]; clear H0
  refine (c54 _ _ _ _ _ _ _ _ _ _ (w.heap.size + 1 + 1) W0 hz0 (HC0.out.2.2 0)).mono ?_
  rintro e W1 ⟨rfl, hb1⟩
  have kk := keep3 hb1 hz0 HC0.out
  have hz1 := kk.1
  have HC1 := Lib.hid kk.2; clear kk
  have HB1 := Lib.hid (Below.trans HB.out (hb1.mono (by omega))); clear hb1 HC0 hz0
  obtain ⟨kA, kB, kF⟩ := HC1.out
  go_wp2_with fail
  clear kA kB kF
  refine (c54 _ _ _ _ _ _ _ _ _ _ (w.heap.size + 1 + 1) W1 hz1 (HC1.out.2.2 0)).mono ?_
  rintro e W2 ⟨rfl, hb2⟩
  have kk := keep3 hb2 hz1 HC1.out
  have hz2 := kk.1
  have HC2 := Lib.hid kk.2; clear kk
  have HB2 := Lib.hid (Below.trans HB1.out (hb2.mono (by omega))); clear hb2 HC1 hz1
  obtain ⟨kA, kB, kF⟩ := HC2.out
  go_wp2_with fail
  go_ret
  exact ⟨rfl, HB2.out⟩

set_option maxHeartbeats 1000000 in
theorem ap_3 (a0 a1 a2 a3 a4 a5 a6 a7 a8 a9 b0 b1 b2 b3 b4 b5 b6 b7 b8 b9 : Int) (w : World) (oA : onM a0 = true) (oB : onM b0 = true) (sA : seqB a0 a7 = false) (fA : fenB a0 = true) :
    Calls Try.prog 17 #[.agg #[.int .i64 a0, .int .i64 a1, .int .i64 a2, .int .i64 a3, .int .i64 a4, .int .i64 a5, .int .i64 a6, .int .i64 a7, .int .i64 a8, .int .i64 a9], .agg #[.int .i64 b0, .int .i64 b1, .int .i64 b2, .int .i64 b3, .int .i64 b4, .int .i64 b5, .int .i64 b6, .int .i64 b7, .int .i64 b8, .int .i64 b9]] w
    fun e w' => e = .returned (.bool (apB a0 a1 a7 b0 b1 b7)) ∧ Below w.heap.size w w' := by
  have hmf : ∀ (fn : Fn) (first cap : Array Value) (w : World), (Instr.makeFunc fn first cap).run Try.prog w = .ok (.func fn first cap) w := fun _ _ _ _ => rfl
  have hval : apB a0 a1 a7 b0 b1 b7 = true := by simp [apB, oA, oB, sA, fA]
  rw [hval]; clear hval
  obtain ⟨W0, hW0, hs0, hbel, hcA, hcB, hcF⟩ := cells_start #[.int .i64 a0, .int .i64 a1, .int .i64 a2, .int .i64 a3, .int .i64 a4, .int .i64 a5, .int .i64 a6, .int .i64 a7, .int .i64 a8, .int .i64 a9] #[.int .i64 b0, .int .i64 b1, .int .i64 b2, .int .i64 b3, .int .i64 b4, .int .i64 b5, .int .i64 b6, .int .i64 b7, .int .i64 b8, .int .i64 b9] #[.func (.func 53) #[] #[]] w
  have H0 := Lib.hid hW0; clear hW0
  have HB := Lib.hid hbel; clear hbel
  have hz0 : w.heap.size + 1 + 1 < W0.heap.size := by omega
  clear hs0
  have HC0 := Lib.hid (And.intro hcA (And.intro hcB hcF)); clear hcA hcB hcF
  go_enter Try.func17, Try.ntmps17
  go_wp2_with (go_at_call 52; refine (c52 _ _).mono ?_; rintro e w' ⟨rfl, rfl⟩)
  rw [← H0.out]; clear H0
  refine (c54 _ _ _ _ _ _ _ _ _ _ (w.heap.size + 1 + 1) W0 hz0 (HC0.out.2.2 0)).mono ?_
  rintro e W1 ⟨rfl, hb1⟩
  have kk := keep3 hb1 hz0 HC0.out
  have hz1 := kk.1
  have HC1 := Lib.hid kk.2; clear kk
  have HB1 := Lib.hid (Below.trans HB.out (hb1.mono (by omega))); clear hb1 HC0 hz0
  obtain ⟨kA, kB, kF⟩ := HC1.out
  go_wp2_with fail
  clear kA kB kF
  refine (c53 _ _ _ _ _ _ _ _ _ _ W1).mono ?_
  rintro e W2 ⟨rfl, hb2⟩
  have kk := keep3 hb2 hz1 HC1.out
  have hz2 := kk.1
  have HC2 := Lib.hid kk.2; clear kk
  have HB2 := Lib.hid (Below.trans HB1.out (hb2.mono (by omega))); clear hb2 HC1 hz1
  obtain ⟨kA, kB, kF⟩ := HC2.out
  go_wp2_with fail
  go_ret
  exact ⟨rfl, HB2.out⟩

set_option maxHeartbeats 1000000 in
theorem ap_4 (a0 a1 a2 a3 a4 a5 a6 a7 a8 a9 b0 b1 b2 b3 b4 b5 b6 b7 b8 b9 : Int) (w : World) (oA : onM a0 = true) (oB : onM b0 = true) (sA : seqB a0 a7 = false) (fA : fenB a0 = false) (fB : fenB b0 = true) :
    Calls Try.prog 17 #[.agg #[.int .i64 a0, .int .i64 a1, .int .i64 a2, .int .i64 a3, .int .i64 a4, .int .i64 a5, .int .i64 a6, .int .i64 a7, .int .i64 a8, .int .i64 a9], .agg #[.int .i64 b0, .int .i64 b1, .int .i64 b2, .int .i64 b3, .int .i64 b4, .int .i64 b5, .int .i64 b6, .int .i64 b7, .int .i64 b8, .int .i64 b9]] w
    fun e w' => e = .returned (.bool (apB a0 a1 a7 b0 b1 b7)) ∧ Below w.heap.size w w' := by
  have hmf : ∀ (fn : Fn) (first cap : Array Value) (w : World), (Instr.makeFunc fn first cap).run Try.prog w = .ok (.func fn first cap) w := fun _ _ _ _ => rfl
  have hval : apB a0 a1 a7 b0 b1 b7 = true := by simp [apB, oA, oB, sA, fA, fB]
  rw [hval]; clear hval
  obtain ⟨W0, hW0, hs0, hbel, hcA, hcB, hcF⟩ := cells_start #[.int .i64 a0, .int .i64 a1, .int .i64 a2, .int .i64 a3, .int .i64 a4, .int .i64 a5, .int .i64 a6, .int .i64 a7, .int .i64 a8, .int .i64 a9] #[.int .i64 b0, .int .i64 b1, .int .i64 b2, .int .i64 b3, .int .i64 b4, .int .i64 b5, .int .i64 b6, .int .i64 b7, .int .i64 b8, .int .i64 b9] #[.func (.func 53) #[] #[]] w
  have H0 := Lib.hid hW0; clear hW0
  have HB := Lib.hid hbel; clear hbel
  have hz0 : w.heap.size + 1 + 1 < W0.heap.size := by omega
  clear hs0
  have HC0 := Lib.hid (And.intro hcA (And.intro hcB hcF)); clear hcA hcB hcF
  go_enter Try.func17, Try.ntmps17
  go_wp2_with (go_at_call 52; refine (c52 _ _).mono ?_; rintro e w' ⟨rfl, rfl⟩)
  rw [← H0.out]; clear H0
  refine (c54 _ _ _ _ _ _ _ _ _ _ (w.heap.size + 1 + 1) W0 hz0 (HC0.out.2.2 0)).mono ?_
  rintro e W1 ⟨rfl, hb1⟩
  have kk := keep3 hb1 hz0 HC0.out
  have hz1 := kk.1
  have HC1 := Lib.hid kk.2; clear kk
  have HB1 := Lib.hid (Below.trans HB.out (hb1.mono (by omega))); clear hb1 HC0 hz0
  obtain ⟨kA, kB, kF⟩ := HC1.out
  go_wp2_with fail
  clear kA kB kF
  refine (c53 _ _ _ _ _ _ _ _ _ _ W1).mono ?_
  rintro e W2 ⟨rfl, hb2⟩
  have kk := keep3 hb2 hz1 HC1.out
  have hz2 := kk.1
  have HC2 := Lib.hid kk.2; clear kk
  have HB2 := Lib.hid (Below.trans HB1.out (hb2.mono (by omega))); clear hb2 HC1 hz1
  obtain ⟨kA, kB, kF⟩ := HC2.out
  go_wp2_with fail
  clear kA kB kF
  refine (c53 _ _ _ _ _ _ _ _ _ _ W2).mono ?_
  rintro e W3 ⟨rfl, hb3⟩
  have kk := keep3 hb3 hz2 HC2.out
  have hz3 := kk.1
  have HC3 := Lib.hid kk.2; clear kk
  have HB3 := Lib.hid (Below.trans HB2.out (hb3.mono (by omega))); clear hb3 HC2 hz2
  obtain ⟨kA, kB, kF⟩ := HC3.out
  go_wp2_with fail
  go_ret
  exact ⟨rfl, HB3.out⟩

set_option maxHeartbeats 1000000 in
theorem ap_5 (a0 a1 a2 a3 a4 a5 a6 a7 a8 a9 b0 b1 b2 b3 b4 b5 b6 b7 b8 b9 : Int) (w : World) (oA : onM a0 = true) (oB : onM b0 = true) (sA : seqB a0 a7 = false) (fA : fenB a0 = false) (fB : fenB b0 = false) (ne : (a1 != b1) = true) :
    Calls Try.prog 17 #[.agg #[.int .i64 a0, .int .i64 a1, .int .i64 a2, .int .i64 a3, .int .i64 a4, .int .i64 a5, .int .i64 a6, .int .i64 a7, .int .i64 a8, .int .i64 a9], .agg #[.int .i64 b0, .int .i64 b1, .int .i64 b2, .int .i64 b3, .int .i64 b4, .int .i64 b5, .int .i64 b6, .int .i64 b7, .int .i64 b8, .int .i64 b9]] w
    fun e w' => e = .returned (.bool (apB a0 a1 a7 b0 b1 b7)) ∧ Below w.heap.size w w' := by
  have hmf : ∀ (fn : Fn) (first cap : Array Value) (w : World), (Instr.makeFunc fn first cap).run Try.prog w = .ok (.func fn first cap) w := fun _ _ _ _ => rfl
  have hval : apB a0 a1 a7 b0 b1 b7 = true := by simp [apB, oA, oB, sA, fA, fB, ne]
  rw [hval]; clear hval
  obtain ⟨W0, hW0, hs0, hbel, hcA, hcB, hcF⟩ := cells_start #[.int .i64 a0, .int .i64 a1, .int .i64 a2, .int .i64 a3, .int .i64 a4, .int .i64 a5, .int .i64 a6, .int .i64 a7, .int .i64 a8, .int .i64 a9] #[.int .i64 b0, .int .i64 b1, .int .i64 b2, .int .i64 b3, .int .i64 b4, .int .i64 b5, .int .i64 b6, .int .i64 b7, .int .i64 b8, .int .i64 b9] #[.func (.func 53) #[] #[]] w
  have H0 := Lib.hid hW0; clear hW0
  have HB := Lib.hid hbel; clear hbel
  have hz0 : w.heap.size + 1 + 1 < W0.heap.size := by omega
  clear hs0
  have HC0 := Lib.hid (And.intro hcA (And.intro hcB hcF)); clear hcA hcB hcF
  go_enter Try.func17, Try.ntmps17
  go_wp2_with (go_at_call 52; refine (c52 _ _).mono ?_; rintro e w' ⟨rfl, rfl⟩)
  rw [← H0.out]; clear H0
  refine (c54 _ _ _ _ _ _ _ _ _ _ (w.heap.size + 1 + 1) W0 hz0 (HC0.out.2.2 0)).mono ?_
  rintro e W1 ⟨rfl, hb1⟩
  have kk := keep3 hb1 hz0 HC0.out
  have hz1 := kk.1
  have HC1 := Lib.hid kk.2; clear kk
  have HB1 := Lib.hid (Below.trans HB.out (hb1.mono (by omega))); clear hb1 HC0 hz0
  obtain ⟨kA, kB, kF⟩ := HC1.out
  go_wp2_with fail
  clear kA kB kF
  refine (c53 _ _ _ _ _ _ _ _ _ _ W1).mono ?_
  rintro e W2 ⟨rfl, hb2⟩
  have kk := keep3 hb2 hz1 HC1.out
  have hz2 := kk.1
  have HC2 := Lib.hid kk.2; clear kk
  have HB2 := Lib.hid (Below.trans HB1.out (hb2.mono (by omega))); clear hb2 HC1 hz1
  obtain ⟨kA, kB, kF⟩ := HC2.out
  go_wp2_with fail
  clear kA kB kF
  refine (c53 _ _ _ _ _ _ _ _ _ _ W2).mono ?_
  rintro e W3 ⟨rfl, hb3⟩
  have kk := keep3 hb3 hz2 HC2.out
  have hz3 := kk.1
  have HC3 := Lib.hid kk.2; clear kk
  have HB3 := Lib.hid (Below.trans HB2.out (hb3.mono (by omega))); clear hb3 HC2 hz2
  obtain ⟨kA, kB, kF⟩ := HC3.out
  go_wp2_with fail
  go_ret
  exact ⟨rfl, HB3.out⟩

set_option maxHeartbeats 1000000 in
theorem ap_6 (a0 a1 a2 a3 a4 a5 a6 a7 a8 a9 b0 b1 b2 b3 b4 b5 b6 b7 b8 b9 : Int) (w : World) (oA : onM a0 = true) (oB : onM b0 = true) (sA : seqB a0 a7 = false) (fA : fenB a0 = false) (fB : fenB b0 = false) (ne : (a1 != b1) = false) (rA : rdB a0 = false) :
    Calls Try.prog 17 #[.agg #[.int .i64 a0, .int .i64 a1, .int .i64 a2, .int .i64 a3, .int .i64 a4, .int .i64 a5, .int .i64 a6, .int .i64 a7, .int .i64 a8, .int .i64 a9], .agg #[.int .i64 b0, .int .i64 b1, .int .i64 b2, .int .i64 b3, .int .i64 b4, .int .i64 b5, .int .i64 b6, .int .i64 b7, .int .i64 b8, .int .i64 b9]] w
    fun e w' => e = .returned (.bool (apB a0 a1 a7 b0 b1 b7)) ∧ Below w.heap.size w w' := by
  have hmf : ∀ (fn : Fn) (first cap : Array Value) (w : World), (Instr.makeFunc fn first cap).run Try.prog w = .ok (.func fn first cap) w := fun _ _ _ _ => rfl
  have hval : apB a0 a1 a7 b0 b1 b7 = false := by simp [apB, oA, oB, sA, fA, fB, ne, rA]
  rw [hval]; clear hval
  obtain ⟨W0, hW0, hs0, hbel, hcA, hcB, hcF⟩ := cells_start #[.int .i64 a0, .int .i64 a1, .int .i64 a2, .int .i64 a3, .int .i64 a4, .int .i64 a5, .int .i64 a6, .int .i64 a7, .int .i64 a8, .int .i64 a9] #[.int .i64 b0, .int .i64 b1, .int .i64 b2, .int .i64 b3, .int .i64 b4, .int .i64 b5, .int .i64 b6, .int .i64 b7, .int .i64 b8, .int .i64 b9] #[.func (.func 53) #[] #[]] w
  have H0 := Lib.hid hW0; clear hW0
  have HB := Lib.hid hbel; clear hbel
  have hz0 : w.heap.size + 1 + 1 < W0.heap.size := by omega
  clear hs0
  have HC0 := Lib.hid (And.intro hcA (And.intro hcB hcF)); clear hcA hcB hcF
  go_enter Try.func17, Try.ntmps17
  go_wp2_with (go_at_call 52; refine (c52 _ _).mono ?_; rintro e w' ⟨rfl, rfl⟩)
  rw [← H0.out]; clear H0
  refine (c54 _ _ _ _ _ _ _ _ _ _ (w.heap.size + 1 + 1) W0 hz0 (HC0.out.2.2 0)).mono ?_
  rintro e W1 ⟨rfl, hb1⟩
  have kk := keep3 hb1 hz0 HC0.out
  have hz1 := kk.1
  have HC1 := Lib.hid kk.2; clear kk
  have HB1 := Lib.hid (Below.trans HB.out (hb1.mono (by omega))); clear hb1 HC0 hz0
  obtain ⟨kA, kB, kF⟩ := HC1.out
  go_wp2_with fail
  clear kA kB kF
  refine (c53 _ _ _ _ _ _ _ _ _ _ W1).mono ?_
  rintro e W2 ⟨rfl, hb2⟩
  have kk := keep3 hb2 hz1 HC1.out
  have hz2 := kk.1
  have HC2 := Lib.hid kk.2; clear kk
  have HB2 := Lib.hid (Below.trans HB1.out (hb2.mono (by omega))); clear hb2 HC1 hz1
  obtain ⟨kA, kB, kF⟩ := HC2.out
  go_wp2_with fail
  clear kA kB kF
  refine (c53 _ _ _ _ _ _ _ _ _ _ W2).mono ?_
  rintro e W3 ⟨rfl, hb3⟩
  have kk := keep3 hb3 hz2 HC2.out
  have hz3 := kk.1
  have HC3 := Lib.hid kk.2; clear kk
  have HB3 := Lib.hid (Below.trans HB2.out (hb3.mono (by omega))); clear hb3 HC2 hz2
  obtain ⟨kA, kB, kF⟩ := HC3.out
  go_wp2_with fail
  clear kA kB kF
  refine (c55 _ _ _ _ _ _ _ _ _ _ W3).mono ?_
  rintro e W4 ⟨rfl, hb4⟩
  have kk := keep3 hb4 hz3 HC3.out
  have hz4 := kk.1
  have HC4 := Lib.hid kk.2; clear kk
  have HB4 := Lib.hid (Below.trans HB3.out (hb4.mono (by omega))); clear hb4 HC3 hz3
  obtain ⟨kA, kB, kF⟩ := HC4.out
  go_wp2_with fail
  go_ret
  exact ⟨rfl, HB4.out⟩

set_option maxHeartbeats 1000000 in
theorem ap_7 (a0 a1 a2 a3 a4 a5 a6 a7 a8 a9 b0 b1 b2 b3 b4 b5 b6 b7 b8 b9 : Int) (w : World) (oA : onM a0 = true) (oB : onM b0 = true) (sA : seqB a0 a7 = false) (fA : fenB a0 = false) (fB : fenB b0 = false) (ne : (a1 != b1) = false) (rA : rdB a0 = true) (rB : rdB b0 = false) :
    Calls Try.prog 17 #[.agg #[.int .i64 a0, .int .i64 a1, .int .i64 a2, .int .i64 a3, .int .i64 a4, .int .i64 a5, .int .i64 a6, .int .i64 a7, .int .i64 a8, .int .i64 a9], .agg #[.int .i64 b0, .int .i64 b1, .int .i64 b2, .int .i64 b3, .int .i64 b4, .int .i64 b5, .int .i64 b6, .int .i64 b7, .int .i64 b8, .int .i64 b9]] w
    fun e w' => e = .returned (.bool (apB a0 a1 a7 b0 b1 b7)) ∧ Below w.heap.size w w' := by
  have hmf : ∀ (fn : Fn) (first cap : Array Value) (w : World), (Instr.makeFunc fn first cap).run Try.prog w = .ok (.func fn first cap) w := fun _ _ _ _ => rfl
  have hval : apB a0 a1 a7 b0 b1 b7 = false := by simp [apB, oA, oB, sA, fA, fB, ne, rA, rB]
  rw [hval]; clear hval
  obtain ⟨W0, hW0, hs0, hbel, hcA, hcB, hcF⟩ := cells_start #[.int .i64 a0, .int .i64 a1, .int .i64 a2, .int .i64 a3, .int .i64 a4, .int .i64 a5, .int .i64 a6, .int .i64 a7, .int .i64 a8, .int .i64 a9] #[.int .i64 b0, .int .i64 b1, .int .i64 b2, .int .i64 b3, .int .i64 b4, .int .i64 b5, .int .i64 b6, .int .i64 b7, .int .i64 b8, .int .i64 b9] #[.func (.func 53) #[] #[]] w
  have H0 := Lib.hid hW0; clear hW0
  have HB := Lib.hid hbel; clear hbel
  have hz0 : w.heap.size + 1 + 1 < W0.heap.size := by omega
  clear hs0
  have HC0 := Lib.hid (And.intro hcA (And.intro hcB hcF)); clear hcA hcB hcF
  go_enter Try.func17, Try.ntmps17
  go_wp2_with (go_at_call 52; refine (c52 _ _).mono ?_; rintro e w' ⟨rfl, rfl⟩)
  rw [← H0.out]; clear H0
  refine (c54 _ _ _ _ _ _ _ _ _ _ (w.heap.size + 1 + 1) W0 hz0 (HC0.out.2.2 0)).mono ?_
  rintro e W1 ⟨rfl, hb1⟩
  have kk := keep3 hb1 hz0 HC0.out
  have hz1 := kk.1
  have HC1 := Lib.hid kk.2; clear kk
  have HB1 := Lib.hid (Below.trans HB.out (hb1.mono (by omega))); clear hb1 HC0 hz0
  obtain ⟨kA, kB, kF⟩ := HC1.out
  go_wp2_with fail
  clear kA kB kF
  refine (c53 _ _ _ _ _ _ _ _ _ _ W1).mono ?_
  rintro e W2 ⟨rfl, hb2⟩
  have kk := keep3 hb2 hz1 HC1.out
  have hz2 := kk.1
  have HC2 := Lib.hid kk.2; clear kk
  have HB2 := Lib.hid (Below.trans HB1.out (hb2.mono (by omega))); clear hb2 HC1 hz1
  obtain ⟨kA, kB, kF⟩ := HC2.out
  go_wp2_with fail
  clear kA kB kF
  refine (c53 _ _ _ _ _ _ _ _ _ _ W2).mono ?_
  rintro e W3 ⟨rfl, hb3⟩
  have kk := keep3 hb3 hz2 HC2.out
  have hz3 := kk.1
  have HC3 := Lib.hid kk.2; clear kk
  have HB3 := Lib.hid (Below.trans HB2.out (hb3.mono (by omega))); clear hb3 HC2 hz2
  obtain ⟨kA, kB, kF⟩ := HC3.out
  go_wp2_with fail
  clear kA kB kF
  refine (c55 _ _ _ _ _ _ _ _ _ _ W3).mono ?_
  rintro e W4 ⟨rfl, hb4⟩
  have kk := keep3 hb4 hz3 HC3.out
  have hz4 := kk.1
  have HC4 := Lib.hid kk.2; clear kk
  have HB4 := Lib.hid (Below.trans HB3.out (hb4.mono (by omega))); clear hb4 HC3 hz3
  obtain ⟨kA, kB, kF⟩ := HC4.out
  go_wp2_with fail
  clear kA kB kF
  refine (c55 _ _ _ _ _ _ _ _ _ _ W4).mono ?_
  rintro e W5 ⟨rfl, hb5⟩
  have kk := keep3 hb5 hz4 HC4.out
  have hz5 := kk.1
  have HC5 := Lib.hid kk.2; clear kk
  have HB5 := Lib.hid (Below.trans HB4.out (hb5.mono (by omega))); clear hb5 HC4 hz4
  obtain ⟨kA, kB, kF⟩ := HC5.out
  go_wp2_with fail
  go_ret
  exact ⟨rfl, HB5.out⟩

set_option maxHeartbeats 1000000 in
theorem ap_8 (a0 a1 a2 a3 a4 a5 a6 a7 a8 a9 b0 b1 b2 b3 b4 b5 b6 b7 b8 b9 : Int) (w : World) (oA : onM a0 = true) (oB : onM b0 = true) (sA : seqB a0 a7 = false) (fA : fenB a0 = false) (fB : fenB b0 = false) (ne : (a1 != b1) = false) (rA : rdB a0 = true) (rB : rdB b0 = true) :
    Calls Try.prog 17 #[.agg #[.int .i64 a0, .int .i64 a1, .int .i64 a2, .int .i64 a3, .int .i64 a4, .int .i64 a5, .int .i64 a6, .int .i64 a7, .int .i64 a8, .int .i64 a9], .agg #[.int .i64 b0, .int .i64 b1, .int .i64 b2, .int .i64 b3, .int .i64 b4, .int .i64 b5, .int .i64 b6, .int .i64 b7, .int .i64 b8, .int .i64 b9]] w
    fun e w' => e = .returned (.bool (apB a0 a1 a7 b0 b1 b7)) ∧ Below w.heap.size w w' := by
  have hmf : ∀ (fn : Fn) (first cap : Array Value) (w : World), (Instr.makeFunc fn first cap).run Try.prog w = .ok (.func fn first cap) w := fun _ _ _ _ => rfl
  have hval : apB a0 a1 a7 b0 b1 b7 = true := by simp [apB, oA, oB, sA, fA, fB, ne, rA, rB]
  rw [hval]; clear hval
  obtain ⟨W0, hW0, hs0, hbel, hcA, hcB, hcF⟩ := cells_start #[.int .i64 a0, .int .i64 a1, .int .i64 a2, .int .i64 a3, .int .i64 a4, .int .i64 a5, .int .i64 a6, .int .i64 a7, .int .i64 a8, .int .i64 a9] #[.int .i64 b0, .int .i64 b1, .int .i64 b2, .int .i64 b3, .int .i64 b4, .int .i64 b5, .int .i64 b6, .int .i64 b7, .int .i64 b8, .int .i64 b9] #[.func (.func 53) #[] #[]] w
  have H0 := Lib.hid hW0; clear hW0
  have HB := Lib.hid hbel; clear hbel
  have hz0 : w.heap.size + 1 + 1 < W0.heap.size := by omega
  clear hs0
  have HC0 := Lib.hid (And.intro hcA (And.intro hcB hcF)); clear hcA hcB hcF
  go_enter Try.func17, Try.ntmps17
  go_wp2_with (go_at_call 52; refine (c52 _ _).mono ?_; rintro e w' ⟨rfl, rfl⟩)
  rw [← H0.out]; clear H0
  refine (c54 _ _ _ _ _ _ _ _ _ _ (w.heap.size + 1 + 1) W0 hz0 (HC0.out.2.2 0)).mono ?_
  rintro e W1 ⟨rfl, hb1⟩
  have kk := keep3 hb1 hz0 HC0.out
  have hz1 := kk.1
  have HC1 := Lib.hid kk.2; clear kk
  have HB1 := Lib.hid (Below.trans HB.out (hb1.mono (by omega))); clear hb1 HC0 hz0
  obtain ⟨kA, kB, kF⟩ := HC1.out
  go_wp2_with fail
  clear kA kB kF
  refine (c53 _ _ _ _ _ _ _ _ _ _ W1).mono ?_
  rintro e W2 ⟨rfl, hb2⟩
  have kk := keep3 hb2 hz1 HC1.out
  have hz2 := kk.1
  have HC2 := Lib.hid kk.2; clear kk
  have HB2 := Lib.hid (Below.trans HB1.out (hb2.mono (by omega))); clear hb2 HC1 hz1
  obtain ⟨kA, kB, kF⟩ := HC2.out
  go_wp2_with fail
  clear kA kB kF
  refine (c53 _ _ _ _ _ _ _ _ _ _ W2).mono ?_
  rintro e W3 ⟨rfl, hb3⟩
  have kk := keep3 hb3 hz2 HC2.out
  have hz3 := kk.1
  have HC3 := Lib.hid kk.2; clear kk
  have HB3 := Lib.hid (Below.trans HB2.out (hb3.mono (by omega))); clear hb3 HC2 hz2
  obtain ⟨kA, kB, kF⟩ := HC3.out
  go_wp2_with fail
  clear kA kB kF
  refine (c55 _ _ _ _ _ _ _ _ _ _ W3).mono ?_
  rintro e W4 ⟨rfl, hb4⟩
  have kk := keep3 hb4 hz3 HC3.out
  have hz4 := kk.1
  have HC4 := Lib.hid kk.2; clear kk
  have HB4 := Lib.hid (Below.trans HB3.out (hb4.mono (by omega))); clear hb4 HC3 hz3
  obtain ⟨kA, kB, kF⟩ := HC4.out
  go_wp2_with fail
  clear kA kB kF
  refine (c55 _ _ _ _ _ _ _ _ _ _ W4).mono ?_
  rintro e W5 ⟨rfl, hb5⟩
  have kk := keep3 hb5 hz4 HC4.out
  have hz5 := kk.1
  have HC5 := Lib.hid kk.2; clear kk
  have HB5 := Lib.hid (Below.trans HB4.out (hb5.mono (by omega))); clear hb5 HC4 hz4
  obtain ⟨kA, kB, kF⟩ := HC5.out
  go_wp2_with fail
  go_ret
  exact ⟨rfl, HB5.out⟩

set_option maxHeartbeats 1000000 in
theorem ap_9 (a0 a1 a2 a3 a4 a5 a6 a7 a8 a9 b0 b1 b2 b3 b4 b5 b6 b7 b8 b9 : Int) (w : World) (oA : onM a0 = true) (oB : onM b0 = true) (sA : seqB a0 a7 = true) (sB : seqB b0 b7 = false) (fA : fenB a0 = true) :
    Calls Try.prog 17 #[.agg #[.int .i64 a0, .int .i64 a1, .int .i64 a2, .int .i64 a3, .int .i64 a4, .int .i64 a5, .int .i64 a6, .int .i64 a7, .int .i64 a8, .int .i64 a9], .agg #[.int .i64 b0, .int .i64 b1, .int .i64 b2, .int .i64 b3, .int .i64 b4, .int .i64 b5, .int .i64 b6, .int .i64 b7, .int .i64 b8, .int .i64 b9]] w
    fun e w' => e = .returned (.bool (apB a0 a1 a7 b0 b1 b7)) ∧ Below w.heap.size w w' := by
  have hmf : ∀ (fn : Fn) (first cap : Array Value) (w : World), (Instr.makeFunc fn first cap).run Try.prog w = .ok (.func fn first cap) w := fun _ _ _ _ => rfl
  have hval : apB a0 a1 a7 b0 b1 b7 = true := by simp [apB, oA, oB, sA, sB, fA]
  rw [hval]; clear hval
  obtain ⟨W0, hW0, hs0, hbel, hcA, hcB, hcF⟩ := cells_start #[.int .i64 a0, .int .i64 a1, .int .i64 a2, .int .i64 a3, .int .i64 a4, .int .i64 a5, .int .i64 a6, .int .i64 a7, .int .i64 a8, .int .i64 a9] #[.int .i64 b0, .int .i64 b1, .int .i64 b2, .int .i64 b3, .int .i64 b4, .int .i64 b5, .int .i64 b6, .int .i64 b7, .int .i64 b8, .int .i64 b9] #[.func (.func 53) #[] #[]] w
  have H0 := Lib.hid hW0; clear hW0
  have HB := Lib.hid hbel; clear hbel
  have hz0 : w.heap.size + 1 + 1 < W0.heap.size := by omega
  clear hs0
  have HC0 := Lib.hid (And.intro hcA (And.intro hcB hcF)); clear hcA hcB hcF
  go_enter Try.func17, Try.ntmps17
  go_wp2_with (go_at_call 52; refine (c52 _ _).mono ?_; rintro e w' ⟨rfl, rfl⟩)
  rw [← H0.out]; clear H0
  refine (c54 _ _ _ _ _ _ _ _ _ _ (w.heap.size + 1 + 1) W0 hz0 (HC0.out.2.2 0)).mono ?_
  rintro e W1 ⟨rfl, hb1⟩
  have kk := keep3 hb1 hz0 HC0.out
  have hz1 := kk.1
  have HC1 := Lib.hid kk.2; clear kk
  have HB1 := Lib.hid (Below.trans HB.out (hb1.mono (by omega))); clear hb1 HC0 hz0
  obtain ⟨kA, kB, kF⟩ := HC1.out
  go_wp2_with fail
  clear kA kB kF
  refine (c54 _ _ _ _ _ _ _ _ _ _ (w.heap.size + 1 + 1) W1 hz1 (HC1.out.2.2 0)).mono ?_
  rintro e W2 ⟨rfl, hb2⟩
  have kk := keep3 hb2 hz1 HC1.out
  have hz2 := kk.1
  have HC2 := Lib.hid kk.2; clear kk
  have HB2 := Lib.hid (Below.trans HB1.out (hb2.mono (by omega))); clear hb2 HC1 hz1
  obtain ⟨kA, kB, kF⟩ := HC2.out
  go_wp2_with fail
  clear kA kB kF
  refine (c53 _ _ _ _ _ _ _ _ _ _ W2).mono ?_
  rintro e W3 ⟨rfl, hb3⟩
  have kk := keep3 hb3 hz2 HC2.out
  have hz3 := kk.1
  have HC3 := Lib.hid kk.2; clear kk
  have HB3 := Lib.hid (Below.trans HB2.out (hb3.mono (by omega))); clear hb3 HC2 hz2
  obtain ⟨kA, kB, kF⟩ := HC3.out
  go_wp2_with fail
  go_ret
  exact ⟨rfl, HB3.out⟩

set_option maxHeartbeats 1000000 in
theorem ap_10 (a0 a1 a2 a3 a4 a5 a6 a7 a8 a9 b0 b1 b2 b3 b4 b5 b6 b7 b8 b9 : Int) (w : World) (oA : onM a0 = true) (oB : onM b0 = true) (sA : seqB a0 a7 = true) (sB : seqB b0 b7 = false) (fA : fenB a0 = false) (fB : fenB b0 = true) :
    Calls Try.prog 17 #[.agg #[.int .i64 a0, .int .i64 a1, .int .i64 a2, .int .i64 a3, .int .i64 a4, .int .i64 a5, .int .i64 a6, .int .i64 a7, .int .i64 a8, .int .i64 a9], .agg #[.int .i64 b0, .int .i64 b1, .int .i64 b2, .int .i64 b3, .int .i64 b4, .int .i64 b5, .int .i64 b6, .int .i64 b7, .int .i64 b8, .int .i64 b9]] w
    fun e w' => e = .returned (.bool (apB a0 a1 a7 b0 b1 b7)) ∧ Below w.heap.size w w' := by
  have hmf : ∀ (fn : Fn) (first cap : Array Value) (w : World), (Instr.makeFunc fn first cap).run Try.prog w = .ok (.func fn first cap) w := fun _ _ _ _ => rfl
  have hval : apB a0 a1 a7 b0 b1 b7 = true := by simp [apB, oA, oB, sA, sB, fA, fB]
  rw [hval]; clear hval
  obtain ⟨W0, hW0, hs0, hbel, hcA, hcB, hcF⟩ := cells_start #[.int .i64 a0, .int .i64 a1, .int .i64 a2, .int .i64 a3, .int .i64 a4, .int .i64 a5, .int .i64 a6, .int .i64 a7, .int .i64 a8, .int .i64 a9] #[.int .i64 b0, .int .i64 b1, .int .i64 b2, .int .i64 b3, .int .i64 b4, .int .i64 b5, .int .i64 b6, .int .i64 b7, .int .i64 b8, .int .i64 b9] #[.func (.func 53) #[] #[]] w
  have H0 := Lib.hid hW0; clear hW0
  have HB := Lib.hid hbel; clear hbel
  have hz0 : w.heap.size + 1 + 1 < W0.heap.size := by omega
  clear hs0
  have HC0 := Lib.hid (And.intro hcA (And.intro hcB hcF)); clear hcA hcB hcF
  go_enter Try.func17, Try.ntmps17
  go_wp2_with (go_at_call 52; refine (c52 _ _).mono ?_; rintro e w' ⟨rfl, rfl⟩)
  rw [← H0.out]; clear H0
  refine (c54 _ _ _ _ _ _ _ _ _ _ (w.heap.size + 1 + 1) W0 hz0 (HC0.out.2.2 0)).mono ?_
  rintro e W1 ⟨rfl, hb1⟩
  have kk := keep3 hb1 hz0 HC0.out
  have hz1 := kk.1
  have HC1 := Lib.hid kk.2; clear kk
  have HB1 := Lib.hid (Below.trans HB.out (hb1.mono (by omega))); clear hb1 HC0 hz0
  obtain ⟨kA, kB, kF⟩ := HC1.out
  go_wp2_with fail
  clear kA kB kF
  refine (c54 _ _ _ _ _ _ _ _ _ _ (w.heap.size + 1 + 1) W1 hz1 (HC1.out.2.2 0)).mono ?_
  rintro e W2 ⟨rfl, hb2⟩
  have kk := keep3 hb2 hz1 HC1.out
  have hz2 := kk.1
  have HC2 := Lib.hid kk.2; clear kk
  have HB2 := Lib.hid (Below.trans HB1.out (hb2.mono (by omega))); clear hb2 HC1 hz1
  obtain ⟨kA, kB, kF⟩ := HC2.out
  go_wp2_with fail
  clear kA kB kF
  refine (c53 _ _ _ _ _ _ _ _ _ _ W2).mono ?_
  rintro e W3 ⟨rfl, hb3⟩
  have kk := keep3 hb3 hz2 HC2.out
  have hz3 := kk.1
  have HC3 := Lib.hid kk.2; clear kk
  have HB3 := Lib.hid (Below.trans HB2.out (hb3.mono (by omega))); clear hb3 HC2 hz2
  obtain ⟨kA, kB, kF⟩ := HC3.out
  go_wp2_with fail
  clear kA kB kF
  refine (c53 _ _ _ _ _ _ _ _ _ _ W3).mono ?_
  rintro e W4 ⟨rfl, hb4⟩
  have kk := keep3 hb4 hz3 HC3.out
  have hz4 := kk.1
  have HC4 := Lib.hid kk.2; clear kk
  have HB4 := Lib.hid (Below.trans HB3.out (hb4.mono (by omega))); clear hb4 HC3 hz3
  obtain ⟨kA, kB, kF⟩ := HC4.out
  go_wp2_with fail
  go_ret
  exact ⟨rfl, HB4.out⟩

set_option maxHeartbeats 1000000 in
theorem ap_11 (a0 a1 a2 a3 a4 a5 a6 a7 a8 a9 b0 b1 b2 b3 b4 b5 b6 b7 b8 b9 : Int) (w : World) (oA : onM a0 = true) (oB : onM b0 = true) (sA : seqB a0 a7 = true) (sB : seqB b0 b7 = false) (fA : fenB a0 = false) (fB : fenB b0 = false) (ne : (a1 != b1) = true) :
    Calls Try.prog 17 #[.agg #[.int .i64 a0, .int .i64 a1, .int .i64 a2, .int .i64 a3, .int .i64 a4, .int .i64 a5, .int .i64 a6, .int .i64 a7, .int .i64 a8, .int .i64 a9], .agg #[.int .i64 b0, .int .i64 b1, .int .i64 b2, .int .i64 b3, .int .i64 b4, .int .i64 b5, .int .i64 b6, .int .i64 b7, .int .i64 b8, .int .i64 b9]] w
    fun e w' => e = .returned (.bool (apB a0 a1 a7 b0 b1 b7)) ∧ Below w.heap.size w w' := by
  have hmf : ∀ (fn : Fn) (first cap : Array Value) (w : World), (Instr.makeFunc fn first cap).run Try.prog w = .ok (.func fn first cap) w := fun _ _ _ _ => rfl
  have hval : apB a0 a1 a7 b0 b1 b7 = true := by simp [apB, oA, oB, sA, sB, fA, fB, ne]
  rw [hval]; clear hval
  obtain ⟨W0, hW0, hs0, hbel, hcA, hcB, hcF⟩ := cells_start #[.int .i64 a0, .int .i64 a1, .int .i64 a2, .int .i64 a3, .int .i64 a4, .int .i64 a5, .int .i64 a6, .int .i64 a7, .int .i64 a8, .int .i64 a9] #[.int .i64 b0, .int .i64 b1, .int .i64 b2, .int .i64 b3, .int .i64 b4, .int .i64 b5, .int .i64 b6, .int .i64 b7, .int .i64 b8, .int .i64 b9] #[.func (.func 53) #[] #[]] w
  have H0 := Lib.hid hW0; clear hW0
  have HB := Lib.hid hbel; clear hbel
  have hz0 : w.heap.size + 1 + 1 < W0.heap.size := by omega
  clear hs0
  have HC0 := Lib.hid (And.intro hcA (And.intro hcB hcF)); clear hcA hcB hcF
  go_enter Try.func17, Try.ntmps17
  go_wp2_with (go_at_call 52; refine (c52 _ _).mono ?_; rintro e w' ⟨rfl, rfl⟩)
  rw [← H0.out]; clear H0
  refine (c54 _ _ _ _ _ _ _ _ _ _ (w.heap.size + 1 + 1) W0 hz0 (HC0.out.2.2 0)).mono ?_
  rintro e W1 ⟨rfl, hb1⟩
  have kk := keep3 hb1 hz0 HC0.out
  have hz1 := kk.1
  have HC1 := Lib.hid kk.2; clear kk
  have HB1 := Lib.hid (Below.trans HB.out (hb1.mono (by omega))); clear hb1 HC0 hz0
  obtain ⟨kA, kB, kF⟩ := HC1.out
  go_wp2_with fail
  clear kA kB kF
  refine (c54 _ _ _ _ _ _ _ _ _ _ (w.heap.size + 1 + 1) W1 hz1 (HC1.out.2.2 0)).mono ?_
  rintro e W2 ⟨rfl, hb2⟩
  have kk := keep3 hb2 hz1 HC1.out
  have hz2 := kk.1
  have HC2 := Lib.hid kk.2; clear kk
  have HB2 := Lib.hid (Below.trans HB1.out (hb2.mono (by omega))); clear hb2 HC1 hz1
  obtain ⟨kA, kB, kF⟩ := HC2.out
  go_wp2_with fail
  clear kA kB kF
  refine (c53 _ _ _ _ _ _ _ _ _ _ W2).mono ?_
  rintro e W3 ⟨rfl, hb3⟩
  have kk := keep3 hb3 hz2 HC2.out
  have hz3 := kk.1
  have HC3 := Lib.hid kk.2; clear kk
  have HB3 := Lib.hid (Below.trans HB2.out (hb3.mono (by omega))); clear hb3 HC2 hz2
  obtain ⟨kA, kB, kF⟩ := HC3.out
  go_wp2_with fail
  clear kA kB kF
  refine (c53 _ _ _ _ _ _ _ _ _ _ W3).mono ?_
  rintro e W4 ⟨rfl, hb4⟩
  have kk := keep3 hb4 hz3 HC3.out
  have hz4 := kk.1
  have HC4 := Lib.hid kk.2; clear kk
  have HB4 := Lib.hid (Below.trans HB3.out (hb4.mono (by omega))); clear hb4 HC3 hz3
  obtain ⟨kA, kB, kF⟩ := HC4.out
  go_wp2_with fail
  go_ret
  exact ⟨rfl, HB4.out⟩

set_option maxHeartbeats 1000000 in
theorem ap_12 (a0 a1 a2 a3 a4 a5 a6 a7 a8 a9 b0 b1 b2 b3 b4 b5 b6 b7 b8 b9 : Int) (w : World) (oA : onM a0 = true) (oB : onM b0 = true) (sA : seqB a0 a7 = true) (sB : seqB b0 b7 = false) (fA : fenB a0 = false) (fB : fenB b0 = false) (ne : (a1 != b1) = false) (rA : rdB a0 = false) :
    Calls Try.prog 17 #[.agg #[.int .i64 a0, .int .i64 a1, .int .i64 a2, .int .i64 a3, .int .i64 a4, .int .i64 a5, .int .i64 a6, .int .i64 a7, .int .i64 a8, .int .i64 a9], .agg #[.int .i64 b0, .int .i64 b1, .int .i64 b2, .int .i64 b3, .int .i64 b4, .int .i64 b5, .int .i64 b6, .int .i64 b7, .int .i64 b8, .int .i64 b9]] w
    fun e w' => e = .returned (.bool (apB a0 a1 a7 b0 b1 b7)) ∧ Below w.heap.size w w' := by
  have hmf : ∀ (fn : Fn) (first cap : Array Value) (w : World), (Instr.makeFunc fn first cap).run Try.prog w = .ok (.func fn first cap) w := fun _ _ _ _ => rfl
  have hval : apB a0 a1 a7 b0 b1 b7 = false := by simp [apB, oA, oB, sA, sB, fA, fB, ne, rA]
  rw [hval]; clear hval
  obtain ⟨W0, hW0, hs0, hbel, hcA, hcB, hcF⟩ := cells_start #[.int .i64 a0, .int .i64 a1, .int .i64 a2, .int .i64 a3, .int .i64 a4, .int .i64 a5, .int .i64 a6, .int .i64 a7, .int .i64 a8, .int .i64 a9] #[.int .i64 b0, .int .i64 b1, .int .i64 b2, .int .i64 b3, .int .i64 b4, .int .i64 b5, .int .i64 b6, .int .i64 b7, .int .i64 b8, .int .i64 b9] #[.func (.func 53) #[] #[]] w
  have H0 := Lib.hid hW0; clear hW0
  have HB := Lib.hid hbel; clear hbel
  have hz0 : w.heap.size + 1 + 1 < W0.heap.size := by omega
  clear hs0
  have HC0 := Lib.hid (And.intro hcA (And.intro hcB hcF)); clear hcA hcB hcF
  go_enter Try.func17, Try.ntmps17
  go_wp2_with (go_at_call 52; refine (c52 _ _).mono ?_; rintro e w' ⟨rfl, rfl⟩)
  rw [← H0.out]; clear H0
  refine (c54 _ _ _ _ _ _ _ _ _ _ (w.heap.size + 1 + 1) W0 hz0 (HC0.out.2.2 0)).mono ?_
  rintro e W1 ⟨rfl, hb1⟩
  have kk := keep3 hb1 hz0 HC0.out
  have hz1 := kk.1
  have HC1 := Lib.hid kk.2; clear kk
  have HB1 := Lib.hid (Below.trans HB.out (hb1.mono (by omega))); clear hb1 HC0 hz0
  obtain ⟨kA, kB, kF⟩ := HC1.out
  go_wp2_with fail
  clear kA kB kF
  refine (c54 _ _ _ _ _ _ _ _ _ _ (w.heap.size + 1 + 1) W1 hz1 (HC1.out.2.2 0)).mono ?_
  rintro e W2 ⟨rfl, hb2⟩
  have kk := keep3 hb2 hz1 HC1.out
  have hz2 := kk.1
  have HC2 := Lib.hid kk.2; clear kk
  have HB2 := Lib.hid (Below.trans HB1.out (hb2.mono (by omega))); clear hb2 HC1 hz1
  obtain ⟨kA, kB, kF⟩ := HC2.out
  go_wp2_with fail
  clear kA kB kF
  refine (c53 _ _ _ _ _ _ _ _ _ _ W2).mono ?_
  rintro e W3 ⟨rfl, hb3⟩
  have kk := keep3 hb3 hz2 HC2.out
  have hz3 := kk.1
  have HC3 := Lib.hid kk.2; clear kk
  have HB3 := Lib.hid (Below.trans HB2.out (hb3.mono (by omega))); clear hb3 HC2 hz2
  obtain ⟨kA, kB, kF⟩ := HC3.out
  go_wp2_with fail
  clear kA kB kF
  refine (c53 _ _ _ _ _ _ _ _ _ _ W3).mono ?_
  rintro e W4 ⟨rfl, hb4⟩
  have kk := keep3 hb4 hz3 HC3.out
  have hz4 := kk.1
  have HC4 := Lib.hid kk.2; clear kk
  have HB4 := Lib.hid (Below.trans HB3.out (hb4.mono (by omega))); clear hb4 HC3 hz3
  obtain ⟨kA, kB, kF⟩ := HC4.out
  go_wp2_with fail
  clear kA kB kF
  refine (c55 _ _ _ _ _ _ _ _ _ _ W4).mono ?_
  rintro e W5 ⟨rfl, hb5⟩
  have kk := keep3 hb5 hz4 HC4.out
  have hz5 := kk.1
  have HC5 := Lib.hid kk.2; clear kk
  have HB5 := Lib.hid (Below.trans HB4.out (hb5.mono (by omega))); clear hb5 HC4 hz4
  obtain ⟨kA, kB, kF⟩ := HC5.out
  go_wp2_with fail
  go_ret
  exact ⟨rfl, HB5.out⟩

set_option maxHeartbeats 1000000 in
theorem ap_13 (a0 a1 a2 a3 a4 a5 a6 a7 a8 a9 b0 b1 b2 b3 b4 b5 b6 b7 b8 b9 : Int) (w : World) (oA : onM a0 = true) (oB : onM b0 = true) (sA : seqB a0 a7 = true) (sB : seqB b0 b7 = false) (fA : fenB a0 = false) (fB : fenB b0 = false) (ne : (a1 != b1) = false) (rA : rdB a0 = true) (rB : rdB b0 = false) :
    Calls Try.prog 17 #[.agg #[.int .i64 a0, .int .i64 a1, .int .i64 a2, .int .i64 a3, .int .i64 a4, .int .i64 a5, .int .i64 a6, .int .i64 a7, .int .i64 a8, .int .i64 a9], .agg #[.int .i64 b0, .int .i64 b1, .int .i64 b2, .int .i64 b3, .int .i64 b4, .int .i64 b5, .int .i64 b6, .int .i64 b7, .int .i64 b8, .int .i64 b9]] w
    fun e w' => e = .returned (.bool (apB a0 a1 a7 b0 b1 b7)) ∧ Below w.heap.size w w' := by
  have hmf : ∀ (fn : Fn) (first cap : Array Value) (w : World), (Instr.makeFunc fn first cap).run Try.prog w = .ok (.func fn first cap) w := fun _ _ _ _ => rfl
  have hval : apB a0 a1 a7 b0 b1 b7 = false := by simp [apB, oA, oB, sA, sB, fA, fB, ne, rA, rB]
  rw [hval]; clear hval
  obtain ⟨W0, hW0, hs0, hbel, hcA, hcB, hcF⟩ := cells_start #[.int .i64 a0, .int .i64 a1, .int .i64 a2, .int .i64 a3, .int .i64 a4, .int .i64 a5, .int .i64 a6, .int .i64 a7, .int .i64 a8, .int .i64 a9] #[.int .i64 b0, .int .i64 b1, .int .i64 b2, .int .i64 b3, .int .i64 b4, .int .i64 b5, .int .i64 b6, .int .i64 b7, .int .i64 b8, .int .i64 b9] #[.func (.func 53) #[] #[]] w
  have H0 := Lib.hid hW0; clear hW0
  have HB := Lib.hid hbel; clear hbel
  have hz0 : w.heap.size + 1 + 1 < W0.heap.size := by omega
  clear hs0
  have HC0 := Lib.hid (And.intro hcA (And.intro hcB hcF)); clear hcA hcB hcF
  go_enter Try.func17, Try.ntmps17
  go_wp2_with (go_at_call 52; refine (c52 _ _).mono ?_; rintro e w' ⟨rfl, rfl⟩)
  rw [← H0.out]; clear H0
  refine (c54 _ _ _ _ _ _ _ _ _ _ (w.heap.size + 1 + 1) W0 hz0 (HC0.out.2.2 0)).mono ?_
  rintro e W1 ⟨rfl, hb1⟩
  have kk := keep3 hb1 hz0 HC0.out
  have hz1 := kk.1
  have HC1 := Lib.hid kk.2; clear kk
  have HB1 := Lib.hid (Below.trans HB.out (hb1.mono (by omega))); clear hb1 HC0 hz0
  obtain ⟨kA, kB, kF⟩ := HC1.out
  go_wp2_with fail
  clear kA kB kF
  refine (c54 _ _ _ _ _ _ _ _ _ _ (w.heap.size + 1 + 1) W1 hz1 (HC1.out.2.2 0)).mono ?_
  rintro e W2 ⟨rfl, hb2⟩
  have kk := keep3 hb2 hz1 HC1.out
  have hz2 := kk.1
  have HC2 := Lib.hid kk.2; clear kk
  have HB2 := Lib.hid (Below.trans HB1.out (hb2.mono (by omega))); clear hb2 HC1 hz1
  obtain ⟨kA, kB, kF⟩ := HC2.out
  go_wp2_with fail
  clear kA kB kF
  refine (c53 _ _ _ _ _ _ _ _ _ _ W2).mono ?_
  rintro e W3 ⟨rfl, hb3⟩
  have kk := keep3 hb3 hz2 HC2.out
  have hz3 := kk.1
  have HC3 := Lib.hid kk.2; clear kk
  have HB3 := Lib.hid (Below.trans HB2.out (hb3.mono (by omega))); clear hb3 HC2 hz2
  obtain ⟨kA, kB, kF⟩ := HC3.out
  go_wp2_with fail
  clear kA kB kF
  refine (c53 _ _ _ _ _ _ _ _ _ _ W3).mono ?_
  rintro e W4 ⟨rfl, hb4⟩
  have kk := keep3 hb4 hz3 HC3.out
  have hz4 := kk.1
  have HC4 := Lib.hid kk.2; clear kk
  have HB4 := Lib.hid (Below.trans HB3.out (hb4.mono (by omega))); clear hb4 HC3 hz3
  obtain ⟨kA, kB, kF⟩ := HC4.out
  go_wp2_with fail
  clear kA kB kF
  refine (c55 _ _ _ _ _ _ _ _ _ _ W4).mono ?_
  rintro e W5 ⟨rfl, hb5⟩
  have kk := keep3 hb5 hz4 HC4.out
  have hz5 := kk.1
  have HC5 := Lib.hid kk.2; clear kk
  have HB5 := Lib.hid (Below.trans HB4.out (hb5.mono (by omega))); clear hb5 HC4 hz4
  obtain ⟨kA, kB, kF⟩ := HC5.out
  go_wp2_with fail
  clear kA kB kF
  refine (c55 _ _ _ _ _ _ _ _ _ _ W5).mono ?_
  rintro e W6 ⟨rfl, hb6⟩
  have kk := keep3 hb6 hz5 HC5.out
  have hz6 := kk.1
  have HC6 := Lib.hid kk.2; clear kk
  have HB6 := Lib.hid (Below.trans HB5.out (hb6.mono (by omega))); clear hb6 HC5 hz5
  obtain ⟨kA, kB, kF⟩ := HC6.out
  go_wp2_with fail
  go_ret
  exact ⟨rfl, HB6.out⟩

set_option maxHeartbeats 1000000 in
theorem ap_14 (a0 a1 a2 a3 a4 a5 a6 a7 a8 a9 b0 b1 b2 b3 b4 b5 b6 b7 b8 b9 : Int) (w : World) (oA : onM a0 = true) (oB : onM b0 = true) (sA : seqB a0 a7 = true) (sB : seqB b0 b7 = false) (fA : fenB a0 = false) (fB : fenB b0 = false) (ne : (a1 != b1) = false) (rA : rdB a0 = true) (rB : rdB b0 = true) :
    Calls Try.prog 17 #[.agg #[.int .i64 a0, .int .i64 a1, .int .i64 a2, .int .i64 a3, .int .i64 a4, .int .i64 a5, .int .i64 a6, .int .i64 a7, .int .i64 a8, .int .i64 a9], .agg #[.int .i64 b0, .int .i64 b1, .int .i64 b2, .int .i64 b3, .int .i64 b4, .int .i64 b5, .int .i64 b6, .int .i64 b7, .int .i64 b8, .int .i64 b9]] w
    fun e w' => e = .returned (.bool (apB a0 a1 a7 b0 b1 b7)) ∧ Below w.heap.size w w' := by
  have hmf : ∀ (fn : Fn) (first cap : Array Value) (w : World), (Instr.makeFunc fn first cap).run Try.prog w = .ok (.func fn first cap) w := fun _ _ _ _ => rfl
  have hval : apB a0 a1 a7 b0 b1 b7 = true := by simp [apB, oA, oB, sA, sB, fA, fB, ne, rA, rB]
  rw [hval]; clear hval
  obtain ⟨W0, hW0, hs0, hbel, hcA, hcB, hcF⟩ := cells_start #[.int .i64 a0, .int .i64 a1, .int .i64 a2, .int .i64 a3, .int .i64 a4, .int .i64 a5, .int .i64 a6, .int .i64 a7, .int .i64 a8, .int .i64 a9] #[.int .i64 b0, .int .i64 b1, .int .i64 b2, .int .i64 b3, .int .i64 b4, .int .i64 b5, .int .i64 b6, .int .i64 b7, .int .i64 b8, .int .i64 b9] #[.func (.func 53) #[] #[]] w
  have H0 := Lib.hid hW0; clear hW0
  have HB := Lib.hid hbel; clear hbel
  have hz0 : w.heap.size + 1 + 1 < W0.heap.size := by omega
  clear hs0
  have HC0 := Lib.hid (And.intro hcA (And.intro hcB hcF)); clear hcA hcB hcF
  go_enter Try.func17, Try.ntmps17
  go_wp2_with (go_at_call 52; refine (c52 _ _).mono ?_; rintro e w' ⟨rfl, rfl⟩)
  rw [← H0.out]; clear H0
  refine (c54 _ _ _ _ _ _ _ _ _ _ (w.heap.size + 1 + 1) W0 hz0 (HC0.out.2.2 0)).mono ?_
  rintro e W1 ⟨rfl, hb1⟩
  have kk := keep3 hb1 hz0 HC0.out
  have hz1 := kk.1
  have HC1 := Lib.hid kk.2; clear kk
  have HB1 := Lib.hid (Below.trans HB.out (hb1.mono (by omega))); clear hb1 HC0 hz0
  obtain ⟨kA, kB, kF⟩ := HC1.out
  go_wp2_with fail
  clear kA kB kF
  refine (c54 _ _ _ _ _ _ _ _ _ _ (w.heap.size + 1 + 1) W1 hz1 (HC1.out.2.2 0)).mono ?_
  rintro e W2 ⟨rfl, hb2⟩
  have kk := keep3 hb2 hz1 HC1.out
  have hz2 := kk.1
  have HC2 := Lib.hid kk.2; clear kk
  have HB2 := Lib.hid (Below.trans HB1.out (hb2.mono (by omega))); clear hb2 HC1 hz1
  obtain ⟨kA, kB, kF⟩ := HC2.out
  go_wp2_with fail
  clear kA kB kF
  refine (c53 _ _ _ _ _ _ _ _ _ _ W2).mono ?_
  rintro e W3 ⟨rfl, hb3⟩
  have kk := keep3 hb3 hz2 HC2.out
  have hz3 := kk.1
  have HC3 := Lib.hid kk.2; clear kk
  have HB3 := Lib.hid (Below.trans HB2.out (hb3.mono (by omega))); clear hb3 HC2 hz2
  obtain ⟨kA, kB, kF⟩ := HC3.out
  go_wp2_with fail
  clear kA kB kF
  refine (c53 _ _ _ _ _ _ _ _ _ _ W3).mono ?_
  rintro e W4 ⟨rfl, hb4⟩
  have kk := keep3 hb4 hz3 HC3.out
  have hz4 := kk.1
  have HC4 := Lib.hid kk.2; clear kk
  have HB4 := Lib.hid (Below.trans HB3.out (hb4.mono (by omega))); clear hb4 HC3 hz3
  obtain ⟨kA, kB, kF⟩ := HC4.out
  go_wp2_with fail
  clear kA kB kF
  refine (c55 _ _ _ _ _ _ _ _ _ _ W4).mono ?_
  rintro e W5 ⟨rfl, hb5⟩
  have kk := keep3 hb5 hz4 HC4.out
  have hz5 := kk.1
  have HC5 := Lib.hid kk.2; clear kk
  have HB5 := Lib.hid (Below.trans HB4.out (hb5.mono (by omega))); clear hb5 HC4 hz4
  obtain ⟨kA, kB, kF⟩ := HC5.out
  go_wp2_with fail
  clear kA kB kF
  refine (c55 _ _ _ _ _ _ _ _ _ _ W5).mono ?_
  rintro e W6 ⟨rfl, hb6⟩
  have kk := keep3 hb6 hz5 HC5.out
  have hz6 := kk.1
  have HC6 := Lib.hid kk.2; clear kk
  have HB6 := Lib.hid (Below.trans HB5.out (hb6.mono (by omega))); clear hb6 HC5 hz5
  obtain ⟨kA, kB, kF⟩ := HC6.out
  go_wp2_with fail
  go_ret
  exact ⟨rfl, HB6.out⟩

set_option maxHeartbeats 1000000 in
theorem apart_any (a0 a1 a2 a3 a4 a5 a6 a7 a8 a9 b0 b1 b2 b3 b4 b5 b6 b7 b8 b9 : Int) (w : World) :
    Calls Try.prog 17 #[.agg #[.int .i64 a0, .int .i64 a1, .int .i64 a2, .int .i64 a3, .int .i64 a4, .int .i64 a5, .int .i64 a6, .int .i64 a7, .int .i64 a8, .int .i64 a9], .agg #[.int .i64 b0, .int .i64 b1, .int .i64 b2, .int .i64 b3, .int .i64 b4, .int .i64 b5, .int .i64 b6, .int .i64 b7, .int .i64 b8, .int .i64 b9]] w
    fun e w' => e = .returned (.bool (apB a0 a1 a7 b0 b1 b7)) ∧ Below w.heap.size w w' := by
  cases oA : onM a0
  · skip
    exact ap_0 a0 a1 a2 a3 a4 a5 a6 a7 a8 a9 b0 b1 b2 b3 b4 b5 b6 b7 b8 b9 w oA
  · skip
    cases oB : onM b0
    · skip
      exact ap_1 a0 a1 a2 a3 a4 a5 a6 a7 a8 a9 b0 b1 b2 b3 b4 b5 b6 b7 b8 b9 w oA oB
    · skip
      cases sA : seqB a0 a7
      · skip
        cases fA : fenB a0
        · skip
          cases fB : fenB b0
          · skip
            cases ne : (a1 != b1)
            · skip
              cases rA : rdB a0
              · skip
                exact ap_6 a0 a1 a2 a3 a4 a5 a6 a7 a8 a9 b0 b1 b2 b3 b4 b5 b6 b7 b8 b9 w oA oB sA fA fB ne rA
              · skip
                cases rB : rdB b0
                · skip
                  exact ap_7 a0 a1 a2 a3 a4 a5 a6 a7 a8 a9 b0 b1 b2 b3 b4 b5 b6 b7 b8 b9 w oA oB sA fA fB ne rA rB
                · skip
                  exact ap_8 a0 a1 a2 a3 a4 a5 a6 a7 a8 a9 b0 b1 b2 b3 b4 b5 b6 b7 b8 b9 w oA oB sA fA fB ne rA rB
            · skip
              exact ap_5 a0 a1 a2 a3 a4 a5 a6 a7 a8 a9 b0 b1 b2 b3 b4 b5 b6 b7 b8 b9 w oA oB sA fA fB ne
          · skip
            exact ap_4 a0 a1 a2 a3 a4 a5 a6 a7 a8 a9 b0 b1 b2 b3 b4 b5 b6 b7 b8 b9 w oA oB sA fA fB
        · skip
          exact ap_3 a0 a1 a2 a3 a4 a5 a6 a7 a8 a9 b0 b1 b2 b3 b4 b5 b6 b7 b8 b9 w oA oB sA fA
      · skip
        cases sB : seqB b0 b7
        · skip
          cases fA : fenB a0
          · skip
            cases fB : fenB b0
            · skip
              cases ne : (a1 != b1)
              · skip
                cases rA : rdB a0
                · skip
                  exact ap_12 a0 a1 a2 a3 a4 a5 a6 a7 a8 a9 b0 b1 b2 b3 b4 b5 b6 b7 b8 b9 w oA oB sA sB fA fB ne rA
                · skip
                  cases rB : rdB b0
                  · skip
                    exact ap_13 a0 a1 a2 a3 a4 a5 a6 a7 a8 a9 b0 b1 b2 b3 b4 b5 b6 b7 b8 b9 w oA oB sA sB fA fB ne rA rB
                  · skip
                    exact ap_14 a0 a1 a2 a3 a4 a5 a6 a7 a8 a9 b0 b1 b2 b3 b4 b5 b6 b7 b8 b9 w oA oB sA sB fA fB ne rA rB
              · skip
                exact ap_11 a0 a1 a2 a3 a4 a5 a6 a7 a8 a9 b0 b1 b2 b3 b4 b5 b6 b7 b8 b9 w oA oB sA sB fA fB ne
            · skip
              exact ap_10 a0 a1 a2 a3 a4 a5 a6 a7 a8 a9 b0 b1 b2 b3 b4 b5 b6 b7 b8 b9 w oA oB sA sB fA fB
          · skip
            exact ap_9 a0 a1 a2 a3 a4 a5 a6 a7 a8 a9 b0 b1 b2 b3 b4 b5 b6 b7 b8 b9 w oA oB sA sB fA
        · skip
          exact ap_2 a0 a1 a2 a3 a4 a5 a6 a7 a8 a9 b0 b1 b2 b3 b4 b5 b6 b7 b8 b9 w oA oB sA sB

def impl_Apart.f (a0_0 : Int) (a0_1 : Int) (a0_2 : Int) (a0_3 : Int) (a0_4 : Int) (a0_5 : Int) (a0_6 : Int) (a0_7 : Int) (a0_8 : Int) (a0_9 : Int) (a1_0 : Int) (a1_1 : Int) (a1_2 : Int) (a1_3 : Int) (a1_4 : Int) (a1_5 : Int) (a1_6 : Int) (a1_7 : Int) (a1_8 : Int) (a1_9 : Int) : Option (Bool) := some (apB a0_0 a0_1 a0_7 a1_0 a1_1 a1_7)
theorem impl_Apart.calls (a0_0 : Int) (a0_1 : Int) (a0_2 : Int) (a0_3 : Int) (a0_4 : Int) (a0_5 : Int) (a0_6 : Int) (a0_7 : Int) (a0_8 : Int) (a0_9 : Int) (a1_0 : Int) (a1_1 : Int) (a1_2 : Int) (a1_3 : Int) (a1_4 : Int) (a1_5 : Int) (a1_6 : Int) (a1_7 : Int) (a1_8 : Int) (a1_9 : Int) (r : Bool) (w : World) (h : impl_Apart.f a0_0 a0_1 a0_2 a0_3 a0_4 a0_5 a0_6 a0_7 a0_8 a0_9 a1_0 a1_1 a1_2 a1_3 a1_4 a1_5 a1_6 a1_7 a1_8 a1_9 = some r) :
    Calls Try.prog 17 #[.agg #[.int .i64 a0_0, .int .i64 a0_1, .int .i64 a0_2, .int .i64 a0_3, .int .i64 a0_4, .int .i64 a0_5, .int .i64 a0_6, .int .i64 a0_7, .int .i64 a0_8, .int .i64 a0_9], .agg #[.int .i64 a1_0, .int .i64 a1_1, .int .i64 a1_2, .int .i64 a1_3, .int .i64 a1_4, .int .i64 a1_5, .int .i64 a1_6, .int .i64 a1_7, .int .i64 a1_8, .int .i64 a1_9]] w fun e w' => e = .returned (.bool r) ∧ Below w.heap.size w w' := by
  obtain rfl := Option.some.inj h
  exact apart_any _ _ _ _ _ _ _ _ _ _ _ _ _ _ _ _ _ _ _ _ w
end Go.Proofs.Ythkngfieabdelaa.PFnExactApart
