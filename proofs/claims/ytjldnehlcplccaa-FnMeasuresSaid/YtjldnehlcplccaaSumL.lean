/- Floats: Summary at every argument, and the measures held against each other. -/
import Derived.Test.YtjldnehlcplccaaSumS
namespace Go.Proofs.Ytjldnehlcplccaa.Flo
open Go.RowKit Go.Proofs.YtjldnehlcplccaaW.PrintWords Go.Proofs.YtjldnehlcplccaaW.PrintLast Go.Proofs.YtjldnehlcplccaaW.PrintMore
open Ieee
set_option linter.unusedSimpArgs false
set_option linter.unusedVariables false
attribute [local go_sem] run_store_float

def sC (xs : List Nat) : Int := if 1000 < xs.length then 10 else if xs.length = 0 then 7 else 0
def sN (xs : List Nat) : Int := if 1000 < xs.length ∨ xs.length = 0 then 0 else (xs.length : Int)
def sMean (xs : List Nat) : Datum := if 1000 < xs.length ∨ xs.length = 0 then cd 0 else meanAt (fun i => cd (rdOf 0 xs (i : Int))) xs.length
def sVar (xs : List Nat) : Datum := if 1000 < xs.length ∨ xs.length = 0 then cd 0 else fop .quo (sqAt (fun i => cd (rdOf 0 xs (i : Int))) xs.length) (cd (floatOfInt .f64 (xs.length : Int)))
def sMin (xs : List Nat) : Nat := if 1000 < xs.length ∨ xs.length = 0 then 0 else minAt (fun i => rdOf 0 xs (i : Int)) xs.length
def sMax (xs : List Nat) : Nat := if 1000 < xs.length ∨ xs.length = 0 then 0 else maxAt (fun i => rdOf 0 xs (i : Int)) xs.length
def SumAns (xs : List Nat) (w w' : World) (e : Ending) : Prop := AnsM w w' e (sC xs) (sN xs) (sMean xs) (sVar xs) (sMin xs) (sMax xs)
theorem SumAns.main {xs : List Nat} {w w' : World} {e : Ending} (h0 : 0 < xs.length) (h1 : xs.length ≤ 1000) (h : AnsM w w' e 0 (xs.length : Int) (meanAt (fun i => cd (rdOf 0 xs (i : Int))) xs.length) (fop .quo (sqAt (fun i => cd (rdOf 0 xs (i : Int))) xs.length) (cd (floatOfInt .f64 (xs.length : Int)))) (minAt (fun i => rdOf 0 xs (i : Int)) xs.length) (maxAt (fun i => rdOf 0 xs (i : Int)) xs.length)) : SumAns xs w w' e := by
  have hn : ¬ (1000 < xs.length ∨ xs.length = 0) := by omega
  have hc : sC xs = 0 := by unfold sC; rw [if_neg (by omega), if_neg (by omega)]
  have hN : sN xs = (xs.length : Int) := by unfold sN; rw [if_neg hn]
  unfold SumAns sMean sVar sMin sMax
  rw [hc, hN, if_neg hn, if_neg hn, if_neg hn, if_neg hn]
  exact h
theorem SumAns.short {xs : List Nat} {w w' : World} {e : Ending} (h : 1000 < xs.length ∨ xs.length = 0) (he : e = .returned (.tuple #[.agg #[.int .i64 0, .float .f64 0, .float .f64 0, .float .f64 0, .float .f64 0], .int .i64 (sC xs)])) (hB : Below w.heap.size w w') : SumAns xs w w' e := by
  have hN : sN xs = 0 := by unfold sN; rw [if_pos h]
  unfold SumAns sMean sVar sMin sMax
  rw [hN, if_pos h, if_pos h, if_pos h, if_pos h]
  exact AnsM.mk 0 0 he rfl rfl hB

set_option maxHeartbeats 2000000 in
set_option maxRecDepth 100000 in
theorem implSummary (v : Value) (xs : List Nat) (w : World) (h : Rd fl w v xs) : Calls Try.prog 16 #[v] w fun e w' => SumAns xs w w' e := by
  by_cases hs : 1000 < xs.length ∨ xs.length = 0
  · obtain ⟨A, c, rfl, hc, hr⟩ := h
    clear hr
    rcases hs with hs | hs
    · have hC : sC xs = 10 := by unfold sC; rw [if_pos hs]
      have HS := Lib.hid hs
      have hgt : 1000 < (xs.length : Int) := by omega
      clear hs
      have HC := Lib.hid hC
      clear hC
      go_enter Try.func16, Try.ntmps16
      go_wp2_with fail
      refine bodyPost_ret (v := .tuple #[.agg #[.int .i64 0, .float .f64 0, .float .f64 0, .float .f64 0, .float .f64 0], .int .i64 10]) ((results_cell_tmp rfl _ _ _).trans ?_) rfl ?_
      · go_simp
      · refine SumAns.short (.inl HS.out) (by rw [HC.out]) ?_
        repeat (first | exact Below.refl _ _ | exact (Below.refl _ w).alloc (Nat.le_refl _) _ | refine below_set ?_ (by simp) | refine below_alloc ?_ _)
    · have hC : sC xs = 7 := by unfold sC; rw [if_neg (by omega), if_pos hs]
      have h81 : ((xs.length : Int) == 0) = true := by rw [beq_iff_eq]; omega
      have hgt : ¬ 1000 < (xs.length : Int) := by omega
      have HS := Lib.hid hs
      have HC := Lib.hid hC
      clear hs hC
      go_enter Try.func16, Try.ntmps16
      go_wp2_with fail
      refine bodyPost_ret (v := .tuple #[.agg #[.int .i64 0, .float .f64 0, .float .f64 0, .float .f64 0, .float .f64 0], .int .i64 7]) ((results_cell_tmp rfl _ _ _).trans ?_) rfl ?_
      · go_simp
      · refine SumAns.short (.inr HS.out) (by rw [HC.out]) ?_
        repeat (first | exact Below.refl _ _ | exact (Below.refl _ w).alloc (Nat.le_refl _) _ | refine below_set ?_ (by simp) | refine below_alloc ?_ _)
  · exact (implSummary0 v xs w h (by omega) (by omega)).mono fun e w' ha => SumAns.main (by omega) (by omega) ha

set_option maxHeartbeats 2000000 in
set_option maxRecDepth 100000 in
theorem specSummary (v : Value) (xs : List Nat) (w : World) (h : Rd fl w v xs) : Calls Try.prog 15 #[v] w fun e w' => SumAns xs w w' e := by
  by_cases hs : 1000 < xs.length ∨ xs.length = 0
  · obtain ⟨A, c, rfl, hc, hr⟩ := h
    clear hr
    rcases hs with hs | hs
    · have hC : sC xs = 10 := by unfold sC; rw [if_pos hs]
      have HS := Lib.hid hs
      have hgt : 1000 < (xs.length : Int) := by omega
      clear hs
      have HC := Lib.hid hC
      clear hC
      go_enter Try.func15, Try.ntmps15
      go_wp2_with fail
      refine bodyPost_ret (v := .tuple #[.agg #[.int .i64 0, .float .f64 0, .float .f64 0, .float .f64 0, .float .f64 0], .int .i64 10]) ((results_cell_tmp rfl _ _ _).trans ?_) rfl ?_
      · go_simp
      · refine SumAns.short (.inl HS.out) (by rw [HC.out]) ?_
        repeat (first | exact Below.refl _ _ | exact (Below.refl _ w).alloc (Nat.le_refl _) _ | refine below_set ?_ (by simp) | refine below_alloc ?_ _)
    · have hC : sC xs = 7 := by unfold sC; rw [if_neg (by omega), if_pos hs]
      have h81 : ((xs.length : Int) == 0) = true := by rw [beq_iff_eq]; omega
      have hgt : ¬ 1000 < (xs.length : Int) := by omega
      have HS := Lib.hid hs
      have HC := Lib.hid hC
      clear hs hC
      go_enter Try.func15, Try.ntmps15
      go_wp2_with fail
      refine bodyPost_ret (v := .tuple #[.agg #[.int .i64 0, .float .f64 0, .float .f64 0, .float .f64 0, .float .f64 0], .int .i64 7]) ((results_cell_tmp rfl _ _ _).trans ?_) rfl ?_
      · go_simp
      · refine SumAns.short (.inr HS.out) (by rw [HC.out]) ?_
        repeat (first | exact Below.refl _ _ | exact (Below.refl _ w).alloc (Nat.le_refl _) _ | refine below_set ?_ (by simp) | refine below_alloc ?_ _)
  · exact (specSummary0 v xs w h (by omega) (by omega)).mono fun e w' ha => SumAns.main (by omega) (by omega) ha

set_option maxHeartbeats 2000000 in
set_option maxRecDepth 100000 in
theorem eqMeasure (N : Int) (a b a' b' mn mx : Nat) (w : World) (ha : cd a = cd a') (hb : cd b = cd b') :
    Calls Try.prog 17 #[.agg #[.int .i64 N, .float .f64 a, .float .f64 b, .float .f64 mn, .float .f64 mx], .agg #[.int .i64 N, .float .f64 a', .float .f64 b', .float .f64 mn, .float .f64 mx]] w fun e w' => e = .returned (.bool true) ∧ Below w.heap.size w w' := by
  have HA := Lib.hid ha
  have HB := Lib.hid hb
  clear ha hb
  go_enter Try.func17, Try.ntmps17
  go_wp2_with (go_at_call 30; (first | (with_reducible refine (sameFloat_true _ _ _ HA.out).mono ?_) | (with_reducible refine (sameFloat_true _ _ _ HB.out).mono ?_) | (with_reducible refine (sameFloat_true _ _ _ rfl).mono ?_)); rintro e w9 ⟨rfl, n9, rfl⟩)
  go_ret
  exact ⟨rfl, by repeat (first | exact Below.refl _ _ | refine pw_below_drewN ?_ _ | refine below_set ?_ (by simp) | refine below_alloc ?_ _)⟩
end Go.Proofs.Ytjldnehlcplccaa.Flo
