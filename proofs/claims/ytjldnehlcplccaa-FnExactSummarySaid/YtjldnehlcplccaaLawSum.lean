/- Floats: the law FnExactSummary, walked: it answers true. -/
import Derived.Test.YtjldnehlcplccaaOwn
import Derived.Test.YtjldnehlcplccaaSumL
namespace Go.Proofs.Ytjldnehlcplccaa.Flo
open Go.RowKit Go.Proofs.YtjldnehlcplccaaW.PrintWords Go.Proofs.YtjldnehlcplccaaW.PrintLast Go.Proofs.YtjldnehlcplccaaW.PrintMore
open Ieee
set_option linter.unusedSimpArgs false
set_option linter.unusedVariables false
attribute [local go_sem] run_store_float

/-- A measure in a block of its own. -/
def Box (w : World) (b : Nat) (N : Int) (x y z u : Nat) : Prop := b < w.heap.size ∧ w.cell? ⟨b, 0, none⟩ = some (.int .i64 N) ∧ w.cell? ⟨b, 1, none⟩ = some (.float .f64 x) ∧ w.cell? ⟨b, 2, none⟩ = some (.float .f64 y) ∧ w.cell? ⟨b, 3, none⟩ = some (.float .f64 z) ∧ w.cell? ⟨b, 4, none⟩ = some (.float .f64 u)
theorem Box.new (w : World) (N : Int) (x y z u : Nat) : Box (w.alloc (.cells #[.int .i64 N, .float .f64 x, .float .f64 y, .float .f64 z, .float .f64 u] 31)) w.heap.size N x y z u := by
  have h : ∀ o, (w.alloc (.cells #[.int .i64 N, .float .f64 x, .float .f64 y, .float .f64 z, .float .f64 u] 31)).cell? ⟨w.heap.size, o, none⟩ = (#[.int .i64 N, .float .f64 x, .float .f64 y, .float .f64 z, .float .f64 u] : Array Value)[o]? := fun o => cell_of_row _ _ o _ 31 (0, 0) (heap_alloc_new w _)
  exact ⟨by simp, h 0, h 1, h 2, h 3, h 4⟩
theorem Box.below {w w' : World} {b : Nat} {N : Int} {x y z u : Nat} (h : Box w b N x y z u) (hB : Below w.heap.size w w') : Box w' b N x y z u := by
  have hc : ∀ o, w'.cell? ⟨b, o, none⟩ = w.cell? ⟨b, o, none⟩ := fun o => hB.cell (p := ⟨b, o, none⟩) h.1
  unfold Box
  rw [hc 0, hc 1, hc 2, hc 3, hc 4]
  exact ⟨Nat.lt_of_lt_of_le h.1 hB.size, h.2⟩

set_option maxHeartbeats 4000000 in
set_option maxRecDepth 100000 in
theorem lawSummary (vA : Value) (xs : List Nat) (w : World) (h : Rd fl w vA xs) :
    Calls Try.prog 4 #[vA] w fun e w' => e = .returned (.bool true) ∧ Below w.heap.size w w' := by
  have HA := Lib.hid h
  obtain ⟨A, c, rfl, hc, hr⟩ := h
  clear hr
  by_cases hl : 1048576 < (xs.length : Int)
  · go_enter Try.func4, Try.ntmps4
    go_wp2_with fail
    go_ret
    exact ⟨rfl, Below.refl _ _⟩
  · have hl1 : xs.length ≤ 1048576 := by omega
    go_enter Try.func4, Try.ntmps4
    go_wp2_with fail
    refine (toF _ _ _ HA.out hl1).mono ?_
    rintro e w1 ⟨v1, rfl, hR, hB⟩
    have O1 := Lib.hid (Own.new hR (Nat.le_refl _))
    have B1 := Lib.hid hB
    clear hR hB
    go_wp2_with fail
    refine (specSummary v1 xs w1 O1.out.rd).mono ?_
    rintro e w2 ⟨aw, bw, rfl, haw, hbw, hB⟩
    have EA := Lib.hid haw; have EB := Lib.hid hbw; clear haw hbw
    have B2 := Lib.hid (below_step B1.out hB)
    clear hB O1 B1
    go_wp2_with fail
    obtain ⟨W2, hW2⟩ : ∃ W, W = w2.alloc (.cells #[.int .i64 (sN xs), .float .f64 aw, .float .f64 bw, .float .f64 (sMin xs), .float .f64 (sMax xs)] 31) := ⟨_, rfl⟩
    have C2 := Lib.hid (show Box W2 w2.heap.size (sN xs) aw bw (sMin xs) (sMax xs) by rw [hW2]; exact Box.new w2 _ _ _ _ _)
    have B3 := Lib.hid (show Below w.heap.size w W2 by rw [hW2]; exact B2.out.alloc B2.out.size _)
    have HW2 := Lib.hid hW2
    clear hW2 B2
    rw [← HW2.out]
    refine (toF _ _ _ (HA.out.below B3.out) hl1).mono ?_
    rintro e w3 ⟨vx, rfl, hR, hB⟩
    have OX := Lib.hid (Own.new hR (Nat.le_refl _))
    have C3 := Lib.hid (C2.out.below hB)
    have B4 := Lib.hid (below_step B3.out hB)
    clear hR hB C2 B3
    go_wp2_with fail
    refine (implSummary vx xs w3 OX.out.rd).mono ?_
    rintro e w4 ⟨ag, bg, rfl, hag, hbg, hB⟩
    have FA := Lib.hid (hag.trans EA.out.symm); have FB := Lib.hid (hbg.trans EB.out.symm); clear hag hbg
    have OX4 := Lib.hid (OX.out.below hB)
    have C4 := Lib.hid (C3.out.below hB)
    have B5 := Lib.hid (below_step B4.out hB)
    clear hB OX C3 B4
    obtain ⟨W4, hW4⟩ : ∃ W, W = w4.alloc (.cells #[.int .i64 (sN xs), .float .f64 ag, .float .f64 bg, .float .f64 (sMin xs), .float .f64 (sMax xs)] 31) := ⟨_, rfl⟩
    have hBW : Below w4.heap.size w4 W4 := by rw [hW4]; exact (Below.refl _ w4).alloc (Nat.le_refl _) _
    have D4 := Lib.hid (show Box W4 w4.heap.size (sN xs) ag bg (sMin xs) (sMax xs) by rw [hW4]; exact Box.new w4 _ _ _ _ _)
    have C5 := Lib.hid (C4.out.below hBW)
    have OX5 := Lib.hid (OX4.out.below hBW)
    have B6 := Lib.hid (below_step B5.out hBW)
    have HW4 := Lib.hid hW4
    clear hW4 hBW C4 OX4 B5
    have cc : ∀ o, (w4.alloc (.cells #[.int .i64 (sN xs), .float .f64 ag, .float .f64 bg, .float .f64 (sMin xs), .float .f64 (sMax xs)] 31)).cell? ⟨w2.heap.size, o, none⟩ = W4.cell? ⟨w2.heap.size, o, none⟩ := fun o => by rw [← HW4.out]
    have c0 := (cc 0).trans C5.out.2.1
    have c1 := (cc 1).trans C5.out.2.2.1
    have c2 := (cc 2).trans C5.out.2.2.2.1
    have c3 := (cc 3).trans C5.out.2.2.2.2.1
    have c4 := (cc 4).trans C5.out.2.2.2.2.2
    clear cc
    go_wp2_with fail
    rw [← HW4.out]
    refine (eqMeasure _ _ _ _ _ _ _ _ FA.out FB.out).mono ?_
    rintro e w5 ⟨rfl, hB⟩
    have OX6 := Lib.hid (OX5.out.below hB)
    have B7 := Lib.hid (below_step B6.out hB)
    clear hB OX5 B6 D4 C5 c0 c1 c2 c3 c4
    go_wp2_with fail
    refine (toF _ _ _ (HA.out.below B7.out) hl1).mono ?_
    rintro e w6 ⟨vt, rfl, hR, hB⟩
    have OT := Lib.hid (Own.new hR (Nat.le_refl _))
    have OX7 := Lib.hid (OX6.out.below hB)
    have B8 := Lib.hid (below_step B7.out hB)
    clear hR hB OX6 B7
    go_wp2_with fail
    refine (eqF vx vt xs xs _ OX7.out.rd OT.out.rd rfl hl1).mono ?_
    rintro e w7 ⟨rfl, n, rfl⟩
    go_wp2_with fail
    go_ret
    exact ⟨rfl, pw_below_drewN B8.out n⟩
end Go.Proofs.Ytjldnehlcplccaa.Flo
