/- Transactions: the reference's TxFair where it refuses. -/
import Derived.Test.YtonhmkllfbagmaaRunK
namespace Go.Proofs.Ytonhmkllfbagmaa.Tx
open Go.RowKit Go.Proofs.YtonhmkllfbagmaaW.PrintWords Go.Proofs.YtonhmkllfbagmaaW.PrintLast Go.Proofs.YtonhmkllfbagmaaW.PrintMore Go.Proofs.Ytonhmkllfbagmaa.PFnExactTxFair
set_option linter.unusedVariables false
set_option linter.unusedSimpArgs false
set_option maxHeartbeats 8000000 in
set_option maxRecDepth 100000 in
theorem specFairBad (w : World) (AC : Option Addr) (cC : Nat) (C : List Int) (man : Int) (AT : Option Addr) (cT : Nat) (T : List (List (List S63))) (most : Int) (k : Nat) (r : Bool) (hC : ki.C w AC C.length C) (hcC : C.length ≤ cC) (hT : kT.C w AT T.length T) (hcT : T.length ≤ cT)
    (hok : spec_TxOK.f k C man T = some r) (hbad : r = false ∨ most < 0 ∨ most > 200) :
    Calls Try.prog 20 #[.agg #[.slice AC C.length cC, .int .i64 man, .slice AT T.length cT], .int .i64 most] w fun e w' => ∃ v0, e = .returned (.tuple #[v0, .agg #[.int .i64 1, .int .i64 0, .slice none 0 0, .slice none 0 0, .slice none 0 0]]) ∧ Lie ki w' w.heap.size w'.heap.size v0 [] ∧ Below w.heap.size w w' := by
  have HC := Lib.hid hC; have HT := Lib.hid hT; have HOK := Lib.hid hok
  clear hC hT hok
  go_enter Try.func20, Try.ntmps20
  go_wp2_with fail
  obtain ⟨Wa, hWa⟩ : ∃ Wa, (w.alloc (.cells #[.slice AC C.length cC, .int .i64 man, .slice AT T.length cT] 30)).alloc (.cells #[.int .i64 0, .int .i64 0, .slice none 0 0, .slice none 0 0, .slice none 0 0] 43) = Wa := ⟨_, rfl⟩
  have BA := Lib.hid (show Below w.heap.size w Wa by rw [← hWa]; exact below_alloc (below_alloc (Below.refl _ _) _) _)
  have RB := Lib.hid (show ∀ X, Below Wa.heap.size Wa X → X.heap[w.heap.size + 1]? = some (.cells #[.int .i64 0, .int .i64 0, .slice none 0 0, .slice none 0 0, .slice none 0 0] 43 (0, 0)) by
    intro X hX
    have hlt : w.heap.size + 1 < Wa.heap.size := by rw [← hWa]; simp
    have e : (w.alloc (.cells #[.slice AC C.length cC, .int .i64 man, .slice AT T.length cT] 30)).heap.size = w.heap.size + 1 := by simp
    rw [hX.block _ hlt, ← hWa, ← e]
    exact heap_alloc_new _ _)
  rw [hWa]
  have hwa : w.heap.size + 1 < Wa.heap.size := by rw [← hWa]; simp
  clear hWa
  refine (spec_TxOK.calls k AC cC C man AT cT T r Wa (Kd.C_below HC.out BA.out) hcC (Kd.C_below HT.out BA.out) hcT HOK.out).mono ?_
  rintro e Wb ⟨rfl, hB⟩
  have BB := Lib.hid hB
  have hwb : w.heap.size + 1 < Wb.heap.size := Nat.lt_of_lt_of_le hwa BB.out.size
  clear hB
  have fin : ∀ (v0 : Value) (W2 : World), ki.R 3 W2 Wb.heap.size (fun _ => True) v0 [] → Below Wb.heap.size Wb W2 → ∃ W5 : World, (((((W2.setCell ⟨w.heap.size + 1, 0, none⟩ (.int .i64 1)).setCell ⟨w.heap.size + 1, 1, none⟩ (.int .i64 0)).setCell ⟨w.heap.size + 1, 2, none⟩ (.slice none 0 0)).setCell ⟨w.heap.size + 1, 3, none⟩ (.slice none 0 0)).setCell ⟨w.heap.size + 1, 4, none⟩ (.slice none 0 0)) = W5 ∧ W5.heap[w.heap.size + 1]? = some (.cells #[.int .i64 1, .int .i64 0, .slice none 0 0, .slice none 0 0, .slice none 0 0] 43 (0, 0)) ∧ Lie ki W5 w.heap.size W5.heap.size v0 [] ∧ Below w.heap.size w W5 := by
    intro v0 W2 hO hB
    have rb := RB.out W2 (below_step BB.out hB)
    refine ⟨_, rfl, blk_set (blk_set (blk_set (blk_set (blk_set rb 0 _) 1 _) 2 _) 3 _) 4 _, ?_, ?_⟩
    · refine Lie.of (Kd.R_lower (Kd.R_step (Kd.R_bound hO) (fun b hb _ => ?_)) (by omega))
      have hne : b ≠ w.heap.size + 1 := by have := hb.2.1; omega
      exact (Below.heap_setCell _ _ _ b hne).trans ((Below.heap_setCell _ _ _ b hne).trans ((Below.heap_setCell _ _ _ b hne).trans ((Below.heap_setCell _ _ _ b hne).trans (Below.heap_setCell _ _ _ b hne))))
    · have hle : w.heap.size ≤ w.heap.size + 1 := Nat.le_succ _
      exact (((((below_step (below_step BA.out BB.out) hB).setCell (p := ⟨w.heap.size + 1, 0, none⟩) hle _).setCell (p := ⟨w.heap.size + 1, 1, none⟩) hle _).setCell (p := ⟨w.heap.size + 1, 2, none⟩) hle _).setCell (p := ⟨w.heap.size + 1, 3, none⟩) hle _).setCell (p := ⟨w.heap.size + 1, 4, none⟩) hle _
  have FIN := Lib.hid fin
  clear fin
  rcases r with _ | _
  · go_wp2_with ((with_reducible refine gate_dst (N := 21) rfl ?_); refine Kd.R_lit ki (w0 := Wb) Wb.heap.size 3 rfl (N := 21) rfl (xs := ([] : List Int)) (inner := []) (ok := fun _ => True) (okp := fun _ => False) (by go_simp) (Reps.none _ _) (fun _ hk => hk.elim) trivial (Below.refl _ _) (Nat.le_refl _) (by simp) ?_; intro v0 W2 hO0 hB0 hg0 hn0; have rb := RB.out W2 (below_step BB.out hB0); have r0 := blk_cell rb 0; have r1 := blk_cell rb 1; have r2 := blk_cell rb 2; have r3 := blk_cell rb 3; have r4 := blk_cell rb 4; simp only [List.getElem?_toArray, List.getElem?_cons_succ, List.getElem?_cons_zero] at r0 r1 r2 r3 r4; have z0 : ∀ o, W2.frozen? ⟨w.heap.size + 1, o, none⟩ = false := fun o => by simp [World.frozen?, rb])
    obtain ⟨W5, hW5, hb5, hR5, hB5⟩ := FIN.out v0 W2 hO0 hB0
    rw [hW5]
    refine bodyPost_ret (ret20 rfl _ _ (w.heap.size + 1) _ _ _ _ _ _ rfl rfl ((blk_cell hb5 0).trans rfl) ((blk_cell hb5 1).trans rfl) ((blk_cell hb5 2).trans rfl) ((blk_cell hb5 3).trans rfl) ((blk_cell hb5 4).trans rfl)) rfl ?_
    exact ⟨_, rfl, hR5, hB5⟩
  · have hb2 : most < 0 ∨ most > 200 := hbad.resolve_left (by decide)
    by_cases h0 : most < 0
    · have q1 := decide_eq_true h0
      go_wp2_with ((with_reducible refine gate_dst (N := 21) rfl ?_); refine Kd.R_lit ki (w0 := Wb) Wb.heap.size 3 rfl (N := 21) rfl (xs := ([] : List Int)) (inner := []) (ok := fun _ => True) (okp := fun _ => False) (by go_simp) (Reps.none _ _) (fun _ hk => hk.elim) trivial (Below.refl _ _) (Nat.le_refl _) (by simp) ?_; intro v0 W2 hO0 hB0 hg0 hn0; have rb := RB.out W2 (below_step BB.out hB0); have r0 := blk_cell rb 0; have r1 := blk_cell rb 1; have r2 := blk_cell rb 2; have r3 := blk_cell rb 3; have r4 := blk_cell rb 4; simp only [List.getElem?_toArray, List.getElem?_cons_succ, List.getElem?_cons_zero] at r0 r1 r2 r3 r4; have z0 : ∀ o, W2.frozen? ⟨w.heap.size + 1, o, none⟩ = false := fun o => by simp [World.frozen?, rb])
      obtain ⟨W5, hW5, hb5, hR5, hB5⟩ := FIN.out v0 W2 hO0 hB0
      rw [hW5]
      refine bodyPost_ret (ret20 rfl _ _ (w.heap.size + 1) _ _ _ _ _ _ rfl rfl ((blk_cell hb5 0).trans rfl) ((blk_cell hb5 1).trans rfl) ((blk_cell hb5 2).trans rfl) ((blk_cell hb5 3).trans rfl) ((blk_cell hb5 4).trans rfl)) rfl ?_
      exact ⟨_, rfl, hR5, hB5⟩
    · have q1 := decide_eq_false h0
      have q2 := decide_eq_true (hb2.resolve_left h0)
      go_wp2_with ((with_reducible refine gate_dst (N := 21) rfl ?_); refine Kd.R_lit ki (w0 := Wb) Wb.heap.size 3 rfl (N := 21) rfl (xs := ([] : List Int)) (inner := []) (ok := fun _ => True) (okp := fun _ => False) (by go_simp) (Reps.none _ _) (fun _ hk => hk.elim) trivial (Below.refl _ _) (Nat.le_refl _) (by simp) ?_; intro v0 W2 hO0 hB0 hg0 hn0; have rb := RB.out W2 (below_step BB.out hB0); have r0 := blk_cell rb 0; have r1 := blk_cell rb 1; have r2 := blk_cell rb 2; have r3 := blk_cell rb 3; have r4 := blk_cell rb 4; simp only [List.getElem?_toArray, List.getElem?_cons_succ, List.getElem?_cons_zero] at r0 r1 r2 r3 r4; have z0 : ∀ o, W2.frozen? ⟨w.heap.size + 1, o, none⟩ = false := fun o => by simp [World.frozen?, rb])
      obtain ⟨W5, hW5, hb5, hR5, hB5⟩ := FIN.out v0 W2 hO0 hB0
      rw [hW5]
      refine bodyPost_ret (ret20 rfl _ _ (w.heap.size + 1) _ _ _ _ _ _ rfl rfl ((blk_cell hb5 0).trans rfl) ((blk_cell hb5 1).trans rfl) ((blk_cell hb5 2).trans rfl) ((blk_cell hb5 3).trans rfl) ((blk_cell hb5 4).trans rfl)) rfl ?_
      exact ⟨_, rfl, hR5, hB5⟩
end Go.Proofs.Ytonhmkllfbagmaa.Tx
