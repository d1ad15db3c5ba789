/- Transactions: the reference's giveUp, own, see. -/
import Derived.Test.YtonhmkllfbagmaaRunS
namespace Go.Proofs.Ytonhmkllfbagmaa.Tx
open Go.RowKit Go.Proofs.YtonhmkllfbagmaaW.PrintWords Go.Proofs.YtonhmkllfbagmaaW.PrintLast Go.Proofs.YtonhmkllfbagmaaW.PrintMore Go.Proofs.Ytonhmkllfbagmaa.PFnExactTxFair
set_option linter.unusedVariables false
set_option linter.unusedSimpArgs false
set_option maxHeartbeats 4000000 in
set_option maxRecDepth 100000 in
theorem giveUpC (P : Par) (w0 w : World) (D : Dyn) (S : St) (i : Nat) (h : Run P w0 w D S) (hi : i < P.n) (hn : P.n ≤ 1000) (hnc : P.nc ≤ 1000) (hl : S.events.length ≤ 100000) :
    Calls Try.prog 57 #[.pointer (some ⟨D.blk .g, 0, none⟩), .int .i64 (i : Int)] w fun e w' => e = .returned (.tuple #[]) ∧ ∃ V, Run P w0 w' { D with V := V } (giveUp S i) ∧ Fr P w w' D { D with V := V } S (giveUp S i) := by
  have hin := eq_true (show (i : Int) < (P.n : Int) by omega)
  go_enter Try.func57, Try.ntmps57
  go_wp2_with fail
  refine (eventC P w0 w D S i 4 0 0 h hi hn hl).mono ?_
  rintro e w1 ⟨rfl, V, h1, k1⟩
  have H1 := Lib.hid h1
  have K1 := Lib.hid k1
  clear h1 h k1
  go_wp2_with fail
  refine (freeC P w0 w1 { D with V := V } _ i H1.out hnc).mono ?_
  rintro e w2 ⟨rfl, h2, k2⟩
  have K2 := Lib.hid ((K1.out.trans k2).trans ((Fr.set { D with V := V } _ { free (event S i 4 0 0) i with try_ := up S.try_ i (inc (S.try_ i)) } .t trivial (fun _ h => h) (i * 10 + 1) (.int .i64 (inc (S.try_ i)))).trans (Fr.set { D with V := V } _ (giveUp S i) .t trivial (fun j hj => by cases j <;> first | trivial | exact ⟨hj.1, up_b hj.2⟩) (i * 10 + 2) (.bool false))))
  clear k2
  have g6 := h2.g 6 (by decide)
  have t1 : w2.cell? ⟨D.blk .t, i * 10 + 1, none⟩ = some (.int .i64 (S.try_ i)) := h2.t i 1 hi (by decide)
  have t2 : w2.cell? ⟨D.blk .t, i * 10 + 2, none⟩ = some (.bool (S.begun i)) := h2.t i 2 hi (by decide)
  simp only [gRow] at g6
  have f1 := h2.thaw .t trivial (i * 10 + 1)
  have f2 := h2.thaw .t trivial (i * 10 + 2)
  have hA := h2.set_try_ i hi (inc (S.try_ i))
  have g6' := hA.g 6 (by decide)
  simp only [gRow] at g6'
  have HB := Lib.hid (show Run P w0 ((w2.setCell ⟨D.blk .t, i * 10 + 1, none⟩ (.int .i64 (inc (S.try_ i)))).setCell ⟨D.blk .t, i * 10 + 2, none⟩ (.bool false)) { D with V := V } (giveUp S i) from hA.set_begun i hi)
  clear h2 hA H1
  go_wp2_with fail
  go_end0
  exact ⟨rfl, V, HB.out, K2.out⟩
set_option maxHeartbeats 8000000 in
set_option maxRecDepth 100000 in
theorem ownC (P : Par) (w0 w : World) (D : Dyn) (S : St) (i c : Nat) (h : Run P w0 w D S) (hi : i < P.n) (hc : c < P.nc) (hn : P.n ≤ 1000) (hnc : P.nc ≤ 1000) (hl : S.events.length ≤ 100000) (hman : 1 ≤ P.man ∧ P.man ≤ 4) (ho : S.owners c = -1 ∨ ∃ o : Nat, o < P.n ∧ S.owners c = (o : Int)) :
    Calls Try.prog 59 #[.pointer (some ⟨D.blk .g, 0, none⟩), .int .i64 (i : Int), .int .i64 (c : Int)] w fun e w' => e = .returned (.bool (own P.man S i c).1) ∧ ∃ V, Run P w0 w' { D with V := V } (own P.man S i c).2 ∧ Fr P w w' D { D with V := V } S (own P.man S i c).2 := by
  have hin := eq_true (show (i : Int) < (P.n : Int) by omega)
  have hcn := eq_true (show (c : Int) < (P.nc : Int) by omega)
  have g5 := h.g 5 (by decide); have g6 := h.g 6 (by decide); have g1 := h.g 1 (by decide)
  have o1 := h.o c hc; have fo := h.thaw .o trivial c
  simp only [gRow] at g5 g6 g1
  by_cases hA : S.owners c = -1 ∨ S.owners c = (i : Int)
  · have e : own P.man S i c = (true, { S with owners := up S.owners c (i : Int) }) := by unfold own; rw [if_pos hA]
    rw [e]
    have HB := Lib.hid (h.set_owners c hc (i : Int))
    have KB := Lib.hid (Fr.set (P := P) (w := w) D S { S with owners := up S.owners c (i : Int) } .o trivial (fun _ h => h) c (.int .i64 (i : Int)))
    clear h e ho g6 g1
    rcases hA with hA | hA
    · rw [hA] at o1
      clear hA
      go_enter Try.func59, Try.ntmps59
      go_wp2_with fail
      go_ret
      exact ⟨rfl, D.V, HB.out, KB.out⟩
    · rw [hA] at o1
      have n1 : (((i : Int)) == -1) = false := beq_eq_false_iff_ne.mpr (by omega)
      clear hA
      go_enter Try.func59, Try.ntmps59
      go_wp2_with fail
      go_ret
      exact ⟨rfl, D.V, HB.out, KB.out⟩
  · obtain ⟨o, hon, hoe⟩ : ∃ o : Nat, o < P.n ∧ S.owners c = (o : Int) := by
      rcases ho with ho | ho
      · exact absurd (.inl ho) hA
      · exact ho
    have hne : o ≠ i := fun e => hA (.inr (by rw [hoe, e]))
    have n1 : (((o : Int)) == -1) = false := beq_eq_false_iff_ne.mpr (by omega)
    have n2 : (((o : Int)) == (i : Int)) = false := beq_eq_false_iff_ne.mpr (by omega)
    have hons := eq_true (show (o : Int) < (P.n : Int) by omega)
    have e0 : (S.owners c).toNat = o := by rw [hoe, Int.toNat_natCast]
    rw [hoe] at o1
    have hOwn : own P.man S i c = if P.man = 3 ∧ S.start o ≤ S.start i then (false, event S i 5 (c : Int) 0) else if P.man = 2 ∨ P.man = 3 ∨ (P.man = 4 ∧ S.weight o < S.weight i) then (true, { giveUp S o with owners := up (giveUp S o).owners c (i : Int) }) else (false, giveUp S i) := by unfold own; rw [if_neg hA, e0]
    have cUp := fun j (hj : j < P.n) => giveUpC P w0 w D S j h hj hn hnc hl
    have t5 : w.cell? ⟨D.blk .t, i * 10 + 5, none⟩ = some (.int .i64 (S.start i)) := h.t i 5 hi (by decide)
    have s5 : w.cell? ⟨D.blk .t, o * 10 + 5, none⟩ = some (.int .i64 (S.start o)) := h.t o 5 hon (by decide)
    have t6 : w.cell? ⟨D.blk .t, i * 10 + 6, none⟩ = some (.int .i64 (S.weight i)) := h.t i 6 hi (by decide)
    have s6 : w.cell? ⟨D.blk .t, o * 10 + 6, none⟩ = some (.int .i64 (S.weight o)) := h.t o 6 hon (by decide)
    have H := Lib.hid h
    clear h hA e0 hoe ho
    -- the other one gives up
    have hm : P.man = 1 ∨ P.man = 2 ∨ P.man = 3 ∨ P.man = 4 := by omega
    have takeover : ∀ w1 V, Run P w0 w1 { D with V := V } (giveUp S o) → Run P w0 (w1.setCell ⟨D.blk .o, c, none⟩ (.int .i64 (i : Int))) { D with V := V } { giveUp S o with owners := up (giveUp S o).owners c (i : Int) } := fun w1 V h1 => h1.set_owners c hc (i : Int)
    have takeF : ∀ w1 V, Fr P w w1 D { D with V := V } S (giveUp S o) → Fr P w (w1.setCell ⟨D.blk .o, c, none⟩ (.int .i64 (i : Int))) D { D with V := V } S { giveUp S o with owners := up (giveUp S o).owners c (i : Int) } := fun w1 V h1 => h1.trans (Fr.set { D with V := V } _ _ .o trivial (fun _ h => h) c _)
    have facts : ∀ w1 V, Run P w0 w1 { D with V := V } (giveUp S o) → w1.cell? ⟨D.blk .g, 5, none⟩ = some (.slice (some ⟨D.blk .o, 0, none⟩) P.nc P.cO) ∧ w1.cell? ⟨D.blk .o, c, none⟩ = some (.int .i64 ((giveUp S o).owners c)) ∧ w1.frozen? ⟨D.blk .o, c, none⟩ = false := fun w1 V h1 => ⟨h1.g 5 (by decide), h1.o c hc, h1.thaw .o trivial c⟩
    rcases hm with hm | hm | hm | hm
    · rw [hm] at g1
      have e : own P.man S i c = (false, giveUp S i) := by rw [hOwn, if_neg (by omega), if_neg (by omega)]
      rw [e]
      clear hOwn e t5 s5 t6 s6 takeover facts takeF
      go_enter Try.func59, Try.ntmps59
      go_wp2_with fail
      refine (cUp i hi).mono ?_
      rintro e w1 ⟨rfl, V, h1, k1⟩
      have H1 := Lib.hid h1
      have K1 := Lib.hid k1
      clear h1 cUp k1
      go_wp2_with fail
      go_ret
      exact ⟨rfl, V, H1.out, K1.out⟩
    · rw [hm] at g1
      have e : own P.man S i c = (true, { giveUp S o with owners := up (giveUp S o).owners c (i : Int) }) := by rw [hOwn, if_neg (by omega), if_pos (by omega)]
      rw [e]
      clear hOwn e t5 s5 t6 s6
      go_enter Try.func59, Try.ntmps59
      go_wp2_with fail
      refine (cUp o hon).mono ?_
      rintro e w1 ⟨rfl, V, h1, k1⟩
      obtain ⟨a1, a2, a3⟩ := facts w1 V h1
      have H1 := Lib.hid (takeover w1 V h1)
      have K1 := Lib.hid (takeF w1 V k1)
      clear h1 cUp facts takeover takeF k1
      go_wp2_with fail
      go_ret
      exact ⟨rfl, V, H1.out, K1.out⟩
    · rw [hm] at g1
      by_cases hs : S.start o ≤ S.start i
      · have e : own P.man S i c = (false, event S i 5 (c : Int) 0) := by rw [hOwn, if_pos ⟨hm, hs⟩]
        rw [e]
        have q1 : decide (S.start i ≥ S.start o) = true := decide_eq_true hs
        have q2 : decide (S.start o ≤ S.start i) = true := decide_eq_true hs
        clear hOwn e t6 s6 takeover facts cUp takeF
        go_enter Try.func59, Try.ntmps59
        go_wp2_with fail
        go_quiet (fail)
        go_wp2_with fail
        refine (eventC P w0 _ D S i 5 (c : Int) 0 (H.out.step (pw_below_drewN (Below.refl _ _) _)) hi hn hl).mono ?_
        rintro e w1 ⟨rfl, V, h1, k1⟩
        have H1 := Lib.hid h1
        have K1 := Lib.hid ((Fr.below D S (pw_below_drewN (Below.refl _ _) _)).trans k1)
        clear h1 k1
        go_wp2_with fail
        go_ret
        exact ⟨rfl, V, H1.out, K1.out⟩
      · have e : own P.man S i c = (true, { giveUp S o with owners := up (giveUp S o).owners c (i : Int) }) := by rw [hOwn, if_neg (by omega), if_pos (by omega)]
        rw [e]
        have q1 : decide (S.start i ≥ S.start o) = false := decide_eq_false hs
        have q2 : decide (S.start o ≤ S.start i) = false := decide_eq_false hs
        clear hOwn e t6 s6 cUp
        go_enter Try.func59, Try.ntmps59
        go_wp2_with fail
        go_quiet (fail)
        go_wp2_with fail
        refine (giveUpC P w0 _ D S o (H.out.step (pw_below_drewN (Below.refl _ _) _)) hon hn hnc hl).mono ?_
        rintro e w1 ⟨rfl, V, h1, k1⟩
        obtain ⟨a1, a2, a3⟩ := facts w1 V h1
        have H1 := Lib.hid (takeover w1 V h1)
        have K1 := Lib.hid (takeF w1 V ((Fr.below D S (pw_below_drewN (Below.refl _ _) _)).trans k1))
        clear h1 facts takeover takeF k1
        go_wp2_with fail
        go_ret
        exact ⟨rfl, V, H1.out, K1.out⟩
    · rw [hm] at g1
      by_cases hs : S.weight o < S.weight i
      · have e : own P.man S i c = (true, { giveUp S o with owners := up (giveUp S o).owners c (i : Int) }) := by rw [hOwn, if_neg (by omega), if_pos (by omega)]
        rw [e]
        have q1 : decide (S.weight i > S.weight o) = true := decide_eq_true hs
        have q2 : decide (S.weight o < S.weight i) = true := decide_eq_true hs
        clear hOwn e t5 s5 cUp
        go_enter Try.func59, Try.ntmps59
        go_wp2_with fail
        go_quiet (fail)
        go_wp2_with fail
        refine (giveUpC P w0 _ D S o (H.out.step (pw_below_drewN (Below.refl _ _) _)) hon hn hnc hl).mono ?_
        rintro e w1 ⟨rfl, V, h1, k1⟩
        obtain ⟨a1, a2, a3⟩ := facts w1 V h1
        have H1 := Lib.hid (takeover w1 V h1)
        have K1 := Lib.hid (takeF w1 V ((Fr.below D S (pw_below_drewN (Below.refl _ _) _)).trans k1))
        clear h1 facts takeover takeF k1
        go_wp2_with fail
        go_ret
        exact ⟨rfl, V, H1.out, K1.out⟩
      · have e : own P.man S i c = (false, giveUp S i) := by rw [hOwn, if_neg (by omega), if_neg (by omega)]
        rw [e]
        have q1 : decide (S.weight i > S.weight o) = false := decide_eq_false hs
        have q2 : decide (S.weight o < S.weight i) = false := decide_eq_false hs
        clear hOwn e t5 s5 cUp
        go_enter Try.func59, Try.ntmps59
        go_wp2_with fail
        go_quiet (fail)
        go_wp2_with fail
        refine (giveUpC P w0 _ D S i (H.out.step (pw_below_drewN (Below.refl _ _) _)) hi hn hnc hl).mono ?_
        rintro e w1 ⟨rfl, V, h1, k1⟩
        have H1 := Lib.hid h1
        have K1 := Lib.hid ((Fr.below D S (pw_below_drewN (Below.refl _ _) _)).trans k1)
        clear h1 k1
        go_wp2_with fail
        go_ret
        exact ⟨rfl, V, H1.out, K1.out⟩
end Go.Proofs.Ytonhmkllfbagmaa.Tx
