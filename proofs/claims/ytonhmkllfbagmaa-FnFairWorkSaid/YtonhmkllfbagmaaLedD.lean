/- Transactions: the ledger's own. -/
import Derived.Test.YtonhmkllfbagmaaLedC
namespace Go.Proofs.Ytonhmkllfbagmaa.Tx
open Go.RowKit Go.Proofs.YtonhmkllfbagmaaW.PrintWords Go.Proofs.YtonhmkllfbagmaaW.PrintLast Go.Proofs.YtonhmkllfbagmaaW.PrintMore Go.Proofs.Ytonhmkllfbagmaa.PFnExactTxFair
set_option linter.unusedVariables false
set_option linter.unusedSimpArgs false
set_option maxHeartbeats 8000000 in
set_option maxRecDepth 100000 in
theorem ownL (P : LPar) (w0 w : World) (D : LDyn) (S : St) (i c : Nat) (h : Led P w0 w D S) (hi : i < P.n) (hc : c < P.nc) (hn : P.n ≤ 1000) (hnc : P.nc ≤ 1000) (hl : S.events.length ≤ 99000) (hman : 1 ≤ P.man ∧ P.man ≤ 4) (hsi : S.started i = true) (ho : S.owners c = -1 ∨ ∃ o : Nat, o < P.n ∧ S.owners c = (o : Int) ∧ S.started o = true) :
    Calls Try.prog 66 #[.pointer (some ⟨D.blk .g, 0, none⟩), .int .i64 (i : Int), .int .i64 (c : Int)] w fun e w' => e = .returned (.bool (own P.man S i c).1) ∧ ∃ D', KeepD D D' ∧ Led P w0 w' D' (own P.man S i c).2 ∧ FrL P w w' D D' := by
  have hin := eq_true (show (i : Int) < (P.n : Int) by omega)
  have hcn := eq_true (show (c : Int) < (P.nc : Int) by omega)
  have g5 := h.g 5 (by decide); have g6 := h.g 6 (by decide); have g1 := h.g 1 (by decide)
  have o1 := h.o c hc; have fo := h.thawO c
  have pi := h.p i hi
  simp only [gJ] at g5 g6 g1
  by_cases hA : S.owners c = -1 ∨ S.owners c = (i : Int)
  · have e : own P.man S i c = (true, { S with owners := up S.owners c (i : Int) }) := by unfold own; rw [if_pos hA]
    rw [e]
    have HB := Lib.hid (h.setO c hc (i : Int) (up S.owners c (i : Int)) (up_self _ _ _) (fun m _ hm => up_ne _ _ _ _ hm))
    clear h e ho g6 g1
    rcases hA with hA | hA
    · rw [hA] at o1
      clear hA
      go_enter Try.func66, Try.ntmps66
      go_wp2_with fail
      go_ret
      exact ⟨rfl, D, KeepD.refl D, HB.out.1, HB.out.2⟩
    · rw [hA] at o1
      have n1 : decide ((i : Int) ≥ 0) = true := decide_eq_true (by omega)
      have n2 : ((i : Int) != (i : Int)) = false := by simp
      clear hA
      go_enter Try.func66, Try.ntmps66
      go_wp2_with fail
      go_ret
      exact ⟨rfl, D, KeepD.refl D, HB.out.1, HB.out.2⟩
  · obtain ⟨o, hon, hoe, hso⟩ : ∃ o : Nat, o < P.n ∧ S.owners c = (o : Int) ∧ S.started o = true := by
      rcases ho with ho | ho
      · exact absurd (.inl ho) hA
      · exact ho
    have hne : o ≠ i := fun e => hA (.inr (by rw [hoe, e]))
    have n1 : decide ((o : Int) ≥ 0) = true := decide_eq_true (by omega)
    have n2 : (((o : Int)) == (i : Int)) = false := beq_eq_false_iff_ne.mpr (by omega)
    have n3 : (((o : Int)) != (i : Int)) = true := by simp [bne, n2]
    have hons := eq_true (show (o : Int) < (P.n : Int) by omega)
    have e0 : (S.owners c).toNat = o := by rw [hoe, Int.toNat_natCast]
    rw [hoe] at o1
    have hOwn : own P.man S i c = if P.man = 3 ∧ S.start o ≤ S.start i then (false, event S i 5 (c : Int) 0) else if P.man = 2 ∨ P.man = 3 ∨ (P.man = 4 ∧ S.weight o < S.weight i) then (true, { giveUp S o with owners := up (giveUp S o).owners c (i : Int) }) else (false, giveUp S i) := by unfold own; rw [if_neg hA, e0]
    have cUp := fun (W : World) (hW : Led P w0 W D S) j (hj : j < P.n) => giveUpL P w0 W D S j hW hj hn hnc hl
    have po := h.p o hon
    have t5 : w.cell? ⟨D.blk (.a i), 3, none⟩ = some (.int .i64 (S.start i)) := by rw [h.a i hi 3 (by decide), ← (h.sw i hi hsi).1]; rfl
    have s5 : w.cell? ⟨D.blk (.a o), 3, none⟩ = some (.int .i64 (S.start o)) := by rw [h.a o hon 3 (by decide), ← (h.sw o hon hso).1]; rfl
    have t6 : w.cell? ⟨D.blk (.a i), 4, none⟩ = some (.int .i64 (S.weight i)) := by rw [h.a i hi 4 (by decide), ← (h.sw i hi hsi).2]; rfl
    have s6 : w.cell? ⟨D.blk (.a o), 4, none⟩ = some (.int .i64 (S.weight o)) := by rw [h.a o hon 4 (by decide), ← (h.sw o hon hso).2]; rfl
    have H := Lib.hid h
    clear h hA e0 hoe ho
    have hm : P.man = 1 ∨ P.man = 2 ∨ P.man = 3 ∨ P.man = 4 := by omega
    -- the other one gives up
    have takeover : ∀ W D1 w1, FrL P w W D D → KeepD D D1 → Led P w0 w1 D1 (giveUp S o) → FrL P W w1 D D1 → (w1.cell? ⟨D.blk .g, 5, none⟩ = some (.slice (some ⟨D1.blk .o, 0, none⟩) P.nc P.cO) ∧ w1.cell? ⟨D1.blk .o, c, none⟩ = some (.int .i64 ((giveUp S o).owners c)) ∧ w1.frozen? ⟨D1.blk .o, c, none⟩ = false) ∧
        Led P w0 (w1.setCell ⟨D1.blk .o, c, none⟩ (.int .i64 (i : Int))) D1 { giveUp S o with owners := up (giveUp S o).owners c (i : Int) } ∧ FrL P w (w1.setCell ⟨D1.blk .o, c, none⟩ (.int .i64 (i : Int))) D D1 := by
      intro W D1 w1 k0 kd h1 k1
      have hs := h1.setO c hc (i : Int) (up (giveUp S o).owners c (i : Int)) (up_self _ _ _) (fun m _ hm => up_ne _ _ _ _ hm)
      have := h1.g 5 (by decide)
      rw [kd.1] at this
      exact ⟨⟨this, h1.o c hc, h1.thawO c⟩, hs.1, (k0.trans k1).trans hs.2⟩
    have TK := Lib.hid takeover
    clear takeover
    rcases hm with hm | hm | hm | hm
    · rw [hm] at g1
      have e : own P.man S i c = (false, giveUp S i) := by rw [hOwn, if_neg (by omega), if_neg (by omega)]
      rw [e]
      clear hOwn e t5 s5 t6 s6
      go_enter Try.func66, Try.ntmps66
      go_wp2_with fail
      go_quiet (fail)
      go_wp2_with fail
      refine (cUp _ (H.out.step (by repeat (first | exact Below.refl _ _ | apply pw_below_drewN))) i hi).mono ?_
      rintro e w1 ⟨rfl, D1, kd, h1, k1⟩
      have H1 := Lib.hid h1
      have K1 := Lib.hid ((FrL.below D (by repeat (first | exact Below.refl _ _ | apply pw_below_drewN))).trans k1)
      clear h1 cUp k1 TK
      go_wp2_with fail
      go_ret
      exact ⟨rfl, D1, kd, H1.out, K1.out⟩
    · rw [hm] at g1
      have e : own P.man S i c = (true, { giveUp S o with owners := up (giveUp S o).owners c (i : Int) }) := by rw [hOwn, if_neg (by omega), if_pos (by omega)]
      rw [e]
      clear hOwn e t5 s5 t6 s6
      go_enter Try.func66, Try.ntmps66
      go_wp2_with fail
      go_quiet (fail)
      go_wp2_with fail
      refine (cUp _ (H.out.step (by repeat (first | exact Below.refl _ _ | apply pw_below_drewN))) o hon).mono ?_
      rintro e w1 ⟨rfl, D1, kd, h1, k1⟩
      obtain ⟨⟨a1, a2, a3⟩, h2, k2⟩ := TK.out _ D1 w1 (FrL.below D (by repeat (first | exact Below.refl _ _ | apply pw_below_drewN))) kd h1 k1
      have H2 := Lib.hid h2
      have K2 := Lib.hid k2
      clear h1 cUp k1 TK h2 k2
      go_wp2_with fail
      go_ret
      exact ⟨rfl, D1, kd, H2.out, K2.out⟩
    · rw [hm] at g1
      by_cases hs : S.start o ≤ S.start i
      · have e : own P.man S i c = (false, event S i 5 (c : Int) 0) := by rw [hOwn, if_pos ⟨hm, hs⟩]
        rw [e]
        have q1 : decide (S.start i ≥ S.start o) = true := decide_eq_true hs
        have q2 : decide (S.start o ≤ S.start i) = true := decide_eq_true hs
        clear hOwn e t6 s6
        go_enter Try.func66, Try.ntmps66
        go_wp2_with fail
        go_quiet (fail)
        go_wp2_with fail
        go_quiet (fail)
        go_wp2_with fail
        refine (sayL P w0 _ D S i 5 (c : Int) 0 (H.out.step (by repeat (first | exact Below.refl _ _ | apply pw_below_drewN))) hi hn (by omega)).mono ?_
        rintro e w1 ⟨rfl, V, h1, k1⟩
        have H1 := Lib.hid h1
        have K1 := Lib.hid ((FrL.below D (by repeat (first | exact Below.refl _ _ | apply pw_below_drewN))).trans k1)
        clear h1 cUp k1 TK
        go_wp2_with fail
        go_ret
        exact ⟨rfl, { D with V := V }, ⟨rfl, fun _ => rfl⟩, H1.out, K1.out⟩
      · have e : own P.man S i c = (true, { giveUp S o with owners := up (giveUp S o).owners c (i : Int) }) := by rw [hOwn, if_neg (by omega), if_pos (by omega)]
        rw [e]
        have q1 : decide (S.start i ≥ S.start o) = false := decide_eq_false hs
        have q2 : decide (S.start o ≤ S.start i) = false := decide_eq_false hs
        clear hOwn e t6 s6
        go_enter Try.func66, Try.ntmps66
        go_wp2_with fail
        go_quiet (fail)
        go_wp2_with fail
        go_quiet (fail)
        go_wp2_with fail
        refine (cUp _ (H.out.step (by repeat (first | exact Below.refl _ _ | apply pw_below_drewN))) o hon).mono ?_
        rintro e w1 ⟨rfl, D1, kd, h1, k1⟩
        obtain ⟨⟨a1, a2, a3⟩, h2, k2⟩ := TK.out _ D1 w1 (FrL.below D (by repeat (first | exact Below.refl _ _ | apply pw_below_drewN))) kd h1 k1
        have H2 := Lib.hid h2
        have K2 := Lib.hid k2
        clear h1 cUp k1 TK h2 k2
        go_wp2_with fail
        go_ret
        exact ⟨rfl, D1, kd, H2.out, K2.out⟩
    · rw [hm] at g1
      by_cases hs : S.weight i ≤ S.weight o
      · have e : own P.man S i c = (false, giveUp S i) := by rw [hOwn, if_neg (by omega), if_neg (by omega)]
        rw [e]
        have q1 : decide (S.weight i ≤ S.weight o) = true := decide_eq_true hs
        clear hOwn e t5 s5
        go_enter Try.func66, Try.ntmps66
        go_wp2_with fail
        go_quiet (fail)
        go_wp2_with fail
        go_quiet (fail)
        go_wp2_with fail
        refine (cUp _ (H.out.step (by repeat (first | exact Below.refl _ _ | apply pw_below_drewN))) i hi).mono ?_
        rintro e w1 ⟨rfl, D1, kd, h1, k1⟩
        have H1 := Lib.hid h1
        have K1 := Lib.hid ((FrL.below D (by repeat (first | exact Below.refl _ _ | apply pw_below_drewN))).trans k1)
        clear h1 cUp k1 TK
        go_wp2_with fail
        go_ret
        exact ⟨rfl, D1, kd, H1.out, K1.out⟩
      · have e : own P.man S i c = (true, { giveUp S o with owners := up (giveUp S o).owners c (i : Int) }) := by rw [hOwn, if_neg (by omega), if_pos (by omega)]
        rw [e]
        have q1 : decide (S.weight i ≤ S.weight o) = false := decide_eq_false hs
        clear hOwn e t5 s5
        go_enter Try.func66, Try.ntmps66
        go_wp2_with fail
        go_quiet (fail)
        go_wp2_with fail
        go_quiet (fail)
        go_wp2_with fail
        refine (cUp _ (H.out.step (by repeat (first | exact Below.refl _ _ | apply pw_below_drewN))) o hon).mono ?_
        rintro e w1 ⟨rfl, D1, kd, h1, k1⟩
        obtain ⟨⟨a1, a2, a3⟩, h2, k2⟩ := TK.out _ D1 w1 (FrL.below D (by repeat (first | exact Below.refl _ _ | apply pw_below_drewN))) kd h1 k1
        have H2 := Lib.hid h2
        have K2 := Lib.hid k2
        clear h1 cUp k1 TK h2 k2
        go_wp2_with fail
        go_ret
        exact ⟨rfl, D1, kd, H2.out, K2.out⟩
end Go.Proofs.Ytonhmkllfbagmaa.Tx
