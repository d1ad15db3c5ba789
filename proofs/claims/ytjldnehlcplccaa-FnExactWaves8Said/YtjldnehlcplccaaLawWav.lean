/- Floats: the law FnExactWaves8, walked: it answers true. -/
import Derived.Test.YtjldnehlcplccaaOwn
import Derived.Test.YtjldnehlcplccaaWavI
namespace Go.Proofs.Ytjldnehlcplccaa.Flo
open Go.RowKit Go.Proofs.YtjldnehlcplccaaW.PrintWords Go.Proofs.YtjldnehlcplccaaW.PrintLast Go.Proofs.YtjldnehlcplccaaW.PrintMore
open Ieee
set_option linter.unusedSimpArgs false
set_option linter.unusedVariables false

theorem wav_len {ys : List Nat} {xs : List Nat} (h : ys.map cd = wvOut xs) : ys.length ≤ 1048576 := by
  have := congrArg List.length h
  simp only [List.length_map] at this
  rw [this]
  unfold wvOut
  split
  · rw [wvTo_len]; omega
  · simp

set_option maxHeartbeats 4000000 in
set_option maxRecDepth 100000 in
theorem lawWaves (vA : Value) (xs : List Nat) (w : World) (h : Rd fl w vA xs) :
    Calls Try.prog 5 #[vA] w fun e w' => e = .returned (.bool true) ∧ Below w.heap.size w w' := by
  have HA := Lib.hid h
  obtain ⟨A, c, rfl, hc, hr⟩ := h
  clear hr
  by_cases hl : 1048576 < (xs.length : Int)
  · go_enter Try.func5, Try.ntmps5
    go_wp2_with fail
    go_ret
    exact ⟨rfl, Below.refl _ _⟩
  · have hl1 : xs.length ≤ 1048576 := by omega
    have BB := Lib.hid (Below.refl w.heap.size w)
    go_enter Try.func5, Try.ntmps5
    go_wp2_with fail
    refine (toF _ _ _ (HA.out.below BB.out) hl1).mono ?_
    rintro e w1 ⟨v1, rfl, hR, hB⟩
    have S1 := hB.size
    have O1 := Lib.hid (Own.new hR (by first | exact BB.out.size | (have := BB.out.size; omega)))
    skip
    have NB := Lib.hid (below_step BB.out hB); clear BB; have BB := NB; clear NB
    clear hB hR
    go_wp2_with fail
    refine (specWaves v1 xs w1 O1.out.rd).mono ?_
    rintro e w2 ⟨vw, ow, rfl, hR, how, hB⟩
    have EW := Lib.hid how; clear how
    have S2 := hB.size
    have OW := Lib.hid (Own.new hR (by first | exact BB.out.size | (have := BB.out.size; omega)))
    have NO1 := Lib.hid (O1.out.below hB)
    clear O1
    clear NO1
    have NB := Lib.hid (below_step BB.out hB); clear BB; have BB := NB; clear NB
    clear hB hR
    go_wp2_with fail
    refine (toF _ _ _ (HA.out.below BB.out) hl1).mono ?_
    rintro e w3 ⟨vx, rfl, hR, hB⟩
    have S3 := hB.size
    have OX := Lib.hid (Own.new hR (by first | exact BB.out.size | (have := BB.out.size; omega)))
    have NOW := Lib.hid (OW.out.below hB)
    clear OW
    have OW := NOW; clear NOW
    have NB := Lib.hid (below_step BB.out hB); clear BB; have BB := NB; clear NB
    clear hB hR
    go_wp2_with fail
    refine (implWaves vx xs w3 OX.out.rd).mono ?_
    rintro e w4 ⟨vg, og, rfl, hR, hog, hB⟩
    have EG := Lib.hid (hog.trans EW.out.symm); have EL := Lib.hid (wav_len hog); clear hog
    have S4 := hB.size
    have OG := Lib.hid (Own.new hR (by first | exact BB.out.size | (have := BB.out.size; omega)))
    have NOW := Lib.hid (OW.out.below hB)
    have NOX := Lib.hid (OX.out.below hB)
    clear OW OX
    have OW := NOW; clear NOW
    have OX := NOX; clear NOX
    have NB := Lib.hid (below_step BB.out hB); clear BB; have BB := NB; clear NB
    clear hB hR
    go_wp2_with fail
    refine (eqF vg vw og ow _ OG.out.rd OW.out.rd EG.out EL.out).mono ?_
    rintro e w5 ⟨rfl, hD⟩
    have hB : Below w4.heap.size w4 w5 := by obtain ⟨n, rfl⟩ := hD; exact pw_below_drewN (Below.refl _ _) n
    have S5 := hB.size
    have NOW := Lib.hid (OW.out.below hB)
    have NOX := Lib.hid (OX.out.below hB)
    have NOG := Lib.hid (OG.out.below hB)
    clear OW OX OG
    have OW := NOW; clear NOW
    have OX := NOX; clear NOX
    have OG := NOG; clear NOG
    have NB := Lib.hid (below_step BB.out hB); clear BB; have BB := NB; clear NB
    clear hB hD
    go_wp2_with fail
    refine (toF _ _ _ (HA.out.below BB.out) hl1).mono ?_
    rintro e w6 ⟨vt, rfl, hR, hB⟩
    have S6 := hB.size
    have OT := Lib.hid (Own.new hR (by first | exact BB.out.size | (have := BB.out.size; omega)))
    have NOW := Lib.hid (OW.out.below hB)
    have NOX := Lib.hid (OX.out.below hB)
    have NOG := Lib.hid (OG.out.below hB)
    clear OW OX OG
    have OW := NOW; clear NOW
    have OX := NOX; clear NOX
    have OG := NOG; clear NOG
    have NB := Lib.hid (below_step BB.out hB); clear BB; have BB := NB; clear NB
    clear hB hR
    go_wp2_with fail
    refine (eqF vx vt xs xs _ OX.out.rd OT.out.rd rfl hl1).mono ?_
    rintro e w7 ⟨rfl, hD⟩
    have hB : Below w6.heap.size w6 w7 := by obtain ⟨n, rfl⟩ := hD; exact pw_below_drewN (Below.refl _ _) n
    have S7 := hB.size
    have NOW := Lib.hid (OW.out.below hB)
    have NOX := Lib.hid (OX.out.below hB)
    have NOG := Lib.hid (OG.out.below hB)
    have NOT := Lib.hid (OT.out.below hB)
    clear OW OX OG OT
    have OW := NOW; clear NOW
    have OX := NOX; clear NOX
    have OG := NOG; clear NOG
    clear NOT
    have NB := Lib.hid (below_step BB.out hB); clear BB; have BB := NB; clear NB
    clear hB hD
    go_wp2_with fail
    refine (markF' vx xs w w7 w.heap.size _ 1 OX.out.1 BB.out hl1 (by omega) (by omega)).mono ?_
    rintro e w8 ⟨he, xm, hR, HL10, HV10, hB, hK⟩
    have S8 := hK.1
    have HL1 := Lib.hid HL10; have HV1 := Lib.hid HV10; clear HL10 HV10
    subst he
    have HBL := Lib.hid OX.out.block
    have HK := Lib.hid hK; clear hK
    have NOW := Lib.hid (OW.out.kept HK.out (fun b hb => by have := HBL.out b hb; omega))
    have NOG := Lib.hid (OG.out.kept HK.out (fun b hb => by have := HBL.out b hb; omega))
    have NOX := Lib.hid (Own.again OX.out hR HK.out.1)
    clear OW OX OG HBL HK hR BB
    have OW := NOW; clear NOW
    have OX := NOX; clear NOX
    have OG := NOG; clear NOG
    have BB := Lib.hid hB; clear hB
    go_wp2_with fail
    refine (eqF vg vw og ow _ OG.out.rd OW.out.rd EG.out EL.out).mono ?_
    rintro e w9 ⟨rfl, hD⟩
    have hB : Below w8.heap.size w8 w9 := by obtain ⟨n, rfl⟩ := hD; exact pw_below_drewN (Below.refl _ _) n
    have S9 := hB.size
    have NOW := Lib.hid (OW.out.below hB)
    have NOX := Lib.hid (OX.out.below hB)
    have NOG := Lib.hid (OG.out.below hB)
    clear OW OX OG
    have OW := NOW; clear NOW
    have OG := NOG; clear NOG
    clear NOX
    have NB := Lib.hid (below_step BB.out hB); clear BB; have BB := NB; clear NB
    clear hB hD
    go_wp2_with fail
    refine (markF' vg og w w9 w.heap.size _ 1 OG.out.1 BB.out EL.out (by omega) (by omega)).mono ?_
    rintro e w10 ⟨he, gm, hR, HL20, HV20, hB, hK⟩
    have S10 := hK.1
    have HL2 := Lib.hid HL20; have HV2 := Lib.hid HV20; clear HL20 HV20
    subst he
    have HBL := Lib.hid OG.out.block
    have HK := Lib.hid hK; clear hK
    have NOW := Lib.hid (OW.out.kept HK.out (fun b hb => by have := HBL.out b hb; omega))
    have NOG := Lib.hid (Own.again OG.out hR HK.out.1)
    clear OW OG HBL HK hR BB
    have OW := NOW; clear NOW
    have OG := NOG; clear NOG
    have BB := Lib.hid hB; clear hB
    go_wp2_with fail
    refine (heldF' vg gm og.length _ OG.out.rd HL2.out HV2.out EL.out).mono ?_
    rintro e w11 ⟨rfl, hD⟩
    have hB : Below w10.heap.size w10 w11 := by obtain ⟨n, rfl⟩ := hD; exact pw_below_drewN (Below.refl _ _) n
    have S11 := hB.size
    have NOW := Lib.hid (OW.out.below hB)
    have NOG := Lib.hid (OG.out.below hB)
    clear OW OG
    have OW := NOW; clear NOW
    have OG := NOG; clear NOG
    have NB := Lib.hid (below_step BB.out hB); clear BB; have BB := NB; clear NB
    clear hB hD
    go_wp2_with fail
    refine (toF _ _ _ (HA.out.below BB.out) hl1).mono ?_
    rintro e w12 ⟨vy, rfl, hR, hB⟩
    have S12 := hB.size
    have OY := Lib.hid (Own.new hR (by first | exact BB.out.size | (have := BB.out.size; omega)))
    have NOW := Lib.hid (OW.out.below hB)
    have NOG := Lib.hid (OG.out.below hB)
    clear OW OG
    have OW := NOW; clear NOW
    have OG := NOG; clear NOG
    have NB := Lib.hid (below_step BB.out hB); clear BB; have BB := NB; clear NB
    clear hB hR
    go_wp2_with fail
    refine (implWaves vy xs _ OY.out.rd).mono ?_
    rintro e w13 ⟨vh, oh, rfl, hR, hoh, hB⟩
    have EH := Lib.hid (hoh.trans EW.out.symm); have EM := Lib.hid (wav_len hoh); clear hoh
    have S13 := hB.size
    have OH := Lib.hid (Own.new hR (by first | exact BB.out.size | (have := BB.out.size; omega)))
    have NOW := Lib.hid (OW.out.below hB)
    have NOG := Lib.hid (OG.out.below hB)
    have NOY := Lib.hid (OY.out.below hB)
    clear OW OG OY
    have OW := NOW; clear NOW
    have OG := NOG; clear NOG
    clear NOY
    have NB := Lib.hid (below_step BB.out hB); clear BB; have BB := NB; clear NB
    clear hB hR
    go_wp2_with fail
    refine (eqF vh vw oh ow _ OH.out.rd OW.out.rd EH.out EM.out).mono ?_
    rintro e w14 ⟨rfl, hD⟩
    have hB : Below w13.heap.size w13 w14 := by obtain ⟨n, rfl⟩ := hD; exact pw_below_drewN (Below.refl _ _) n
    have S14 := hB.size
    have NOW := Lib.hid (OW.out.below hB)
    have NOG := Lib.hid (OG.out.below hB)
    have NOH := Lib.hid (OH.out.below hB)
    clear OW OG OH
    have OW := NOW; clear NOW
    have OG := NOG; clear NOG
    clear NOH
    have NB := Lib.hid (below_step BB.out hB); clear BB; have BB := NB; clear NB
    clear hB hD
    go_wp2_with fail
    refine (heldF' vg gm og.length _ OG.out.rd HL2.out HV2.out EL.out).mono ?_
    rintro e w15 ⟨rfl, hD⟩
    have hB : Below w14.heap.size w14 w15 := by obtain ⟨n, rfl⟩ := hD; exact pw_below_drewN (Below.refl _ _) n
    have S15 := hB.size
    have NOW := Lib.hid (OW.out.below hB)
    have NOG := Lib.hid (OG.out.below hB)
    clear OW OG
    have OW := NOW; clear NOW
    have OG := NOG; clear NOG
    have NB := Lib.hid (below_step BB.out hB); clear BB; have BB := NB; clear NB
    clear hB hD
    go_wp2_with fail
    go_ret
    exact ⟨rfl, BB.out⟩
end Go.Proofs.Ytjldnehlcplccaa.Flo
