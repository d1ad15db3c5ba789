/- Floats: the law FnExactBuckets, walked: it answers true. -/
import Derived.Test.YtjldnehlcplccaaOwn
import Derived.Test.YtjldnehlcplccaaBuk
namespace Go.Proofs.Ytjldnehlcplccaa.Flo
open Go.RowKit Go.Proofs.YtjldnehlcplccaaW.PrintWords Go.Proofs.YtjldnehlcplccaaW.PrintLast Go.Proofs.YtjldnehlcplccaaW.PrintMore
open Ieee
set_option linter.unusedSimpArgs false
set_option linter.unusedVariables false

theorem buk_len (xs bs : List Nat) : (bkOut xs bs).length ≤ 1048576 := by
  unfold bkOut
  split
  · rename_i h1
    unfold bkCode at h1
    split at h1
    · exact absurd h1 (by decide)
    · split at h1
      · exact absurd h1 (by decide)
      · rw [cnt_len]; omega
  · simp

set_option maxHeartbeats 4000000 in
set_option maxRecDepth 100000 in
theorem lawBuckets (vA vD : Value) (xs bs : List Nat) (w : World) (h : Rd fl w vA xs) (h2 : Rd fl w vD bs) :
    Calls Try.prog 7 #[vA, vD] w fun e w' => e = .returned (.bool true) ∧ Below w.heap.size w w' := by
  have HA := Lib.hid h
  have HD := Lib.hid h2
  obtain ⟨A, c, rfl, hc, hr⟩ := h
  obtain ⟨D, d, rfl, hd, hs⟩ := h2
  clear hr hs
  by_cases hl : 1048576 < (xs.length : Int)
  · go_enter Try.func7, Try.ntmps7
    go_wp2_with fail
    go_ret
    exact ⟨rfl, Below.refl _ _⟩
  by_cases hl9 : 1048576 < (bs.length : Int)
  · go_enter Try.func7, Try.ntmps7
    go_wp2_with fail
    go_ret
    exact ⟨rfl, Below.refl _ _⟩
  · have hl1 : xs.length ≤ 1048576 := by omega
    have hl2 : bs.length ≤ 1048576 := by omega
    have EL := buk_len xs bs
    have BB := Lib.hid (Below.refl w.heap.size w)
    go_enter Try.func7, Try.ntmps7
    go_wp2_with fail
    refine (toF _ _ _ (HA.out.below BB.out) hl1).mono ?_
    rintro e w1 ⟨v1, rfl, hR, hB⟩
    have S1 := hB.size
    have O1 := Lib.hid (Own.new hR (by first | exact BB.out.size | (have := BB.out.size; omega)))
    skip
    have NB := Lib.hid (below_step BB.out hB); clear BB; have BB := NB; clear NB
    clear hB hR
    go_wp2_with fail
    refine (toF _ _ _ (HD.out.below BB.out) hl2).mono ?_
    rintro e w2 ⟨v2, rfl, hR, hB⟩
    have S2 := hB.size
    have O2 := Lib.hid (Own.new hR (by first | exact BB.out.size | (have := BB.out.size; omega)))
    have NO1 := Lib.hid (O1.out.below hB)
    clear O1
    have O1 := NO1; clear NO1
    have NB := Lib.hid (below_step BB.out hB); clear BB; have BB := NB; clear NB
    clear hB hR
    go_wp2_with fail
    refine (specBuckets v1 v2 xs bs w2 O1.out.rd O2.out.rd).mono ?_
    rintro e w3 ⟨vw, rfl, hR, hB⟩
    have S3 := hB.size
    have OW := Lib.hid (Own.new hR (by first | exact BB.out.size | (have := BB.out.size; omega)))
    have NO1 := Lib.hid (O1.out.below hB)
    have NO2 := Lib.hid (O2.out.below hB)
    clear O1 O2
    clear NO1
    clear NO2
    have NB := Lib.hid (below_step BB.out hB); clear BB; have BB := NB; clear NB
    clear hB hR
    go_wp2_with fail
    refine (toF _ _ _ (HA.out.below BB.out) hl1).mono ?_
    rintro e w4 ⟨vx, rfl, hR, hB⟩
    have S4 := hB.size
    have OX := Lib.hid (Own.new hR (by first | exact BB.out.size | (have := BB.out.size; omega)))
    have NOW := Lib.hid (OW.out.below hB)
    clear OW
    have OW := NOW; clear NOW
    have NB := Lib.hid (below_step BB.out hB); clear BB; have BB := NB; clear NB
    clear hB hR
    go_wp2_with fail
    refine (toF _ _ _ (HD.out.below BB.out) hl2).mono ?_
    rintro e w5 ⟨vy, rfl, hR, hB⟩
    have S5 := hB.size
    have OY := Lib.hid (Own.new hR (by first | exact BB.out.size | (have := BB.out.size; omega)))
    have NOW := Lib.hid (OW.out.below hB)
    have NOX := Lib.hid (OX.out.below hB)
    clear OW OX
    have OW := NOW; clear NOW
    have OX := NOX; clear NOX
    have NB := Lib.hid (below_step BB.out hB); clear BB; have BB := NB; clear NB
    clear hB hR
    go_wp2_with fail
    refine (implBuckets vx vy xs bs w5 OX.out.rd OY.out.rd).mono ?_
    rintro e w6 ⟨vg, rfl, hR, hB⟩
    have S6 := hB.size
    have OG := Lib.hid (Own.new hR (by first | exact BB.out.size | (have := BB.out.size; omega)))
    have NOW := Lib.hid (OW.out.below hB)
    have NOX := Lib.hid (OX.out.below hB)
    have NOY := Lib.hid (OY.out.below hB)
    clear OW OX OY
    have OW := NOW; clear NOW
    have OX := NOX; clear NOX
    have OY := NOY; clear NOY
    have NB := Lib.hid (below_step BB.out hB); clear BB; have BB := NB; clear NB
    clear hB hR
    go_wp2_with fail
    refine (eqI vg vw _ _ _ OG.out.rd OW.out.rd rfl EL).mono ?_
    rintro e w7 ⟨rfl, hD⟩
    have hB : Below w6.heap.size w6 w7 := by obtain ⟨n, rfl⟩ := hD; exact pw_below_drewN (Below.refl _ _) n
    have S7 := hB.size
    have NOW := Lib.hid (OW.out.below hB)
    have NOX := Lib.hid (OX.out.below hB)
    have NOY := Lib.hid (OY.out.below hB)
    have NOG := Lib.hid (OG.out.below hB)
    clear OW OX OY OG
    have OW := NOW; clear NOW
    have OX := NOX; clear NOX
    have OY := NOY; clear NOY
    have OG := NOG; clear NOG
    have NB := Lib.hid (below_step BB.out hB); clear BB; have BB := NB; clear NB
    clear hB hD
    go_wp2_with fail
    refine (toF _ _ _ (HA.out.below BB.out) hl1).mono ?_
    rintro e w8 ⟨vt, rfl, hR, hB⟩
    have S8 := hB.size
    have OT := Lib.hid (Own.new hR (by first | exact BB.out.size | (have := BB.out.size; omega)))
    have NOW := Lib.hid (OW.out.below hB)
    have NOX := Lib.hid (OX.out.below hB)
    have NOY := Lib.hid (OY.out.below hB)
    have NOG := Lib.hid (OG.out.below hB)
    clear OW OX OY OG
    have OW := NOW; clear NOW
    have OX := NOX; clear NOX
    have OY := NOY; clear NOY
    have OG := NOG; clear NOG
    have NB := Lib.hid (below_step BB.out hB); clear BB; have BB := NB; clear NB
    clear hB hR
    go_wp2_with fail
    refine (eqF vx vt xs xs _ OX.out.rd OT.out.rd rfl hl1).mono ?_
    rintro e w9 ⟨rfl, hD⟩
    have hB : Below w8.heap.size w8 w9 := by obtain ⟨n, rfl⟩ := hD; exact pw_below_drewN (Below.refl _ _) n
    have S9 := hB.size
    have NOW := Lib.hid (OW.out.below hB)
    have NOX := Lib.hid (OX.out.below hB)
    have NOY := Lib.hid (OY.out.below hB)
    have NOG := Lib.hid (OG.out.below hB)
    have NOT := Lib.hid (OT.out.below hB)
    clear OW OX OY OG OT
    have OW := NOW; clear NOW
    have OX := NOX; clear NOX
    have OY := NOY; clear NOY
    have OG := NOG; clear NOG
    clear NOT
    have NB := Lib.hid (below_step BB.out hB); clear BB; have BB := NB; clear NB
    clear hB hD
    go_wp2_with fail
    refine (toF _ _ _ (HD.out.below BB.out) hl2).mono ?_
    rintro e w10 ⟨vt2, rfl, hR, hB⟩
    have S10 := hB.size
    have OT := Lib.hid (Own.new hR (by first | exact BB.out.size | (have := BB.out.size; omega)))
    have NOW := Lib.hid (OW.out.below hB)
    have NOX := Lib.hid (OX.out.below hB)
    have NOY := Lib.hid (OY.out.below hB)
    have NOG := Lib.hid (OG.out.below hB)
    clear OW OX OY OG
    have OW := NOW; clear NOW
    have OX := NOX; clear NOX
    have OY := NOY; clear NOY
    have OG := NOG; clear NOG
    have NB := Lib.hid (below_step BB.out hB); clear BB; have BB := NB; clear NB
    clear hB hR
    go_wp2_with fail
    refine (eqF vy vt2 bs bs _ OY.out.rd OT.out.rd rfl hl2).mono ?_
    rintro e w11 ⟨rfl, hD⟩
    have hB : Below w10.heap.size w10 w11 := by obtain ⟨n, rfl⟩ := hD; exact pw_below_drewN (Below.refl _ _) n
    have S11 := hB.size
    have NOW := Lib.hid (OW.out.below hB)
    have NOX := Lib.hid (OX.out.below hB)
    have NOY := Lib.hid (OY.out.below hB)
    have NOG := Lib.hid (OG.out.below hB)
    have NOT := Lib.hid (OT.out.below hB)
    clear OW OX OY OG OT
    have OW := NOW; clear NOW
    have OX := NOX; clear NOX
    have OY := NOY; clear NOY
    have OG := NOG; clear NOG
    clear NOT
    have NB := Lib.hid (below_step BB.out hB); clear BB; have BB := NB; clear NB
    clear hB hD
    go_wp2_with fail
    refine (markF' vx xs w w11 w.heap.size _ 1 OX.out.1 BB.out hl1 (by omega) (by omega)).mono ?_
    rintro e w12 ⟨he, xm, hR, HL10, HV10, hB, hK⟩
    have S12 := hK.1
    have HL1 := Lib.hid HL10; have HV1 := Lib.hid HV10; clear HL10 HV10
    subst he
    have HBL := Lib.hid OX.out.block
    have HK := Lib.hid hK; clear hK
    have NOW := Lib.hid (OW.out.kept HK.out (fun b hb => by have := HBL.out b hb; omega))
    have NOY := Lib.hid (OY.out.kept HK.out (fun b hb => by have := HBL.out b hb; omega))
    have NOG := Lib.hid (OG.out.kept HK.out (fun b hb => by have := HBL.out b hb; omega))
    have NOX := Lib.hid (Own.again OX.out hR HK.out.1)
    clear OW OX OY OG HBL HK hR BB
    have OW := NOW; clear NOW
    have OX := NOX; clear NOX
    have OY := NOY; clear NOY
    have OG := NOG; clear NOG
    have BB := Lib.hid hB; clear hB
    go_wp2_with fail
    refine (markF' vy bs w w12 w.heap.size _ (1 + (xs.length : Int)) OY.out.1 BB.out hl2 (by omega) (by omega)).mono ?_
    rintro e w13 ⟨he, ym, hR, HL30, HV30, hB, hK⟩
    have S13 := hK.1
    have HL3 := Lib.hid HL30; have HV3 := Lib.hid HV30; clear HL30 HV30
    subst he
    have HBL := Lib.hid OY.out.block
    have HK := Lib.hid hK; clear hK
    have NOW := Lib.hid (OW.out.kept HK.out (fun b hb => by have := HBL.out b hb; omega))
    have NOX := Lib.hid (OX.out.kept HK.out (fun b hb => by have := HBL.out b hb; omega))
    have NOG := Lib.hid (OG.out.kept HK.out (fun b hb => by have := HBL.out b hb; omega))
    have NOY := Lib.hid (Own.again OY.out hR HK.out.1)
    clear OW OX OY OG HBL HK hR BB
    have OW := NOW; clear NOW
    have OX := NOX; clear NOX
    have OY := NOY; clear NOY
    have OG := NOG; clear NOG
    have BB := Lib.hid hB; clear hB
    go_wp2_with fail
    refine (eqI vg vw _ _ _ OG.out.rd OW.out.rd rfl EL).mono ?_
    rintro e w14 ⟨rfl, hD⟩
    have hB : Below w13.heap.size w13 w14 := by obtain ⟨n, rfl⟩ := hD; exact pw_below_drewN (Below.refl _ _) n
    have S14 := hB.size
    have NOW := Lib.hid (OW.out.below hB)
    have NOX := Lib.hid (OX.out.below hB)
    have NOY := Lib.hid (OY.out.below hB)
    have NOG := Lib.hid (OG.out.below hB)
    clear OW OX OY OG
    have OW := NOW; clear NOW
    have OG := NOG; clear NOG
    clear NOX
    clear NOY
    have NB := Lib.hid (below_step BB.out hB); clear BB; have BB := NB; clear NB
    clear hB hD
    go_wp2_with fail
    refine (markI' vg (bkOut xs bs) w w14 w.heap.size _ 1 OG.out.1 BB.out EL (by omega) (by omega)).mono ?_
    rintro e w15 ⟨he, gm, hR, HL20, HV20, hB, hK⟩
    have S15 := hK.1
    have HL2 := Lib.hid HL20; have HV2 := Lib.hid HV20; clear HL20 HV20
    subst he
    have HBL := Lib.hid OG.out.block
    have HK := Lib.hid hK; clear hK
    have NOW := Lib.hid (OW.out.kept HK.out (fun b hb => by have := HBL.out b hb; omega))
    have NOG := Lib.hid (Own.again OG.out hR HK.out.1)
    clear OW OG HBL HK hR BB
    have OW := NOW; clear NOW
    have OG := NOG; clear NOG
    have BB := Lib.hid hB; clear hB
    go_wp2_with fail
    refine (heldI' vg gm (bkOut xs bs).length _ OG.out.rd HL2.out HV2.out EL).mono ?_
    rintro e w16 ⟨rfl, hD⟩
    have hB : Below w15.heap.size w15 w16 := by obtain ⟨n, rfl⟩ := hD; exact pw_below_drewN (Below.refl _ _) n
    have S16 := hB.size
    have NOW := Lib.hid (OW.out.below hB)
    have NOG := Lib.hid (OG.out.below hB)
    clear OW OG
    have OW := NOW; clear NOW
    have OG := NOG; clear NOG
    have NB := Lib.hid (below_step BB.out hB); clear BB; have BB := NB; clear NB
    clear hB hD
    go_wp2_with fail
    refine (toF _ _ _ (HA.out.below BB.out) hl1).mono ?_
    rintro e w17 ⟨vx3, rfl, hR, hB⟩
    have S17 := hB.size
    have OX := Lib.hid (Own.new hR (by first | exact BB.out.size | (have := BB.out.size; omega)))
    have NOW := Lib.hid (OW.out.below hB)
    have NOG := Lib.hid (OG.out.below hB)
    clear OW OG
    have OW := NOW; clear NOW
    have OG := NOG; clear NOG
    have NB := Lib.hid (below_step BB.out hB); clear BB; have BB := NB; clear NB
    clear hB hR
    go_wp2_with fail
    refine (toF _ _ _ (HD.out.below BB.out) hl2).mono ?_
    rintro e w18 ⟨vy3, rfl, hR, hB⟩
    have S18 := hB.size
    have OY := Lib.hid (Own.new hR (by first | exact BB.out.size | (have := BB.out.size; omega)))
    have NOW := Lib.hid (OW.out.below hB)
    have NOG := Lib.hid (OG.out.below hB)
    have NOX := Lib.hid (OX.out.below hB)
    clear OW OG OX
    have OW := NOW; clear NOW
    have OG := NOG; clear NOG
    have OX := NOX; clear NOX
    have NB := Lib.hid (below_step BB.out hB); clear BB; have BB := NB; clear NB
    clear hB hR
    go_wp2_with fail
    refine (implBuckets vx3 vy3 xs bs _ OX.out.rd OY.out.rd).mono ?_
    rintro e w19 ⟨vh, rfl, hR, hB⟩
    have S19 := hB.size
    have OH := Lib.hid (Own.new hR (by first | exact BB.out.size | (have := BB.out.size; omega)))
    have NOW := Lib.hid (OW.out.below hB)
    have NOG := Lib.hid (OG.out.below hB)
    have NOX := Lib.hid (OX.out.below hB)
    have NOY := Lib.hid (OY.out.below hB)
    clear OW OG OX OY
    have OW := NOW; clear NOW
    have OG := NOG; clear NOG
    clear NOX
    clear NOY
    have NB := Lib.hid (below_step BB.out hB); clear BB; have BB := NB; clear NB
    clear hB hR
    go_wp2_with fail
    refine (eqI vh vw _ _ _ OH.out.rd OW.out.rd rfl EL).mono ?_
    rintro e w20 ⟨rfl, hD⟩
    have hB : Below w19.heap.size w19 w20 := by obtain ⟨n, rfl⟩ := hD; exact pw_below_drewN (Below.refl _ _) n
    have S20 := hB.size
    have NOW := Lib.hid (OW.out.below hB)
    have NOG := Lib.hid (OG.out.below hB)
    have NOH := Lib.hid (OH.out.below hB)
    clear OW OG OH
    have OW := NOW; clear NOW
    have OG := NOG; clear NOG
    clear NOH
    have NB := Lib.hid (below_step BB.out hB); clear BB; have BB := NB; clear NB
    clear hB hD
    go_wp2_with fail
    refine (heldI' vg gm (bkOut xs bs).length _ OG.out.rd HL2.out HV2.out EL).mono ?_
    rintro e w21 ⟨rfl, hD⟩
    have hB : Below w20.heap.size w20 w21 := by obtain ⟨n, rfl⟩ := hD; exact pw_below_drewN (Below.refl _ _) n
    have S21 := hB.size
    have NOW := Lib.hid (OW.out.below hB)
    have NOG := Lib.hid (OG.out.below hB)
    clear OW OG
    have OW := NOW; clear NOW
    have OG := NOG; clear NOG
    have NB := Lib.hid (below_step BB.out hB); clear BB; have BB := NB; clear NB
    clear hB hD
    go_wp2_with fail
    go_ret
    exact ⟨rfl, BB.out⟩
end Go.Proofs.Ytjldnehlcplccaa.Flo
