/- TxSerial: the law, walked: it answers true. -/
import Derived.Test.YtonhmkllfbagmaaSer
namespace Go.Proofs.Ytonhmkllfbagmaa.PFnExactTxSerial
open Go.RowKit Go.Proofs.YtonhmkllfbagmaaW.PrintWords Go.Proofs.YtonhmkllfbagmaaW.PrintLast Go.Proofs.YtonhmkllfbagmaaW.PrintMore
open PureTxSerial
set_option linter.unusedSimpArgs false
set_option linter.unusedVariables false

/-- What the plain laws say of a work and an order that are small enough. -/
structure Facts (C : List Int) (M : Int) (T : List (List (List S113))) (L : List Int) (T' : List (List (List S63))) (r : List Int × Int) : Prop where
  lC : C.length ≤ 1048576
  lL : L.length ≤ 1048576
  lT : T'.length ≤ 1048576
  lx : ∀ x ∈ T', x.length ≤ 1048576 ∧ ∀ y ∈ x, y.length ≤ 1048576
  lr : r.1.length ≤ 8
  tp : ∃ k, laws_toTxProg.f k C M T = some (C, M, T')
  ti : ∃ k, laws_toIntS.f k L = some L
  sp : ∃ k, spec_TxSerial.f k C M T' L = some r
  im : ∃ k, impl_TxSerial.f k C M T' L = some r
  er : ∃ k, laws_eqIntS.f k r.1 r.1 = some true
  el : ∃ k, laws_eqIntS.f k L L = some true
  ep : ∃ k, laws_eqTxProg.f k C M T' C M T' = some true
theorem facts (C : List Int) (M : Int) (T : List (List (List S113))) (L : List Int) (hC : C.length ≤ 9223372036854775807) (hT : T.length ≤ 9223372036854775807)
    (hx : ∀ x ∈ T, x.length ≤ 9223372036854775807 ∧ ∀ y ∈ x, y.length ≤ 9223372036854775807) (hL : L.length ≤ 1048576) :
    ∃ s : Int, (∃ k, laws_szTxProg.f k C M T 1048576 = some s) ∧ (0 ≤ s → ∃ T' r, Facts C M T L T' r) := by
  obtain ⟨s1, hs1, hs1b, hs1c⟩ := szInts C 1048576 (by omega) (by omega) hC
  by_cases h1 : s1 < 0
  · exact ⟨-1, ⟨0, by unfold laws_szTxProg.f; rw [hs1]; simp [h1]⟩, fun h => absurd h (by omega)⟩
  obtain ⟨s2, hs2, hs2b, hs2c⟩ := szThreads T s1 (by omega) hs1b hT hx
  have hsz : Ev (fun k => laws_szTxProg.f k C M T 1048576) (if s2 < 0 then -1 else s2) := by
    refine Ev.congr (f := fun k => (laws_szTxOpSSS.f k T s1).bind fun t => if t < 0 then some (-1) else some t) (fun k => ?_) (Ev.bind hs2 (by split <;> exact Ev.now _))
    unfold laws_szTxProg.f
    rw [hs1]
    simp only [Option.bind_some]
    rw [if_neg h1]
  refine ⟨_, Ev.rounds hsz, fun h0 => ?_⟩
  have h2 : ¬ s2 < 0 := by
    intro h
    rw [if_pos h] at h0
    omega
  have hCl := hs1c (by omega)
  obtain ⟨hTl, hTx⟩ := hs2c (by omega)
  have hT' : (T.map (·.map (·.map cv))).length ≤ 1048576 := by simpa using hTl
  have hx' : ∀ x ∈ T.map (·.map (·.map cv)), x.length ≤ 1048576 ∧ ∀ y ∈ x, y.length ≤ 1048576 := by
    intro x hx
    obtain ⟨x0, h0, rfl⟩ := List.mem_map.1 hx
    refine ⟨by simpa using (hTx x0 h0).1, fun y hy => ?_⟩
    obtain ⟨y0, hy0, rfl⟩ := List.mem_map.1 hy
    simpa using (hTx x0 h0).2 y0 hy0
  obtain ⟨r, hr1, hr2, hr3⟩ := serial_both C M (T.map (·.map (·.map cv))) L hT' hx'
  refine ⟨_, r, hCl, hL, hT', hx', hr3, Ev.rounds ?_, Ev.rounds (toInts L hL), Ev.rounds hr1, Ev.rounds hr2, Ev.rounds (eqInts r.1 (by omega)), Ev.rounds (eqInts L hL), Ev.rounds ?_⟩
  · unfold laws_toTxProg.f
    exact Ev.bind (toInts C hCl) (Ev.bind (toThreads T hTl hTx) (Ev.now _))
  · unfold laws_eqTxProg.f
    refine Ev.bind (eqInts C hCl) ?_
    simp only [if_true]
    refine Ev.bind (eqThreads _ hT' hx') ?_
    simpa using Ev.now true
set_option maxHeartbeats 4000000 in
set_option maxRecDepth 100000 in
theorem lawSerial (vC vT vL : Value) (C : List Int) (M : Int) (T : List (List (List S113))) (L : List Int) (w : World) (hvC : Rd ki w vC C) (hvT : Rd kA w vT T) (hvL : Rd ki w vL L) (hC : C.length ≤ 9223372036854775807) (hT : T.length ≤ 9223372036854775807)
    (hx : ∀ x ∈ T, x.length ≤ 9223372036854775807 ∧ ∀ y ∈ x, y.length ≤ 9223372036854775807) :
    Calls Try.prog 4 #[.agg #[vC, .int .i64 M, vT], vL] w fun e w' => e = .returned (.bool true) ∧ Below w.heap.size w w' := by
  have HC := Lib.hid hvC
  have HT := Lib.hid hvT
  have HL := Lib.hid hvL
  obtain ⟨AC, cC, rfl, hcC, _⟩ := hvC
  obtain ⟨AT, cT, rfl, hcT, _⟩ := hvT
  obtain ⟨AL, cL, rfl, hcL, _⟩ := hvL
  by_cases hl : 1048576 < (L.length : Int)
  · go_enter Try.func4, Try.ntmps4
    go_wp2_with fail
    go_ret
    exact ⟨rfl, (Below.refl _ w).alloc (Nat.le_refl _) _⟩
  obtain ⟨s, ⟨k0, hsz⟩, hF⟩ := facts C M T L hC hT hx (by omega)
  clear hx hC hT
  have HSZ := Lib.hid hsz
  have HF := Lib.hid hF
  clear hsz hF
  go_enter Try.func4, Try.ntmps4
  go_wp2_with fail
  obtain ⟨W0, hW0⟩ : ∃ W, W = w.alloc (.cells #[.slice AC C.length cC, .int .i64 M, .slice AT T.length cT] 25) := ⟨_, rfl⟩
  have X := Lib.hid (show Box W0 w.heap.size (.slice AC C.length cC) (.int .i64 M) (.slice AT T.length cT) by rw [hW0]; exact Box.new w _ _ _ _)
  have B := Lib.hid (show Below w.heap.size w W0 by rw [hW0]; exact (Below.refl _ w).alloc (Nat.le_refl _) _)
  rw [← hW0]
  clear hW0
  refine (szP HSZ.out (HC.out.below B.out) (HT.out.below B.out)).mono ?_
  rintro e w1 ⟨rfl, hB⟩
  have X1 := Lib.hid (X.out.below hB)
  have B1 := Lib.hid (below_step B.out hB)
  have x0 := X1.out.2.1
  have x1 := X1.out.2.2.1
  have x2 := X1.out.2.2.2
  clear X B hB
  by_cases hs : s < 0
  · go_wp2_with fail
    go_ret
    exact ⟨rfl, B1.out⟩
  obtain ⟨T', r, hf⟩ := HF.out (by omega)
  have F := Lib.hid hf
  obtain ⟨kt, hkt⟩ := hf.tp
  obtain ⟨ki_, hki⟩ := hf.ti
  obtain ⟨ks, hks⟩ := hf.sp
  obtain ⟨km, hkm⟩ := hf.im
  obtain ⟨kr, hkr⟩ := hf.er
  obtain ⟨kl, hkl⟩ := hf.el
  obtain ⟨kp, hkp⟩ := hf.ep
  have TO := Lib.hid hkt
  have TI := Lib.hid hki
  have SP := Lib.hid hks
  have IM := Lib.hid hkm
  have ER := Lib.hid hkr
  have EL := Lib.hid hkl
  have EP := Lib.hid hkp
  clear hf hkt hki hks hkm hkr hkl hkp HF HSZ
  go_wp2_with fail
  refine (toP TO.out (HC.out.below B1.out) (HT.out.below B1.out)).mono ?_
  rintro e w11 ⟨p0, p2, rfl, hR0, hR2, hB⟩
  have OP0_ := Lib.hid (Own.new hR0 B1.out.size)
  have OP2_ := Lib.hid (Own.new hR2 B1.out.size)
  have NX1 := Lib.hid (X1.out.below hB)
  have NB1 := Lib.hid (below_step B1.out hB)
  clear X1 B1
  have X1 := NX1; clear NX1
  have B1 := NB1; clear NB1
  have OP0 := OP0_; clear OP0_
  have OP2 := OP2_; clear OP2_
  clear hB hR0 hR2
  go_wp2_with fail
  refine (toI TI.out (HL.out.below B1.out)).mono ?_
  rintro e w12 ⟨pl, rfl, hR0, hB⟩
  have OPL_ := Lib.hid (Own.new hR0 B1.out.size)
  have NX1 := Lib.hid (X1.out.below hB)
  have NB1 := Lib.hid (below_step B1.out hB)
  have NOP0 := Lib.hid (OP0.out.below hB)
  have NOP2 := Lib.hid (OP2.out.below hB)
  clear X1 B1 OP0 OP2
  have X1 := NX1; clear NX1
  have B1 := NB1; clear NB1
  have OP0 := NOP0; clear NOP0
  have OP2 := NOP2; clear NOP2
  have OPL := OPL_; clear OPL_
  clear hB hR0
  go_wp2_with fail
  refine (specS SP.out OP0.out.rd OP2.out.rd OPL.out.rd).mono ?_
  rintro e w13 ⟨vw, rfl, hR0, hB⟩
  have OW_ := Lib.hid (Own.new hR0 B1.out.size)
  have NX1 := Lib.hid (X1.out.below hB)
  have NB1 := Lib.hid (below_step B1.out hB)
  have NOP0 := Lib.hid (OP0.out.below hB)
  have NOP2 := Lib.hid (OP2.out.below hB)
  have NOPL := Lib.hid (OPL.out.below hB)
  clear X1 B1 OP0 OP2 OPL
  have X1 := NX1; clear NX1
  have B1 := NB1; clear NB1
  have OP0 := NOP0; clear NOP0
  have OP2 := NOP2; clear NOP2
  have OPL := NOPL; clear NOPL
  have OW := OW_; clear OW_
  clear hB hR0
  clear OP0
  clear OP2
  clear OPL
  have a0 := X1.out.2.1
  have a1 := X1.out.2.2.1
  have a2 := X1.out.2.2.2
  go_wp2_with fail
  have BX := Lib.hid (Below.refl w13.heap.size w13)
  have BW := Lib.hid B1.out; clear B1
  have hbx : w.heap.size < w13.heap.size := X1.out.1
  refine (toP TO.out (HC.out.below (below_step BW.out BX.out)) (HT.out.below (below_step BW.out BX.out))).mono ?_
  rintro e w14 ⟨q0, q2, rfl, hR0, hR2, hB⟩
  have OX0_ := Lib.hid (Own.new hR0 BX.out.size)
  have OX2_ := Lib.hid (Own.new hR2 BX.out.size)
  have NX1 := Lib.hid (X1.out.below hB)
  have NOW := Lib.hid (OW.out.below hB)
  have NBX := Lib.hid (below_step BX.out hB)
  clear X1 OW BX
  have X1 := NX1; clear NX1
  have OW := NOW; clear NOW
  have BX := NBX; clear NBX
  have OX0 := OX0_; clear OX0_
  have OX2 := OX2_; clear OX2_
  have hhi : w13.heap.size ≤ w14.heap.size := hB.size
  clear hB hR0 hR2 a0 a1 a2 x0 x1 x2
  obtain ⟨A0, c0, rfl, _⟩ := rows_form OX0.out.1
  obtain ⟨A2, c2, rfl, _⟩ := rows_form OX2.out.1
  go_wp2_with fail
  obtain ⟨W2, hW2⟩ : ∃ W, W = w14.alloc (.cells #[.slice A0 C.length c0, .int .i64 M, .slice A2 T'.length c2] 30) := ⟨_, rfl⟩
  have hB : Below w14.heap.size w14 W2 := by rw [hW2]; exact (Below.refl _ _).alloc (Nat.le_refl _) _
  have XB_ := Lib.hid (show Box W2 w14.heap.size (.slice A0 C.length c0) (.int .i64 M) (.slice A2 T'.length c2) by rw [hW2]; exact Box.new _ _ _ _ _)
  rw [← hW2]
  have z1 := hB.size
  have NX1 := Lib.hid (X1.out.below hB)
  have NOW := Lib.hid (OW.out.below hB)
  have NBX := Lib.hid (below_step BX.out hB)
  have NOX0 := Lib.hid (OX0.out.below hB)
  have NOX2 := Lib.hid (OX2.out.below hB)
  clear X1 OW BX OX0 OX2
  have X1 := NX1; clear NX1
  have OW := NOW; clear NOW
  have BX := NBX; clear NBX
  have OX0 := NOX0; clear NOX0
  have OX2 := NOX2; clear NOX2
  have XB := XB_; clear XB_ hW2 hB
  refine (toI TI.out (HL.out.below (below_step BW.out BX.out))).mono ?_
  rintro e w15 ⟨l1, rfl, hR0, hB⟩
  have OX1_ := Lib.hid (Own.new hR0 BX.out.size)
  have NX1 := Lib.hid (X1.out.below hB)
  have NOW := Lib.hid (OW.out.below hB)
  have NBX := Lib.hid (below_step BX.out hB)
  have NOX0 := Lib.hid (OX0.out.below hB)
  have NOX2 := Lib.hid (OX2.out.below hB)
  have NXB := Lib.hid (XB.out.below hB)
  clear X1 OW BX OX0 OX2 XB
  have X1 := NX1; clear NX1
  have OW := NOW; clear NOW
  have BX := NBX; clear NBX
  have OX0 := NOX0; clear NOX0
  have OX2 := NOX2; clear NOX2
  have XB := NXB; clear NXB
  have OX1 := OX1_; clear OX1_
  have z2 := hB.size
  clear hB hR0
  have y0 := XB.out.2.1
  have y1 := XB.out.2.2.1
  have y2 := XB.out.2.2.2
  go_wp2_with fail
  refine (implS IM.out OX0.out.rd OX2.out.rd OX1.out.rd).mono ?_
  rintro e w16 ⟨vg, rfl, hR0, hB⟩
  have OG_ := Lib.hid (Own.new hR0 BX.out.size)
  have NX1 := Lib.hid (X1.out.below hB)
  have NOW := Lib.hid (OW.out.below hB)
  have NBX := Lib.hid (below_step BX.out hB)
  have NOX0 := Lib.hid (OX0.out.below hB)
  have NOX2 := Lib.hid (OX2.out.below hB)
  have NXB := Lib.hid (XB.out.below hB)
  have NOX1 := Lib.hid (OX1.out.below hB)
  clear X1 OW BX OX0 OX2 XB OX1
  have X1 := NX1; clear NX1
  have OW := NOW; clear NOW
  have BX := NBX; clear NBX
  have OX0 := NOX0; clear NOX0
  have OX2 := NOX2; clear NOX2
  have XB := NXB; clear NXB
  have OX1 := NOX1; clear NOX1
  have OG := OG_; clear OG_
  clear hB hR0 y0 y1 y2
  go_wp2_with fail
  refine (eqI ER.out OG.out.rd OW.out.rd).mono ?_
  rintro e w17 ⟨rfl, hB⟩
  have NX1 := Lib.hid (X1.out.below hB)
  have NOW := Lib.hid (OW.out.below hB)
  have NBX := Lib.hid (below_step BX.out hB)
  have NOX0 := Lib.hid (OX0.out.below hB)
  have NOX2 := Lib.hid (OX2.out.below hB)
  have NXB := Lib.hid (XB.out.below hB)
  have NOX1 := Lib.hid (OX1.out.below hB)
  have NOG := Lib.hid (OG.out.below hB)
  clear X1 OW BX OX0 OX2 XB OX1 OG
  have X1 := NX1; clear NX1
  have OW := NOW; clear NOW
  have BX := NBX; clear NBX
  have OX0 := NOX0; clear NOX0
  have OX2 := NOX2; clear NOX2
  have XB := NXB; clear NXB
  have OX1 := NOX1; clear NOX1
  have OG := NOG; clear NOG
  clear hB
  go_wp2_with fail
  have hB : Below w17.heap.size w17 w17.drew := below_drew1 (Below.refl _ _)
  have NX1 := Lib.hid (X1.out.below hB)
  have NOW := Lib.hid (OW.out.below hB)
  have NBX := Lib.hid (below_step BX.out hB)
  have NOX0 := Lib.hid (OX0.out.below hB)
  have NOX2 := Lib.hid (OX2.out.below hB)
  have NXB := Lib.hid (XB.out.below hB)
  have NOX1 := Lib.hid (OX1.out.below hB)
  have NOG := Lib.hid (OG.out.below hB)
  clear X1 OW BX OX0 OX2 XB OX1 OG
  have X1 := NX1; clear NX1
  have OW := NOW; clear NOW
  have BX := NBX; clear NBX
  have OX0 := NOX0; clear NOX0
  have OX2 := NOX2; clear NOX2
  have XB := NXB; clear NXB
  have OX1 := NOX1; clear NOX1
  have OG := NOG; clear NOG
  clear hB
  generalize hdr : w17.drew = wd at X1 OW BX OX0 OX2 XB OX1 OG
  have y0 := XB.out.2.1
  have y1 := XB.out.2.2.1
  have y2 := XB.out.2.2.2
  have a0 := X1.out.2.1
  have a1 := X1.out.2.2.1
  have a2 := X1.out.2.2.2
  rw [← hdr] at y0 y1 y2 a0 a1 a2
  refine start_ (n := 5) (S := fun w' => w'.cell? ⟨w14.heap.size, 0, none⟩ = some (.slice A0 C.length c0) ∧ w'.cell? ⟨w14.heap.size, 1, none⟩ = some (.int .i64 M) ∧ w'.cell? ⟨w14.heap.size, 2, none⟩ = some (.slice A2 T'.length c2) ∧ w'.cell? ⟨w.heap.size, 0, none⟩ = some (.slice AC C.length cC) ∧ w'.cell? ⟨w.heap.size, 1, none⟩ = some (.int .i64 M) ∧ w'.cell? ⟨w.heap.size, 2, none⟩ = some (.slice AT T.length cT)) (ds := []) #[false, false, false, false, false] (by kernel_rfl) rfl rfl ⟨y0, y1, y2, a0, a1, a2⟩ (fun hHeld => ?_)
  rw [hdr] at hHeld ⊢
  clear y0 y1 y2 a0 a1 a2 hdr
  refine take_ (i := 0) (N := some 52) (v := ?_) (a' := ?_) #[true, false, false, false, false] rfl rfl (by kernel_rfl) (fun _ _ _ h => h) (Or.inl ⟨by rfl, ?_⟩) hHeld ?_ ?_
  rotate_left
  · rintro w' ⟨s0, s1, s2, s3, s4, s5⟩
    go_simp
    with_reducible rfl
  rotate_left
  · simp only [Act.put, List.setIfInBounds_toArray, List.set_cons_zero, List.set_cons_succ, i64_w, i32_w]
    rfl
  refine take_ (i := 1) (N := some 53) (v := ?_) (a' := ?_) #[true, true, false, false, false] rfl rfl (by kernel_rfl) (fun _ _ _ h => h) (Or.inl ⟨by rfl, ?_⟩) hHeld ?_ ?_
  rotate_left
  · rintro w' ⟨s0, s1, s2, s3, s4, s5⟩
    go_simp
    with_reducible rfl
  rotate_left
  · simp only [Act.put, List.setIfInBounds_toArray, List.set_cons_zero, List.set_cons_succ, i64_w, i32_w]
    rfl
  refine one_ (i := 2) (N := some 54) #[true, true, true, false, false] rfl rfl (by kernel_rfl) (by decide) (fun K hK => ?_)
  refine goes_ Try.func10 (by kernel_rfl) rfl #[.agg #[.slice AC C.length cC, .int .i64 M, .slice AT T.length cT]] (by rfl) rfl rfl (by (try simp only [List.map_toArray, List.map_cons, List.map_nil]); first | done | rfl) ?_
  refine (toP TO.out (HC.out.below (below_step BW.out BX.out)) (HT.out.below (below_step BW.out BX.out))).mono ?_
  rintro e w19 ⟨u0, u2, rfl, hR0, hR2, hB⟩
  have OU0_ := Lib.hid (Own.new hR0 BX.out.size)
  have OU2_ := Lib.hid (Own.new hR2 BX.out.size)
  have NX1 := Lib.hid (X1.out.below hB)
  have NOW := Lib.hid (OW.out.below hB)
  have NBX := Lib.hid (below_step BX.out hB)
  have NOX0 := Lib.hid (OX0.out.below hB)
  have NOX2 := Lib.hid (OX2.out.below hB)
  have NXB := Lib.hid (XB.out.below hB)
  have NOX1 := Lib.hid (OX1.out.below hB)
  have NOG := Lib.hid (OG.out.below hB)
  clear X1 OW BX OX0 OX2 XB OX1 OG
  have X1 := NX1; clear NX1
  have OW := NOW; clear NOW
  have BX := NBX; clear NBX
  have OX0 := NOX0; clear NOX0
  have OX2 := NOX2; clear NOX2
  have XB := NXB; clear NXB
  have OX1 := NOX1; clear NOX1
  have OG := NOG; clear NOG
  have OU0 := OU0_; clear OU0_
  have OU2 := OU2_; clear OU2_
  clear hB hR0 hR2
  refine ⟨_, rfl, ?_⟩
  refine hK.out _ _ ⟨XB.out.2.1, XB.out.2.2.1, XB.out.2.2.2, X1.out.2.1, X1.out.2.2.1, X1.out.2.2.2⟩ (fun hHeld => ?_)
  clear hK K
  refine norm_ (a' := ?_) ?_ ?_
  rotate_left
  · show Act.put _ (some 54) _ = _
    simp only [Act.put, List.setIfInBounds_toArray, List.set_cons_zero, List.set_cons_succ, i64_w, i32_w]
    rfl
  refine one_ (i := 3) (N := some 55) #[true, true, true, true, false] rfl rfl (by kernel_rfl) (by decide) (fun K hK => ?_)
  refine goes_ Try.func12 (by kernel_rfl) rfl #[.agg #[.slice A0 C.length c0, .int .i64 M, .slice A2 T'.length c2], .agg #[u0, .int .i64 M, u2]] (by rfl) rfl rfl (by (try simp only [List.map_toArray, List.map_cons, List.map_nil]); first | done | rfl) ?_
  refine (eqP EP.out OX0.out.rd OX2.out.rd OU0.out.rd OU2.out.rd).mono ?_
  rintro e w20 ⟨rfl, hB⟩
  have NX1 := Lib.hid (X1.out.below hB)
  have NOW := Lib.hid (OW.out.below hB)
  have NBX := Lib.hid (below_step BX.out hB)
  have NOX0 := Lib.hid (OX0.out.below hB)
  have NOX2 := Lib.hid (OX2.out.below hB)
  have NXB := Lib.hid (XB.out.below hB)
  have NOX1 := Lib.hid (OX1.out.below hB)
  have NOG := Lib.hid (OG.out.below hB)
  have NOU0 := Lib.hid (OU0.out.below hB)
  have NOU2 := Lib.hid (OU2.out.below hB)
  clear X1 OW BX OX0 OX2 XB OX1 OG OU0 OU2
  have X1 := NX1; clear NX1
  have OW := NOW; clear NOW
  have BX := NBX; clear NBX
  have OX0 := NOX0; clear NOX0
  have OX2 := NOX2; clear NOX2
  have XB := NXB; clear NXB
  have OX1 := NOX1; clear NOX1
  have OG := NOG; clear NOG
  have OU0 := NOU0; clear NOU0
  have OU2 := NOU2; clear NOU2
  clear hB OU0 OU2
  refine ⟨_, rfl, ?_⟩
  refine hK.out _ _ ⟨XB.out.2.1, XB.out.2.2.1, XB.out.2.2.2, X1.out.2.1, X1.out.2.2.1, X1.out.2.2.2⟩ (fun hHeld => ?_)
  clear hK K
  refine norm_ (a' := ?_) ?_ ?_
  rotate_left
  · show Act.put _ (some 55) _ = _
    simp only [Act.put, List.setIfInBounds_toArray, List.set_cons_zero, List.set_cons_succ, i64_w, i32_w]
    rfl
  refine pure_ (i := 4) (N := some 56) (v := ?_) (a' := ?_) #[true, true, true, true, true] rfl rfl (by kernel_rfl) (fun _ _ _ h => h) (Or.inl ⟨by rfl, ?_⟩) ?_ ?_
  rotate_left
  · intro w'
    go_simp
    with_reducible rfl
  rotate_left
  · simp only [Act.put, List.setIfInBounds_toArray, List.set_cons_zero, List.set_cons_succ, i64_w, i32_w]
    rfl
  refine done_ (by kernel_rfl) ?_
  go_wp2_with fail
  refine (toI TI.out (HL.out.below (below_step BW.out BX.out))).mono ?_
  rintro e w21 ⟨l2, rfl, hR0, hB⟩
  have OT_ := Lib.hid (Own.new hR0 BX.out.size)
  have NX1 := Lib.hid (X1.out.below hB)
  have NOW := Lib.hid (OW.out.below hB)
  have NBX := Lib.hid (below_step BX.out hB)
  have NOX0 := Lib.hid (OX0.out.below hB)
  have NOX2 := Lib.hid (OX2.out.below hB)
  have NXB := Lib.hid (XB.out.below hB)
  have NOX1 := Lib.hid (OX1.out.below hB)
  have NOG := Lib.hid (OG.out.below hB)
  clear X1 OW BX OX0 OX2 XB OX1 OG
  have X1 := NX1; clear NX1
  have OW := NOW; clear NOW
  have BX := NBX; clear NBX
  have OX0 := NOX0; clear NOX0
  have OX2 := NOX2; clear NOX2
  have XB := NXB; clear NXB
  have OX1 := NOX1; clear NOX1
  have OG := NOG; clear NOG
  have OT := OT_; clear OT_
  clear hB hR0
  go_wp2_with fail
  refine (eqI EL.out OX1.out.rd OT.out.rd).mono ?_
  rintro e w22 ⟨rfl, hB⟩
  have NX1 := Lib.hid (X1.out.below hB)
  have NOW := Lib.hid (OW.out.below hB)
  have NBX := Lib.hid (below_step BX.out hB)
  have NOX0 := Lib.hid (OX0.out.below hB)
  have NOX2 := Lib.hid (OX2.out.below hB)
  have NXB := Lib.hid (XB.out.below hB)
  have NOX1 := Lib.hid (OX1.out.below hB)
  have NOG := Lib.hid (OG.out.below hB)
  have NOT := Lib.hid (OT.out.below hB)
  clear X1 OW BX OX0 OX2 XB OX1 OG OT
  have X1 := NX1; clear NX1
  have OW := NOW; clear NOW
  have BX := NBX; clear NBX
  have OX0 := NOX0; clear NOX0
  have OX2 := NOX2; clear NOX2
  have XB := NXB; clear NXB
  have OX1 := NOX1; clear NOX1
  have OG := NOG; clear NOG
  have OT := NOT; clear NOT
  clear hB OT
  have y0 := XB.out.2.1
  have y1 := XB.out.2.2.1
  have y2 := XB.out.2.2.2
  go_wp2_with fail
  refine (markP w13 w22 w14.heap.size _ _ C M T' OX0.out OX2.out BX.out F.out.lC F.out.lT F.out.lx).mono ?_
  clear XB y0 y1 y2
  rintro e m1 ⟨⟨n1, rfl, hn0, hn1⟩, hB, hK⟩
  have NX1 := Lib.hid (X1.out.kept hK (fun hb => by have h1 : w13.heap.size ≤ w.heap.size := hb.1; omega))
  have NOW := Lib.hid (OW.out.kept hK (fun b hb => by have h1 : w13.heap.size ≤ b := hb.1; have h2 : b < w14.heap.size := hb.2; omega))
  have NBX := Lib.hid hB
  have NOX1 := Lib.hid (OX1.out.kept hK (fun b hb => by have h1 : w13.heap.size ≤ b := hb.1; have h2 : b < w14.heap.size := hb.2; omega))
  have NOG := Lib.hid (OG.out.kept hK (fun b hb => by have h1 : w13.heap.size ≤ b := hb.1; have h2 : b < w14.heap.size := hb.2; omega))
  clear X1 OW BX OX0 OX2 OX1 OG
  have X1 := NX1; clear NX1
  have OW := NOW; clear NOW
  have BX := NBX; clear NBX
  have OX1 := NOX1; clear NOX1
  have OG := NOG; clear NOG
  clear hB hK
  go_wp2_with fail
  have lL := F.out.lL; have lr := F.out.lr
  have HBL := OX1.out.block
  refine (markI w13 m1 _ _ _ L n1 OX1.out BX.out hn0 hn1 lL).mono ?_
  rintro e m2 ⟨rfl, ys1, hO1, hh1, hB, hK⟩
  have NX1 := Lib.hid (X1.out.kept hK (fun hb => by have := HBL _ hb; omega))
  have NOW := Lib.hid (OW.out.kept hK (fun b hb => by have := HBL b hb; omega))
  have NBX := Lib.hid hB
  have NOG := Lib.hid (OG.out.kept hK (fun b hb => by have := HBL b hb; omega))
  clear X1 OW BX OX1 OG
  have X1 := NX1; clear NX1
  have OW := NOW; clear NOW
  have BX := NBX; clear NBX
  have OG := NOG; clear NOG
  clear hB hK
  clear hO1 hh1 HBL ys1
  have pk : decide (n1 + (L.length : Int) < 0) = false := decide_eq_false (by omega)
  go_wp2_with fail
  refine (eqI ER.out OG.out.rd OW.out.rd).mono ?_
  rintro e w23 ⟨rfl, hB⟩
  have NX1 := Lib.hid (X1.out.below hB)
  have NOW := Lib.hid (OW.out.below hB)
  have NBX := Lib.hid (below_step BX.out hB)
  have NOG := Lib.hid (OG.out.below hB)
  clear X1 OW BX OG
  have X1 := NX1; clear NX1
  have OW := NOW; clear NOW
  have BX := NBX; clear NBX
  have OG := NOG; clear NOG
  clear hB pk
  go_wp2_with fail
  have HBL := OG.out.block
  refine (markI w13 w23 _ _ _ r.1 1 OG.out BX.out (by omega) (by omega) (by omega)).mono ?_
  rintro e m3 ⟨rfl, ys, hO1, hh1, hB, hK⟩
  have NOG := Lib.hid (hO1)
  have NX1 := Lib.hid (X1.out.kept hK (fun hb => by have := HBL _ hb; omega))
  have NOW := Lib.hid (OW.out.kept hK (fun b hb => by have := HBL b hb; omega))
  have NBX := Lib.hid hB
  clear X1 OW BX OG
  have X1 := NX1; clear NX1
  have OW := NOW; clear NOW
  have BX := NBX; clear NBX
  have OG := NOG; clear NOG
  clear hB hK
  clear hO1 HBL
  obtain ⟨kh, hkh⟩ := hh1
  have HH := Lib.hid hkh
  clear hkh
  go_wp2_with fail
  refine (heldI HH.out OG.out.rd).mono ?_
  rintro e w24 ⟨rfl, hB⟩
  have NX1 := Lib.hid (X1.out.below hB)
  have NOW := Lib.hid (OW.out.below hB)
  have NBX := Lib.hid (below_step BX.out hB)
  have NOG := Lib.hid (OG.out.below hB)
  clear X1 OW BX OG
  have X1 := NX1; clear NX1
  have OW := NOW; clear NOW
  have BX := NBX; clear NBX
  have OG := NOG; clear NOG
  clear hB
  have pk : decide (1 + (r.1.length : Int) < 0) = false := decide_eq_false (by omega)
  have a0 := X1.out.2.1
  have a1 := X1.out.2.2.1
  have a2 := X1.out.2.2.2
  go_wp2_with fail
  refine (toP TO.out (HC.out.below (below_step BW.out BX.out)) (HT.out.below (below_step BW.out BX.out))).mono ?_
  rintro e w25 ⟨f0, f2, rfl, hR0, hR2, hB⟩
  have OF0_ := Lib.hid (Own.new hR0 BX.out.size)
  have OF2_ := Lib.hid (Own.new hR2 BX.out.size)
  have NX1 := Lib.hid (X1.out.below hB)
  have NOW := Lib.hid (OW.out.below hB)
  have NBX := Lib.hid (below_step BX.out hB)
  have NOG := Lib.hid (OG.out.below hB)
  clear X1 OW BX OG
  have X1 := NX1; clear NX1
  have OW := NOW; clear NOW
  have BX := NBX; clear NBX
  have OG := NOG; clear NOG
  have OF0 := OF0_; clear OF0_
  have OF2 := OF2_; clear OF2_
  clear hB hR0 hR2 a0 a1 a2 pk
  go_wp2_with fail
  refine (toI TI.out (HL.out.below (below_step BW.out BX.out))).mono ?_
  rintro e w26 ⟨fl, rfl, hR0, hB⟩
  have OFL_ := Lib.hid (Own.new hR0 BX.out.size)
  have NX1 := Lib.hid (X1.out.below hB)
  have NOW := Lib.hid (OW.out.below hB)
  have NBX := Lib.hid (below_step BX.out hB)
  have NOG := Lib.hid (OG.out.below hB)
  have NOF0 := Lib.hid (OF0.out.below hB)
  have NOF2 := Lib.hid (OF2.out.below hB)
  clear X1 OW BX OG OF0 OF2
  have X1 := NX1; clear NX1
  have OW := NOW; clear NOW
  have BX := NBX; clear NBX
  have OG := NOG; clear NOG
  have OF0 := NOF0; clear NOF0
  have OF2 := NOF2; clear NOF2
  have OFL := OFL_; clear OFL_
  clear hB hR0
  go_wp2_with fail
  refine (implS IM.out OF0.out.rd OF2.out.rd OFL.out.rd).mono ?_
  rintro e w27 ⟨vh, rfl, hR0, hB⟩
  have OH_ := Lib.hid (Own.new hR0 BX.out.size)
  have NX1 := Lib.hid (X1.out.below hB)
  have NOW := Lib.hid (OW.out.below hB)
  have NBX := Lib.hid (below_step BX.out hB)
  have NOG := Lib.hid (OG.out.below hB)
  have NOF0 := Lib.hid (OF0.out.below hB)
  have NOF2 := Lib.hid (OF2.out.below hB)
  have NOFL := Lib.hid (OFL.out.below hB)
  clear X1 OW BX OG OF0 OF2 OFL
  have X1 := NX1; clear NX1
  have OW := NOW; clear NOW
  have BX := NBX; clear NBX
  have OG := NOG; clear NOG
  have OF0 := NOF0; clear NOF0
  have OF2 := NOF2; clear NOF2
  have OFL := NOFL; clear NOFL
  have OH := OH_; clear OH_
  clear hB hR0
  go_wp2_with fail
  refine (eqI ER.out OH.out.rd OW.out.rd).mono ?_
  rintro e w28 ⟨rfl, hB⟩
  have NX1 := Lib.hid (X1.out.below hB)
  have NOW := Lib.hid (OW.out.below hB)
  have NBX := Lib.hid (below_step BX.out hB)
  have NOG := Lib.hid (OG.out.below hB)
  have NOF0 := Lib.hid (OF0.out.below hB)
  have NOF2 := Lib.hid (OF2.out.below hB)
  have NOFL := Lib.hid (OFL.out.below hB)
  have NOH := Lib.hid (OH.out.below hB)
  clear X1 OW BX OG OF0 OF2 OFL OH
  have X1 := NX1; clear NX1
  have OW := NOW; clear NOW
  have BX := NBX; clear NBX
  have OG := NOG; clear NOG
  have OF0 := NOF0; clear NOF0
  have OF2 := NOF2; clear NOF2
  have OFL := NOFL; clear NOFL
  have OH := NOH; clear NOH
  clear hB
  go_wp2_with fail
  refine (heldI HH.out OG.out.rd).mono ?_
  rintro e w29 ⟨rfl, hB⟩
  have NX1 := Lib.hid (X1.out.below hB)
  have NOW := Lib.hid (OW.out.below hB)
  have NBX := Lib.hid (below_step BX.out hB)
  have NOG := Lib.hid (OG.out.below hB)
  have NOF0 := Lib.hid (OF0.out.below hB)
  have NOF2 := Lib.hid (OF2.out.below hB)
  have NOFL := Lib.hid (OFL.out.below hB)
  have NOH := Lib.hid (OH.out.below hB)
  clear X1 OW BX OG OF0 OF2 OFL OH
  have X1 := NX1; clear NX1
  have OW := NOW; clear NOW
  have BX := NBX; clear NBX
  have OG := NOG; clear NOG
  have OF0 := NOF0; clear NOF0
  have OF2 := NOF2; clear NOF2
  have OFL := NOFL; clear NOFL
  have OH := NOH; clear NOH
  clear hB
  have pk : decide (1 + (r.1.length : Int) < 0) = false := decide_eq_false (by omega)
  go_wp2_with fail
  go_ret
  exact ⟨rfl, below_step BW.out BX.out⟩
end Go.Proofs.Ytonhmkllfbagmaa.PFnExactTxSerial
