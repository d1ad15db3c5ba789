/- Transactions: goes that may be, drawn. -/
import Derived.Test.YtonhmkllfbagmaaGof
namespace Go.Proofs.Ytonhmkllfbagmaa.Tx
open Go.RowKit Go.Proofs.YtonhmkllfbagmaaW.PrintWords Go.Proofs.YtonhmkllfbagmaaW.PrintLast Go.Proofs.YtonhmkllfbagmaaW.PrintMore Go.Proofs.Ytonhmkllfbagmaa.PFnExactTxFair Go.Proofs.Ytonhmkllfbagmaa.Src
set_option linter.unusedVariables false
set_option linter.unusedSimpArgs false
theorem Run.lower {P : Par} {w0 w1 w : World} {D : Dyn} {S : St} (h : Run P w1 w D S) (hb : Below w0.heap.size w0 w1) : Run P w0 w D S :=
  ⟨⟨h.lay.at_, fun i hi => Nat.le_trans hb.size (h.lay.ge i hi), h.lay.inj⟩, Kd.R_lower h.ev hb.size, h.inn, below_step hb h.below⟩
theorem Run.keep {P : Par} {w0 w w' : World} {D : Dyn} {S : St} {g : Nat} (h : Run P w0 w D S) (hk : KeepBut w w' g none) (ho : Out P D S g) (hB : Below w0.heap.size w0 w') : Run P w0 w' D S :=
  ⟨h.lay.move (fun i hi => hk.2 _ (h.lt i hi) (fun e => ho.1 i hi e.symm) (by simp)), Kd.R_reok rfl (Kd.R_step (ok := fun b => D.V.ownBlock = some b) (Kd.R_reok rfl h.ev (fun b hb => hb)) (fun b hb hlt => hk.2 b hlt (fun e => ho.2 (by rw [← e]; exact hb.symm)) (by simp))) (fun b hb => h.ev.1 b hb), h.inn, hB⟩
theorem Sr.at_ {w0 w w1 : World} {g : Nat} {f0 : List Int} {m : Int} (h : Sr w0 w g f0 m) (hb : w1.heap[g]? = w.heap[g]?) (hB : Below w0.heap.size w0 w1) : Sr w0 w1 g f0 m := by
  obtain ⟨x, sd, ⟨A, c, h0, hg0, hr⟩, h1, h2, h3, h4, h5⟩ := h
  exact ⟨x, sd, ⟨A, c, hb.trans h0, hg0, hr⟩, h1, h2, h3, h4, hB⟩
set_option maxHeartbeats 4000000 in
set_option maxRecDepth 100000 in
theorem mayB (P : Par) (w0 w : World) (D : Dyn) (S : St) (T : List (List (List S63))) (i : Nat) (h : Run P w0 w D S) (hP : Prg P w0 T) (hi : i < P.n) (hn : P.n ≤ 1000) :
    Calls Try.prog 39 #[.pointer (some ⟨D.blk .g, 0, none⟩), .int .i64 (i : Int)] w fun e w' => e = .returned (.bool (decide (S.tx i < ((Tx.thr T i).length : Int)))) ∧ Below w.heap.size w w' := by
  have hin := eq_true (show (i : Int) < (P.n : Int) by omega)
  have hind := decide_eq_true (show (i : Int) < (P.n : Int) by omega)
  have hi0 := eq_true (show (0 : Int) ≤ (i : Int) by omega)
  have hi1 := decide_eq_true (show (i : Int) ≥ 0 by omega)
  have g6 := h.g 6 (by decide)
  simp only [gRow] at g6
  have t0 := h.t0 i hi
  simp only [tRow] at t0
  obtain ⟨ad, cV, A0, c0, g2, l1, hl, hr⟩ := h.thr hP i hi
  obtain ⟨m, hm⟩ : ∃ m, (Tx.thr T i).length = m := ⟨_, rfl⟩
  rw [hm] at l1 ⊢
  have H := Lib.hid h
  clear h hr hl hm hP
  go_enter Try.func39, Try.ntmps39
  go_wp2_with fail
  go_quiet (fail)
  go_wp2_with fail
  go_ret
  exact ⟨rfl, pw_below_drewN (Below.refl _ _) _⟩
theorem Lg.snoc {n nc : Nat} {T : List (List (List S63))} {man : Int} {S0 : St} {L : List Int} (h : Lg n man nc T S0 L) (t : Nat) (ht : t < n) (htx : (runN man nc T S0 L L.length).tx t < ((thr T t).length : Int)) : Lg n man nc T S0 (L ++ [(t : Int)]) := by
  intro k hk
  simp only [List.length_append, List.length_singleton] at hk
  by_cases e : k < L.length
  · obtain ⟨u, a, b, c⟩ := h k e
    refine ⟨u, (getD_left _ _ k e).trans a, b, ?_⟩
    rw [runN_append _ _ k (Nat.le_of_lt e)]
    exact c
  · obtain rfl : k = L.length := by omega
    refine ⟨t, getD_last _ _, ht, ?_⟩
    rw [runN_append _ _ _ (Nat.le_refl _)]
    exact htx
theorem runN_snoc (man : Int) (nc : Nat) (T : List (List (List S63))) (S0 : St) (L : List Int) (t : Nat) : runN man nc T S0 (L ++ [(t : Int)]) (L ++ [(t : Int)]).length = stepG man nc T (runN man nc T S0 L L.length) t := by
  rw [List.length_append, List.length_singleton]
  show stepG man nc T (runN man nc T S0 (L ++ [(t : Int)]) L.length) ((L ++ [(t : Int)]).getD L.length 0).toNat = _
  rw [runN_append _ _ _ (Nat.le_refl _), getD_last, Int.toNat_natCast]
set_option maxHeartbeats 8000000 in
set_option maxRecDepth 100000 in
theorem goesOfC (w : World) (AC : Option Addr) (cC : Nat) (C : List Int) (man : Int) (AT : Option Addr) (cT : Nat) (T : List (List (List S63))) (A1 : Option Addr) (c1 : Nat) (l1 : List Int) (hC : ki.C w AC C.length C) (hcC : C.length ≤ cC) (hT : kT.C w AT T.length T) (hcT : T.length ≤ cT)
    (hr1 : Kd.C (Kd.int .u8) w A1 l1.length l1) (hc1 : l1.length ≤ c1) (hF : Bytes l1) (h1 : 0 < C.length) (h2 : C.length ≤ 8) (hn : 0 < T.length) (hn2 : T.length ≤ 4) (hman : 1 ≤ man ∧ man ≤ 4) (ok : OpsOK T.length C.length T) (hG : RG T.length T 0 (st0 C)) :
    Calls Try.prog 28 #[.agg #[.slice AC C.length cC, .int .i64 man, .slice AT T.length cT], .slice A1 l1.length c1, .int .i64 120] w fun e w' => ∃ v L, e = .returned v ∧ Rd ki w' v L ∧ L.length ≤ 120 ∧ Lg T.length man C.length T (st0 C) L ∧ Below w.heap.size w w' := by
  have HC := Lib.hid hC; have HT := Lib.hid hT; have OK := Lib.hid ok; have HR1 := Lib.hid hr1; have HG0 := Lib.hid hG
  clear hC hT ok hr1 hG
  go_enter Try.func28, Try.ntmps28
  go_wp2_with fail
  obtain ⟨Wa, hWa⟩ : ∃ Wa, w.alloc (.cells #[.slice AC C.length cC, .int .i64 man, .slice AT T.length cT] 30) = Wa := ⟨_, rfl⟩
  have BA := Lib.hid (show Below w.heap.size w Wa by rw [← hWa]; exact below_alloc (Below.refl _ _) _)
  have hwa : w.heap.size < Wa.heap.size := by rw [← hWa]; simp
  have hpb : Wa.heap[w.heap.size]? = some (.cells #[.slice AC C.length cC, .int .i64 man, .slice AT T.length cT] 30 (0, 0)) := by rw [← hWa]; exact heap_alloc_new w _
  have CB := Lib.hid (show ∀ X, Below Wa.heap.size Wa X → X.cell? ⟨w.heap.size, 0, none⟩ = some (.slice AC C.length cC) ∧ X.cell? ⟨w.heap.size, 1, none⟩ = some (.int .i64 man) ∧ X.cell? ⟨w.heap.size, 2, none⟩ = some (.slice AT T.length cT) by
    intro X hX
    have hb := (hX.block _ hwa).trans hpb
    exact ⟨(blk_cell hb 0).trans rfl, (blk_cell hb 1).trans rfl, (blk_cell hb 2).trans rfl⟩)
  rw [hWa]
  clear hWa hpb
  refine (sourceC A1 c1 l1 Wa (Kd.C_below HR1.out BA.out) hc1).mono ?_
  rintro e W1 ⟨g, rfl, hS, hge, hB⟩
  have B1 := Lib.hid hB; have S1 := Lib.hid hS
  obtain ⟨p0, p1, p2⟩ := CB.out W1 hB
  have hgl := (Sr.ge hS).2
  clear hB hS
  go_wp2_with fail
  refine (l19BeginC W1 AC cC C man AT T.length cT (Kd.C_below HC.out (below_step BA.out B1.out)) hcC h1 (by omega) hn (by omega)).mono ?_
  rintro e Wc ⟨P, D, rfl, hPc, hPn, hPm, hPt, hPC, hPD, hR⟩
  have PC := Lib.hid hPc; have PN := Lib.hid hPn; have PM := Lib.hid hPm
  have HP := Lib.hid (show Prg P Wa T from ⟨AT, cT, hPt, hcT, Kd.C_below HT.out BA.out, hPn.symm⟩)
  have SC := Lib.hid (S1.out.keep hR.below)
  have OG := Lib.hid (show Out P D (st0 C) g from ⟨fun j hj e => by have := hR.lay.ge j hj; omega, fun e => by have := ((Kd.R_bound hR.ev).1 g e.symm).2.1; omega⟩)
  have HR := Lib.hid (Run.lower hR B1.out)
  have hsc := hR.below.size
  obtain ⟨gg, hgg⟩ : ∃ gg, D.blk .g = gg := ⟨_, rfl⟩
  have HG1 := Lib.hid hgg
  rw [hgg]
  have FRE := Lib.hid (Run.fresh HR.out)
  clear hR hPc hPn hPm hPt hPC hPD hgg p0 p1 p2 S1
  go_wp2_with ((with_reducible refine gate_dst (N := 18) rfl ?_); refine Kd.R_lit ki (w0 := Wa) Wa.heap.size 3 rfl (N := 18) rfl (xs := ([] : List Int)) (inner := []) (ok := fun b => Out P D (st0 C) b ∧ b ≠ g) (okp := fun _ => False) (by go_simp) (Reps.none _ _) (fun _ hk => hk.elim) ⟨FRE.out _ (Nat.le_refl _), by omega⟩ HR.out.below HR.out.below.size (by simp) ?_; intro v0 w0 hO0 hB0 hg0 hn0)
  have R0 := Lib.hid (show Run P Wa w0 D (st0 C) from HR.out.kept (v := .slice none 0 0) (fun b e => by simp [Value.ownBlock] at e) hg0 hB0)
  have S0 := Lib.hid (Sr.grown SC.out hg0 (by simp) hB0)
  have O0 := Lib.hid hO0
  clear hO0 hB0 hg0 hn0 FRE HR SC
  go_loopw [9, 10] (fun vo iv wr => ∃ (L : List Int) (D : Dyn), iv = .int .i64 (L.length : Int) ∧ L.length ≤ 120 ∧ Lg T.length man C.length T (st0 C) L ∧ Run P Wa wr D (runN man C.length T (st0 C) L L.length) ∧ D.blk .g = gg ∧ Out P D (runN man C.length T (st0 C) L L.length) g ∧ Sr Wa wr g l1 (3 * (L.length : Int)) ∧ ki.R 3 wr Wa.heap.size (fun b => Out P D (runN man C.length T (st0 C) L L.length) b ∧ b ≠ g) vo L) (fun _ iv _ => 120 - (intOf iv).toNat)
  case atStart => exact ⟨[], D, rfl, Nat.zero_le _, fun k hk => absurd hk (Nat.not_lt_zero k), R0.out, HG1.out, OG.out, S0.out, O0.out⟩
  case round =>
    clear R0 S0 O0 HG1 OG hsc D
    obtain ⟨wt, hwt⟩ : ∃ wt, wt = wr := ⟨_, rfl⟩
    subst hwt
    obtain ⟨L, D, rfl, hl, hLg, hR, hgD, hOut, hSr, hO⟩ := hrel
    obtain ⟨S, hS⟩ : ∃ S, runN man C.length T (st0 C) L L.length = S := ⟨_, rfl⟩
    have hRG := RG.run HG0.out OK.out hLg (by omega) L.length (Nat.le_refl _)
    rw [hS] at hR hOut hO hRG
    have HS := Lib.hid hS; have HLg := Lib.hid hLg; have HR := Lib.hid hR; have HGD := Lib.hid hgD; have HOG := Lib.hid hOut; have HSr := Lib.hid hSr; have HO := Lib.hid hO; have RGS := Lib.hid hRG
    obtain ⟨Ao, co, eo, hco, -⟩ := Kd.R_reads hO
    have EO := Lib.hid eo
    clear hS hLg hR hgD hOut hSr hO hRG eo
    have hgt := (Sr.ge HSr.out).2
    by_cases hlt : L.length < 120
    · have q0 := decide_eq_true (show (L.length : Int) < 120 by omega)
      have pL : IntKind.wrap .i64 ((L.length : Int) + 1) = ((L.length + 1 : Nat) : Int) := by rw [i64_w]; unfold wrap64; omega
      go_wp2_with ((with_reducible refine gate_dst (N := 24) rfl ?_); refine Kd.R_lit ki (w0 := Wa) Wa.heap.size 3 rfl (N := 24) rfl (xs := ([] : List Int)) (inner := []) (ok := fun b => wt.heap.size ≤ b) (okp := fun _ => False) (by go_simp) (Reps.none _ _) (fun _ hk => hk.elim) (Nat.le_refl _) HR.out.below HR.out.below.size (by simp) ?_; intro vm0 w5 hO5 hB5 hg5 hn5; have O5 := Lib.hid hO5; have K5 := Lib.hid (show Below wt.heap.size wt w5 from pw_below_grown (Below.refl wt.heap.size wt) none (Nat.le_refl _) hg5 (fun _ h => by cases h)); clear hO5 hB5 hg5 hn5)
      go_loopw [11, 12] (fun vm iv wr => ∃ (t : Nat) (M : List Int), iv = .int .i64 (t : Int) ∧ t ≤ T.length ∧ M.length ≤ t ∧ (∀ x ∈ M, ∃ u : Nat, x = (u : Int) ∧ u < T.length ∧ S.tx u < ((thr T u).length : Int)) ∧ Below wt.heap.size wt wr ∧ ki.R 3 wr Wa.heap.size (fun b => wt.heap.size ≤ b) vm M) (fun _ iv _ => T.length - (intOf iv).toNat)
      case atStart => exact ⟨0, [], rfl, Nat.zero_le _, Nat.le_refl _, (fun _ h => by cases h), K5.out, O5.out⟩
      case round =>
        clear K5 O5
        obtain ⟨t, M, rfl, ht, hML, hM, hB, hO⟩ := hrel
        have HB := Lib.hid hB; have HM := Lib.hid hM; have OM := Lib.hid hO
        have Rr := Lib.hid (HR.out.step hB)
        obtain ⟨Am, cm, em, hcm, -⟩ := Kd.R_reads hO
        subst em
        obtain ⟨p0, p1, p2⟩ := CB.out wr (below_step HR.out.below hB)
        clear hB hM hO p0 p1
        by_cases hlt2 : t < T.length
        · have q1 := decide_eq_true (show (t : Int) < (T.length : Int) by omega)
          have pt : IntKind.wrap .i64 ((t : Int) + 1) = ((t + 1 : Nat) : Int) := by rw [i64_w]; unfold wrap64; omega
          go_wp2_with fail
          rw [← HGD.out]
          refine (mayB P Wa wr D S T t Rr.out HP.out (by rw [PN.out]; exact hlt2) (by rw [PN.out]; omega)).mono ?_
          rintro e W2 ⟨rfl, hB2⟩
          have NB := Lib.hid (below_step HB.out hB2)
          have NM := Lib.hid (Kd.R_below OM.out hB2)
          have RW := Lib.hid (HR.out.step (below_step HB.out hB2))
          have hwt2 : wt.heap.size ≤ W2.heap.size := NB.out.size
          clear hB2
          rw [HGD.out]
          by_cases hmay : S.tx t < ((thr T t).length : Int)
          · rw [decide_eq_true hmay]
            go_wp2_with ((with_reducible refine gate_builtin (b := .append) (xs := #[.tmp 35, .tmp 37]) rfl ?_); at_builtin; refine Kd.R_append ki (w0 := Wa) Wa.heap.size rfl (.tmp 35) (.tmp 37) 22 3 (.int .i64 0) 8 rfl Try.underlying22 info3 rfl (by decide) (by decide) (.slice Am M.length cm) M (t : Int) [.int .i64 (t : Int)] (fun b => wt.heap.size ≤ b) (fun _ => False) rfl rfl rfl (fun _ h => h.elim) (fun b hb => by show wt.heap.size ≤ b; omega) NM.out RW.out.below RW.out.below.size (by omega) ?_; intro v6 w6 hR6 hB6 hg6 hat6)
            have N6 := Lib.hid hR6
            have B6 := Lib.hid (pw_below_grown NB.out _ hwt2 hg6 (fun b e => NM.out.1 b e))
            clear hR6 hB6 hg6 hat6
            go_roundw
            case measure => simp [intOf]; omega
            case rel => exact ⟨t + 1, M ++ [(t : Int)], rfl, hlt2, by rw [List.length_append, List.length_singleton]; omega, all_snoc HM.out ⟨t, rfl, hlt2, hmay⟩, B6.out, N6.out⟩
          · rw [decide_eq_false hmay]
            go_wp2_with fail
            go_roundw
            case measure => simp [intOf]; omega
            case rel => exact ⟨t + 1, M, rfl, hlt2, by omega, HM.out, NB.out, NM.out⟩
        · have q1 := decide_eq_false (show ¬ (t : Int) < (T.length : Int) by omega)
          have Sw := Lib.hid (HSr.out.keep HB.out)
          have Ow := Lib.hid (Kd.R_below HO.out HB.out)
          have hgr := (Sr.ge Sw.out).2
          have hwtr := HB.out.size
          by_cases hm0 : M.length = 0
          · have q2 : ((M.length : Int) == 0) = true := by rw [beq_iff_eq]; omega
            go_wp2_with fail
            go_ret
            exact ⟨_, L, rfl, Rd.of Ow.out, hl, HLg.out, below_step BA.out Rr.out.below⟩
          · have q2 : ((M.length : Int) == 0) = false := by rw [beq_eq_false_iff_ne]; omega
            go_wp2_with fail
            refine (nextC g l1 _ (M.length : Int) Wa wr Sw.out (by omega) hF (by omega) (by omega)).mono ?_
            rintro e W3 ⟨r, rfl, hr0, hr1, hS3, hK3⟩
            have S3 := Lib.hid hS3; have K3 := Lib.hid hK3
            have M3 := Lib.hid (KeepBut.row hK3 OM.out (fun b hb => by have : wt.heap.size ≤ b := hb; omega))
            have R3 := Lib.hid (Run.keep Rr.out hK3 HOG.out (Sr.bel hS3))
            have O3 := Lib.hid (KeepBut.row hK3 Ow.out (fun b hb => hb.2))
            clear hS3 hK3
            obtain ⟨A9, c9, e9, hc9, hC9⟩ := Kd.R_reads M3.out
            obtain ⟨ad, had, hcell⟩ := Kd.at_int hC9 r hr0 hr1
            injection e9 with e9 _ e10
            have eAm : Am = some ad := e9.trans had
            subst eAm
            obtain ⟨u, hu, hun, hutx⟩ := HM.out (rd M r) (by
              unfold rd
              exact getD_mem M r.toNat 0 (by omega))
            rw [hu] at hcell
            have HUT := Lib.hid hutx
            have b1 := eq_true hr0; have b2 := eq_true hr1
            clear hC9 e9 e10 had hu hutx
            go_wp2_with fail
            have RR := RGS.out
            have hmem := OK.out.ops u _ (opsOf_mem S u (RR.g.tx u).1 HUT.out)
            have hst := stepC P Wa W3 D S T u R3.out HP.out (by rw [PN.out]; exact hun) (by rw [PN.out]; omega) (by rw [PC.out]; omega) (by rw [PC.out]; exact h1) (by have := RR.ev; omega) (by rw [PM.out]; exact hman) (fun c _ => by rw [PN.out]; exact (RR.g.own c).imp id (fun ⟨o, a, b, _⟩ => ⟨o, a, b⟩)) ⟨(RR.g.tx u).1, HUT.out⟩ (RR.g.at_ u) (fun y hy => ⟨(hmem.2 y hy).1, (hmem.2 y hy).2.1, by rw [PC.out]; exact (hmem.2 y hy).2.2.1⟩) (by omega)
            rw [PM.out, PC.out] at hst
            have HST := Lib.hid hst
            have hg3 : g < W3.heap.size := (Sr.ge S3.out).2
            clear hst hmem RR hcell b1 b2
            rw [← HGD.out]
            refine HST.out.mono ?_
            rintro e W4 ⟨rfl, D', hgD', hR4, hFr⟩
            rw [HGD.out] at hgD' ⊢
            obtain ⟨S', hS'⟩ : ∃ S', stepS man C.length T S u = S' := ⟨_, rfl⟩
            rw [hS'] at hR4 hFr
            obtain ⟨og4, hg4⟩ := hFr.2 g hg3 HOG.out
            have S4 := Lib.hid (Sr.at_ S3.out hg4 hR4.below)
            have O4 := Lib.hid (show ki.R 3 W4 Wa.heap.size (fun b => Out P D' S' b ∧ b ≠ g) _ L from Kd.R_mono (Kd.R_step (Kd.R_bound O3.out) (fun b hb hlt => (hFr.2 b hlt hb.1.1).2)) (fun b hb => ⟨(hFr.2 b hb.2.2.1 hb.1.1).1, hb.1.2⟩))
            have OG4 := Lib.hid og4
            have hst2 : runN man C.length T (st0 C) (L ++ [(u : Int)]) (L ++ [(u : Int)]).length = { S' with goes := inc S'.goes } := by
              rw [runN_snoc, HS.out]
              unfold stepG
              rw [hS']
            have HST2 := Lib.hid hst2
            have g7 := hR4.g 7 (by decide)
            have t7 := hR4.thaw .g trivial 7
            simp only [gRow] at g7
            rw [hgD'] at g7 t7
            have p7 : IntKind.wrap .i64 (S'.goes + 1) = inc S'.goes := by rw [i64_w]
            have h5 := hR4.set_goes (inc S'.goes)
            rw [hgD'] at h5
            have H5 := Lib.hid h5
            have hggne : gg ≠ g := fun e => by have := og4.1 .g trivial; rw [hgD'] at this; exact this e.symm
            have hgg0 : Wa.heap.size ≤ gg := by have := hR4.lay.ge .g trivial; rw [hgD'] at this; exact this
            have S5 := Lib.hid (Sr.set S4.out (p := ⟨gg, 7, none⟩) hggne hgg0 (.int .i64 (inc S'.goes)))
            have O5 := Lib.hid (show ki.R 3 (W4.setCell ⟨gg, 7, none⟩ (.int .i64 (inc S'.goes))) Wa.heap.size (fun b => Out P D' { S' with goes := inc S'.goes } b ∧ b ≠ g) _ L from
              Kd.R_step (Kd.R_mono O4.out (fun b hb => hb)) (fun b hb hlt => Below.heap_setCell W4 _ _ b (by show b ≠ gg; rw [← hgD']; exact hb.1.1 .g trivial)))
            have HGD' := Lib.hid hgD'
            have hsz4 : (W4.setCell ⟨gg, 7, none⟩ (Value.int .i64 (inc S'.goes))).heap.size = W4.heap.size := by simp [World.setCell]
            have hfr : ∀ b, (W4.setCell ⟨gg, 7, none⟩ (Value.int .i64 (inc S'.goes))).heap.size ≤ b → Out P D' { S' with goes := inc S'.goes } b ∧ b ≠ g := fun b hb => ⟨H5.out.fresh b hb, fun e => by have := (Sr.ge S5.out).2; omega⟩
            have HFR := Lib.hid hfr
            have HLO := EO.out
            rw [HLO] at O5
            have OL := Lib.hid O5.out
            clear h5 hR4 hFr HST hS' HR Rr R3 O3 hgD' hst2 hfr HLO O4 S4 og4 hg4 O5
            rw [EO.out]
            go_wp2_with ((with_reducible refine gate_builtin (b := .append) (xs := #[.tmp 59, .tmp 61]) rfl ?_); at_builtin; refine Kd.R_append ki (w0 := Wa) Wa.heap.size rfl (.tmp 59) (.tmp 61) 22 3 (.int .i64 0) 8 rfl Try.underlying22 info3 rfl (by decide) (by decide) (.slice Ao L.length co) L (u : Int) [.int .i64 (u : Int)] (fun b => Out P D' { S' with goes := inc S'.goes } b ∧ b ≠ g) (fun _ => False) rfl (by rw [hsz4]; rfl) rfl (fun _ h => h.elim) HFR.out OL.out H5.out.below H5.out.below.size (by omega) ?_; intro v7 w7 hR7 hB7 hg7 hat7)
            have N7 := Lib.hid hR7
            have H7 := Lib.hid (H5.out.kept (fun b e => (OL.out.1 b e).1) hg7 hB7)
            have S7 := Lib.hid (Sr.grown S5.out hg7 (fun e => (OL.out.1 g e.symm).2 rfl) hB7)
            clear hR7 hB7 hg7 hat7
            go_roundw
            case measure => simp [intOf]; omega
            case rel => exact ⟨L ++ [(u : Int)], D', by rw [List.length_append, List.length_singleton]; rfl, by rw [List.length_append, List.length_singleton]; omega, Lg.snoc HLg.out u hun (by rw [HS.out]; exact HUT.out), by rw [HST2.out]; exact H7.out, HGD'.out, by rw [HST2.out]; exact OG4.out, S7.out.mono (by rw [List.length_append, List.length_singleton]; omega), by rw [HST2.out]; exact N7.out⟩
    · have q0 := decide_eq_false (show ¬ (L.length : Int) < 120 by omega)
      go_wp2_with fail
      go_ret
      exact ⟨_, L, rfl, Rd.of HO.out, hl, HLg.out, below_step BA.out HR.out.below⟩
end Go.Proofs.Ytonhmkllfbagmaa.Tx
