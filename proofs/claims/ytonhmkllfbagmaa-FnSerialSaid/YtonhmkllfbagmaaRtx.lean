/- Transactions: the program's RunTx at goes that may be; drawn work; rows alike. -/
import Derived.Test.YtonhmkllfbagmaaLedL
import Derived.Test.YtonhmkllfbagmaaPlC
import Derived.Test.YtonhmkllfbagmaaDrw
namespace Go.Proofs.Ytonhmkllfbagmaa.Tx
open Go.RowKit Go.Proofs.YtonhmkllfbagmaaW.PrintWords Go.Proofs.YtonhmkllfbagmaaW.PrintLast Go.Proofs.YtonhmkllfbagmaaW.PrintMore Go.Proofs.Ytonhmkllfbagmaa.PFnExactTxFair Go.Proofs.Ytonhmkllfbagmaa.Src
set_option linter.unusedVariables false
set_option linter.unusedSimpArgs false
theorem ret27 {fn : Func} (h : fn.results = #[.cell 4 43]) (tmps : Array Value) (w : World) (g : Nat) (v0 v1 v2 v3 v4 : Value) (hp : tmps.getD 4 undef = .pointer (some ⟨g, 0, none⟩)) (hb : w.heap[g]? = some (.cells #[v0, v1, v2, v3, v4] 43 (0, 0))) :
    (results fn tmps).run Try.prog w = .ok (.agg #[v0, v1, v2, v3, v4]) w := by
  have p0 := blk_cell hb 0; have p1 := blk_cell hb 1; have p2 := blk_cell hb 2; have p3 := blk_cell hb 3; have p4 := blk_cell hb 4
  simp only [List.getElem?_toArray, List.getElem?_cons_succ, List.getElem?_cons_zero] at p0 p1 p2 p3 p4
  have hi : (Try.prog.info? 43).map (fun i => i.size) = some 5 := by kernel_rfl
  have hp2 : tmps[4]?.getD undef = .pointer (some ⟨g, 0, none⟩) := by simpa using hp
  simp [results, h, go_sem, hp2, p0, p1, p2, p3, p4]
set_option maxHeartbeats 8000000 in
set_option maxRecDepth 100000 in
theorem txOfC (A0 : Option Addr) (c0 : Nat) (l0 : List Int) (w : World) (hr0 : Kd.C (Kd.int .u8) w A0 l0.length l0) (hc0 : l0.length ≤ c0) (hF : Bytes l0) :
    Calls Try.prog 25 #[.slice A0 l0.length c0] w fun e w' => ∃ v0 M v2 C T, e = .returned (.agg #[v0, .int .i64 M, v2]) ∧ Rd ki w' v0 C ∧ Rd kT w' v2 T ∧ PureTxFair.workB C M T = true ∧ PureTxFair.Small C T ∧ Below w.heap.size w w' := by
  have HR := Lib.hid hr0
  clear hr0
  go_enter Try.func25, Try.ntmps25
  go_wp2_with fail
  obtain ⟨W1, hW1⟩ : ∃ W1, w.alloc (.cells #[.slice none 0 0, .int .i64 0, .slice none 0 0] 30) = W1 := ⟨_, rfl⟩
  have B1 := Lib.hid (show Below w.heap.size w W1 by rw [← hW1]; exact below_alloc (Below.refl _ _) _)
  have R1 := Lib.hid (show W1.heap[w.heap.size]? = some (.cells #[.slice none 0 0, .int .i64 0, .slice none 0 0] 30 (0, 0)) by rw [← hW1]; exact heap_alloc_new w _)
  rw [hW1]
  clear hW1
  refine (sourceC A0 c0 l0 W1 (Kd.C_below HR.out B1.out) hc0).mono ?_
  rintro e W2 ⟨g, rfl, hS, hg, hB⟩
  have S2 := Lib.hid hS
  have hlt := blk_lt R1.out
  clear hS hB
  go_wp2_with fail
  refine (txProgC W1 W2 g l0 S2.out hF).mono ?_
  rintro e W3 ⟨v0, M, v2, C, T, rfl, h0, h2, hw, hs, hB⟩
  have B3 := Lib.hid (below_step B1.out hB)
  have R3 := Lib.hid ((hB.block _ hlt).trans R1.out)
  have H0 := Lib.hid h0; have H2 := Lib.hid h2
  obtain ⟨A, c, rfl, -, -⟩ := h0.2 W3 (Nat.le_refl _) (fun _ _ _ => rfl)
  obtain ⟨A2, c2, rfl, -, -⟩ := h2.2 W3 (Nat.le_refl _) (fun _ _ _ => rfl)
  clear h0 h2
  have hWB := Lib.hid hw; have hSM := Lib.hid hs
  clear hB hw hs
  have r0 := blk_cell R3.out 0; have r1 := blk_cell R3.out 1; have r2 := blk_cell R3.out 2
  simp only [List.getElem?_toArray, List.getElem?_cons_succ, List.getElem?_cons_zero] at r0 r1 r2
  have z0 : ∀ o, W3.frozen? ⟨w.heap.size, o, none⟩ = false := fun o => by simp [World.frozen?, R3.out]
  go_wp2_with fail
  obtain ⟨W9, hW9⟩ : ∃ W9, ((W3.setCell ⟨w.heap.size, 0, none⟩ (.slice A C.length c)).setCell ⟨w.heap.size, 1, none⟩ (.int .i64 M)).setCell ⟨w.heap.size, 2, none⟩ (.slice A2 T.length c2) = W9 := ⟨_, rfl⟩
  have hb9 : W9.heap[w.heap.size]? = some (.cells #[.slice A C.length c, .int .i64 M, .slice A2 T.length c2] 30 (0, 0)) := by
    rw [← hW9]; exact blk_set (blk_set (blk_set R3.out 0 _) 1 _) 2 _
  have hs9 : ∀ b, b ≠ w.heap.size → W9.heap[b]? = W3.heap[b]? := fun b hb => by
    rw [← hW9]
    exact (Below.heap_setCell _ _ _ b hb).trans ((Below.heap_setCell _ _ _ b hb).trans (Below.heap_setCell _ _ _ b hb))
  have hz9 : W3.heap.size ≤ W9.heap.size := by rw [← hW9]; simp [World.setCell]
  have hB9 : Below w.heap.size w W9 := by
    rw [← hW9]
    have hle : w.heap.size ≤ w.heap.size := Nat.le_refl _
    exact ((B3.out.setCell (p := ⟨w.heap.size, 0, none⟩) hle _).setCell (p := ⟨w.heap.size, 1, none⟩) hle _).setCell (p := ⟨w.heap.size, 2, none⟩) hle _
  rw [hW9]
  clear hW9
  have q0 := blk_cell hb9 0; have q1 := blk_cell hb9 1; have q2 := blk_cell hb9 2
  simp only [List.getElem?_toArray, List.getElem?_cons_succ, List.getElem?_cons_zero] at q0 q1 q2
  refine bodyPost_ret (ret30 rfl _ _ w.heap.size _ _ _ rfl q0 q1 q2) rfl ?_
  have hxw : w.heap.size < W2.heap.size := Nat.lt_of_lt_of_le hlt (Sr.bel S2.out).size
  refine ⟨_, M, _, C, T, rfl, ?_, ?_, hWB.out, hSM.out, hB9⟩
  · exact H0.out.2 W9 hz9 (fun b h1 _ => hs9 b (by omega))
  · exact H2.out.2 W9 hz9 (fun b h1 _ => hs9 b (by omega))
set_option maxHeartbeats 8000000 in
set_option maxRecDepth 100000 in
theorem runTxC (w : World) (AC : Option Addr) (cC : Nat) (C : List Int) (man : Int) (AT : Option Addr) (cT : Nat) (T : List (List (List S63))) (AL : Option Addr) (cL : Nat) (L : List Int) (k : Nat) (hC : ki.C w AC C.length C) (hcC : C.length ≤ cC) (hT : kT.C w AT T.length T) (hcT : T.length ≤ cT) (hL : ki.C w AL L.length L) (hcL : L.length ≤ cL)
    (hok : impl_TxOK.f k C man T = some true) (h1 : 0 < C.length) (h2 : C.length ≤ 8) (hn : 0 < T.length) (hn2 : T.length ≤ 4) (hman : 1 ≤ man ∧ man ≤ 4) (ok : OpsOK T.length C.length T) (hl : L.length ≤ 200)
    (hg : Lg T.length man C.length T (st0 C) L) (hG : RG T.length T 0 (st0 C)) :
    Calls Try.prog 27 #[.agg #[.slice AC C.length cC, .int .i64 man, .slice AT T.length cT], .slice AL L.length cL] w fun e w' => ∃ v2 v3 v4, e = .returned (.agg #[.int .i64 0, .int .i64 0, v2, v3, v4]) ∧ Rd k53 w' v2 (runN man C.length T (st0 C) L L.length).events ∧ Rd ki w' v3 (row C.length (runN man C.length T (st0 C) L L.length).cells) ∧ Rd ki w' v4 (row T.length (runN man C.length T (st0 C) L L.length).done) ∧ Below w.heap.size w w' := by
  have HL := Lib.hid hL; have HG := Lib.hid (RG.run hG ok hg (by omega)); have HLG := Lib.hid hg
  obtain ⟨Sx, hSx⟩ : ∃ Sx, runN man C.length T (st0 C) L L.length = Sx := ⟨_, rfl⟩
  rw [hSx]
  have HSX := Lib.hid hSx
  clear hL hG hg hSx
  have HC := Lib.hid hC; have HT := Lib.hid hT; have OK := Lib.hid ok; have HOK := Lib.hid hok
  clear hC hT ok hok
  have q1 := decide_eq_false (show ¬ (L.length : Int) > 200 by omega)
  go_enter Try.func27, Try.ntmps27
  go_wp2_with fail
  obtain ⟨Wa, hWa⟩ : ∃ Wa, (w.alloc (.cells #[.slice AC C.length cC, .int .i64 man, .slice AT T.length cT] 30)).alloc (.cells #[.int .i64 0, .int .i64 0, .slice none 0 0, .slice none 0 0, .slice none 0 0] 43) = Wa := ⟨_, rfl⟩
  have BA := Lib.hid (show Below w.heap.size w Wa by rw [← hWa]; exact below_alloc (below_alloc (Below.refl _ _) _) _)
  have CB := Lib.hid (show ∀ X, Below Wa.heap.size Wa X → X.cell? ⟨w.heap.size, 0, none⟩ = some (.slice AC C.length cC) ∧ X.cell? ⟨w.heap.size, 1, none⟩ = some (.int .i64 man) ∧ X.cell? ⟨w.heap.size, 2, none⟩ = some (.slice AT T.length cT) by
    intro X hX
    have hlt : w.heap.size < Wa.heap.size := by rw [← hWa]; simp; omega
    have hb : X.heap[w.heap.size]? = some (.cells #[.slice AC C.length cC, .int .i64 man, .slice AT T.length cT] 30 (0, 0)) := by
      rw [hX.block _ hlt, ← hWa]
      exact (Below.block (below_alloc (Below.refl _ _) _) _ (by simp)).trans (heap_alloc_new w _)
    exact ⟨(blk_cell hb 0).trans rfl, (blk_cell hb 1).trans rfl, (blk_cell hb 2).trans rfl⟩)
  have RB := Lib.hid (show ∀ X, Below Wa.heap.size Wa X → X.heap[w.heap.size + 1]? = some (.cells #[.int .i64 0, .int .i64 0, .slice none 0 0, .slice none 0 0, .slice none 0 0] 43 (0, 0)) by
    intro X hX
    have hlt : w.heap.size + 1 < Wa.heap.size := by rw [← hWa]; simp
    have e : (w.alloc (.cells #[.slice AC C.length cC, .int .i64 man, .slice AT T.length cT] 30)).heap.size = w.heap.size + 1 := by simp
    rw [hX.block _ hlt, ← hWa, ← e]
    exact heap_alloc_new _ _)
  rw [hWa]
  have hwa : w.heap.size + 1 < Wa.heap.size := by rw [← hWa]; simp
  clear hWa
  refine (impl_TxOK.calls k AC cC C man AT cT T true Wa (Kd.C_below HC.out BA.out) hcC (Kd.C_below HT.out BA.out) hcT HOK.out).mono ?_
  rintro e Wb ⟨rfl, hB⟩
  have BB := Lib.hid hB
  obtain ⟨p0, p1, p2⟩ := CB.out Wb hB
  clear hB
  go_wp2_with fail
  refine (ledgerOfC Wb AC cC C man AT T.length cT (Kd.C_below HC.out (below_step BA.out BB.out)) hcC h1 (by omega) hn (by omega)).mono ?_
  rintro e Wc ⟨P, D, rfl, hPc, hPn, hPm, hPt, hPC, hR⟩
  have HR := Lib.hid hR
  have PC := Lib.hid hPc; have PN := Lib.hid hPn; have PM := Lib.hid hPm
  have PCC := Lib.hid hPC
  have HP := Lib.hid (show PrgL P Wb T from ⟨AT, cT, hPt, hcT, Kd.C_below HT.out (below_step BA.out BB.out), hPn.symm⟩)
  obtain ⟨g, hg⟩ : ∃ g, D.blk .g = g := ⟨_, rfl⟩
  have HG1 := Lib.hid hg
  rw [hg]
  clear hR hPc hPn hPm hPt hPC hg p0 p1 p2 q1
  go_wp2_with fail
  go_loopw [22] (fun iv wr => ∃ (k : Nat) (D : LDyn), k ≤ L.length ∧ iv = .int .i64 (k : Int) ∧ Led P Wb wr D (runN man C.length T (st0 C) L k) ∧ D.blk .g = g) (fun iv _ => L.length - (intOf iv).toNat)
  case atStart => exact ⟨0, D, Nat.zero_le _, rfl, HR.out, HG1.out⟩
  case round =>
    clear HR HG1 D
    obtain ⟨k, D, hk, rfl, hR, hgD⟩ := hrel
    have HR := Lib.hid hR; have HGD := Lib.hid hgD
    have hRG := HG.out k hk
    clear hR hgD
    by_cases hlt : k < L.length
    · have q0 := decide_eq_true (show (k : Int) < (L.length : Int) by omega)
      have hxn := eq_true (show (k : Int) < (L.length : Int) by omega)
      have p1 : IntKind.wrap .i64 ((k : Int) + 1) = (k : Int) + 1 := by rw [i64_w]; unfold wrap64; omega
      obtain ⟨t, het, ht, htx⟩ := HLG.out k hlt
      obtain ⟨ad, hAL, hcell⟩ := Kd.at_int (Kd.C_below HL.out (below_step (below_step BA.out BB.out) HR.out.below)) (k : Int) (by omega) (by omega)
      rw [Int.toNat_natCast, show rd L (k : Int) = (t : Int) from het] at hcell
      subst hAL
      have HET := Lib.hid het; have RGk := Lib.hid hRG; have HTX := Lib.hid htx
      clear het hRG htx
      go_wp2_with fail
      rw [← HGD.out]
      refine (isDoneL P Wb wr D (runN man C.length T (st0 C) L k) T t HR.out HP.out (by rw [PN.out]; exact ht) (by rw [PN.out]; omega)).mono ?_
      rintro e W2 ⟨rfl, hR2, hFr⟩
      have H2 := Lib.hid hR2
      clear hR2 hFr hcell
      rw [decide_eq_false (show ¬ (runN man C.length T (st0 C) L k).tx t ≥ ((thr T t).length : Int) by have := HTX.out; omega), HGD.out]
      go_wp2_with fail
      have RR := RGk.out
      refine (goOnL P Wb W2 D (runN man C.length T (st0 C) L k) T t g HGD.out H2.out HP.out (by rw [PN.out]; exact ht) (by rw [PN.out]; omega) (by rw [PC.out]; omega) (by have := RR.ev; omega) (by rw [PM.out]; exact hman) (by rw [PN.out]; exact RR.g) (by rw [PN.out, PC.out]; exact OK.out) HTX.out (fun c => by have := RR.vr c; omega)).mono ?_
      rintro e W3 ⟨rfl, D', hgD', hR3, hFr⟩
      rw [PM.out, PC.out] at hR3
      have H3 := Lib.hid hR3
      have HGD' := Lib.hid hgD'
      have hst : runN man C.length T (st0 C) L (k + 1) = stepG man C.length T (runN man C.length T (st0 C) L k) t := by
        show stepG man C.length T (runN man C.length T (st0 C) L k) (L.getD k 0).toNat = _
        rw [HET.out, Int.toNat_natCast]
      have HST := Lib.hid hst
      clear hR3 hFr hgD' RR hst
      go_wp2_with fail
      go_roundw
      case measure => simp [intOf]; omega
      case rel => exact ⟨k + 1, D', hlt, rfl, by rw [HST.out]; exact H3.out, HGD'.out⟩
    · have q0 := decide_eq_false (show ¬ (k : Int) < (L.length : Int) by omega)
      obtain rfl : k = L.length := by omega
      rw [HSX.out] at HR hRG
      go_wp2_with fail
      rw [← HGD.out]
      refine (logC P Wb wr D Sx HR.out (by rw [PN.out]; omega) (by rw [PC.out]; omega) PCC.out).mono ?_
      rintro e W2 ⟨v2, v3, rfl, h2, h3, hB2⟩
      have H2 := Lib.hid h2; have H3 := Lib.hid h3; have B2 := Lib.hid hB2
      have BW := Lib.hid (show Below Wb.heap.size Wb W2 from below_step HR.out.below hB2)
      have rb := RB.out W2 (below_step BB.out BW.out)
      have r0 := blk_cell rb 0; have r1 := blk_cell rb 1; have r2 := blk_cell rb 2; have r3 := blk_cell rb 3; have r4 := blk_cell rb 4
      simp only [List.getElem?_toArray, List.getElem?_cons_succ, List.getElem?_cons_zero] at r0 r1 r2 r3 r4
      have z0 : ∀ o, W2.frozen? ⟨w.heap.size + 1, o, none⟩ = false := fun o => by simp [World.frozen?, rb]
      clear h2 h3 hB2
      obtain ⟨Ae, ce, ev, hce, -⟩ := Kd.R_reads HR.out.ev
      have EV := Lib.hid ev
      rw [ev]
      clear ev
      obtain ⟨A2, c2, e2, hc2, -⟩ := Kd.R_reads H2.out
      obtain ⟨A3, c3, e3, hc3, -⟩ := Kd.R_reads H3.out
      rw [row_len] at e2 e3
      subst e2 e3
      go_wp2_with fail
      obtain ⟨W5, hW5⟩ : ∃ W5, (((((W2.setCell ⟨w.heap.size + 1, 0, none⟩ (.int .i64 0)).setCell ⟨w.heap.size + 1, 1, none⟩ (.int .i64 0)).setCell ⟨w.heap.size + 1, 2, none⟩ (.slice Ae Sx.events.length ce)).setCell ⟨w.heap.size + 1, 3, none⟩ (.slice A2 P.nc c2)).setCell ⟨w.heap.size + 1, 4, none⟩ (.slice A3 P.n c3)) = W5 := ⟨_, rfl⟩
      have hb5 : W5.heap[w.heap.size + 1]? = some (.cells #[.int .i64 0, .int .i64 0, .slice Ae Sx.events.length ce, .slice A2 P.nc c2, .slice A3 P.n c3] 43 (0, 0)) := by
        rw [← hW5]
        exact blk_set (blk_set (blk_set (blk_set (blk_set rb 0 _) 1 _) 2 _) 3 _) 4 _
      have hs5 : ∀ b, b ≠ w.heap.size + 1 → W5.heap[b]? = W2.heap[b]? := fun b hb => by
        rw [← hW5]
        exact (Below.heap_setCell _ _ _ b hb).trans ((Below.heap_setCell _ _ _ b hb).trans ((Below.heap_setCell _ _ _ b hb).trans ((Below.heap_setCell _ _ _ b hb).trans (Below.heap_setCell _ _ _ b hb))))
      have hB5 : Below w.heap.size w W5 := by
        rw [← hW5]
        have hle : w.heap.size ≤ w.heap.size + 1 := Nat.le_succ _
        exact (((((below_step (below_step BA.out BB.out) BW.out).setCell (p := ⟨w.heap.size + 1, 0, none⟩) hle _).setCell (p := ⟨w.heap.size + 1, 1, none⟩) hle _).setCell (p := ⟨w.heap.size + 1, 2, none⟩) hle _).setCell (p := ⟨w.heap.size + 1, 3, none⟩) hle _).setCell (p := ⟨w.heap.size + 1, 4, none⟩) hle _
      rw [hW5]
      clear hW5
      have hwb : w.heap.size + 1 < Wb.heap.size := Nat.lt_of_lt_of_le hwa BB.out.size
      have hwr : Wb.heap.size ≤ wr.heap.size := HR.out.below.size
      refine bodyPost_ret (ret27 rfl _ _ (w.heap.size + 1) _ _ _ _ _ rfl hb5) rfl ?_
      refine ⟨_, _, _, rfl, ?_, ?_, ?_, hB5⟩
      · rw [← EV.out]
        exact Rd.of (Kd.R_step (Kd.R_below (Kd.R_bound HR.out.ev) B2.out) (fun b hb _ => hs5 b (by have := hb.2.1; omega)))
      · rw [← PC.out]
        exact Rd.of (Kd.R_step (Kd.R_bound H2.out) (fun b hb _ => hs5 b (by have := hb.2.1; omega)))
      · rw [← PN.out, show Sx.done = Sx.tx from funext hRG.g.done]
        exact Rd.of (Kd.R_step (Kd.R_bound H3.out) (fun b hb _ => hs5 b (by have := hb.2.1; omega)))
end Go.Proofs.Ytonhmkllfbagmaa.Tx
