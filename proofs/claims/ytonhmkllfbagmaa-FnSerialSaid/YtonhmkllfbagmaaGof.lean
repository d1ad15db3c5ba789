/- Transactions: the reference's RunTx at goes that may be. -/
import Derived.Test.YtonhmkllfbagmaaRtx
namespace Go.Proofs.Ytonhmkllfbagmaa.Tx
open Go.RowKit Go.Proofs.YtonhmkllfbagmaaW.PrintWords Go.Proofs.YtonhmkllfbagmaaW.PrintLast Go.Proofs.YtonhmkllfbagmaaW.PrintMore Go.Proofs.Ytonhmkllfbagmaa.PFnExactTxFair Go.Proofs.Ytonhmkllfbagmaa.Src
set_option linter.unusedVariables false
set_option linter.unusedSimpArgs false
set_option maxHeartbeats 8000000 in
set_option maxRecDepth 100000 in
theorem specRunTxC (w : World) (AC : Option Addr) (cC : Nat) (C : List Int) (man : Int) (AT : Option Addr) (cT : Nat) (T : List (List (List S63))) (AL : Option Addr) (cL : Nat) (L : List Int) (k : Nat) (hC : ki.C w AC C.length C) (hcC : C.length ≤ cC) (hT : kT.C w AT T.length T) (hcT : T.length ≤ cT) (hL : ki.C w AL L.length L) (hcL : L.length ≤ cL)
    (hok : spec_TxOK.f k C man T = some true) (h1 : 0 < C.length) (h2 : C.length ≤ 8) (hn : 0 < T.length) (hn2 : T.length ≤ 4) (hman : 1 ≤ man ∧ man ≤ 4) (ok : OpsOK T.length C.length T) (hl : L.length ≤ 200)
    (hg : Lg T.length man C.length T (st0 C) L) (hG : RG T.length T 0 (st0 C)) :
    Calls Try.prog 29 #[.agg #[.slice AC C.length cC, .int .i64 man, .slice AT T.length cT], .slice AL L.length cL] w fun e w' => ∃ v2 v3 v4, e = .returned (.agg #[.int .i64 0, .int .i64 0, v2, v3, v4]) ∧ Rd k53 w' v2 (runN man C.length T (st0 C) L L.length).events ∧ Rd ki w' v3 (row C.length (runN man C.length T (st0 C) L L.length).cells) ∧ Rd ki w' v4 (row T.length (runN man C.length T (st0 C) L L.length).done) ∧ Below w.heap.size w w' := by
  have HL := Lib.hid hL; have HG := Lib.hid (RG.run hG ok hg (by omega)); have HLG := Lib.hid hg
  obtain ⟨Sx, hSx⟩ : ∃ Sx, runN man C.length T (st0 C) L L.length = Sx := ⟨_, rfl⟩
  rw [hSx]
  have HSX := Lib.hid hSx
  clear hL hG hg hSx
  have HC := Lib.hid hC; have HT := Lib.hid hT; have OK := Lib.hid ok; have HOK := Lib.hid hok
  clear hC hT ok hok
  have q1 := decide_eq_false (show ¬ (L.length : Int) > 200 by omega)
  have q2 := decide_eq_false (show ¬ (L.length : Int) > 4096 by omega)
  go_enter Try.func29, Try.ntmps29
  go_wp2_with fail
  obtain ⟨Wa, hWa⟩ : ∃ Wa, (w.alloc (.cells #[.slice AC C.length cC, .int .i64 man, .slice AT T.length cT] 30)).alloc (.cells #[.int .i64 0, .int .i64 0, .slice none 0 0, .slice none 0 0, .slice none 0 0] 43) = Wa := ⟨_, rfl⟩
  have BA := Lib.hid (show Below w.heap.size w Wa by rw [← hWa]; exact below_alloc (below_alloc (Below.refl _ _) _) _)
  have CB := Lib.hid (show ∀ X, Below Wa.heap.size Wa X → X.cell? ⟨w.heap.size, 0, none⟩ = some (.slice AC C.length cC) ∧ X.cell? ⟨w.heap.size, 1, none⟩ = some (.int .i64 man) ∧ X.cell? ⟨w.heap.size, 2, none⟩ = some (.slice AT T.length cT) by
    intro X hX
    have hlt : w.heap.size < Wa.heap.size := by rw [← hWa]; simp; omega
    have hb : X.heap[w.heap.size]? = some (.cells #[.slice AC C.length cC, .int .i64 man, .slice AT T.length cT] 30 (0, 0)) := by
      rw [hX.block _ hlt, ← hWa]
      exact (Below.block (below_alloc (Below.refl _ _) _) _ (by simp)).trans (heap_alloc_new w _)
    exact ⟨(blk_cell hb 0).trans rfl, (blk_cell hb 1).trans rfl, (blk_cell hb 2).trans rfl⟩)
  have RB := Lib.hid (show ∀ X, Below Wa.heap.size Wa X → X.heap[w.heap.size + 1]? = some (.cells #[.int .i64 0, .int .i64 0, .slice none 0 0, .slice none 0 0, .slice none 0 0] 43 (0, 0)) by
    intro X hX
    have hlt : w.heap.size + 1 < Wa.heap.size := by rw [← hWa]; simp
    have e : (w.alloc (.cells #[.slice AC C.length cC, .int .i64 man, .slice AT T.length cT] 30)).heap.size = w.heap.size + 1 := by simp
    rw [hX.block _ hlt, ← hWa, ← e]
    exact heap_alloc_new _ _)
  rw [hWa]
  have hwa : w.heap.size + 1 < Wa.heap.size := by rw [← hWa]; simp
  clear hWa
  refine (spec_TxOK.calls k AC cC C man AT cT T true Wa (Kd.C_below HC.out BA.out) hcC (Kd.C_below HT.out BA.out) hcT HOK.out).mono ?_
  rintro e Wb ⟨rfl, hB⟩
  have BB := Lib.hid hB
  obtain ⟨p0, p1, p2⟩ := CB.out Wb hB
  clear hB
  go_wp2_with fail
  refine (l19BeginC Wb AC cC C man AT T.length cT (Kd.C_below HC.out (below_step BA.out BB.out)) hcC h1 (by omega) hn (by omega)).mono ?_
  rintro e Wc ⟨P, D, rfl, hPc, hPn, hPm, hPt, hPC, hPD, hR⟩
  have HR := Lib.hid hR
  have PC := Lib.hid hPc; have PN := Lib.hid hPn; have PM := Lib.hid hPm
  have PCC := Lib.hid hPC; have PDD := Lib.hid hPD
  clear hPC hPD
  have HP := Lib.hid (show Prg P Wb T from ⟨AT, cT, hPt, hcT, Kd.C_below HT.out (below_step BA.out BB.out), hPn.symm⟩)
  obtain ⟨g, hg⟩ : ∃ g, D.blk .g = g := ⟨_, rfl⟩
  have HG1 := Lib.hid hg
  rw [hg]
  clear hR hPc hPn hPm hPt hg p0 p1 p2 q1 q2
  go_wp2_with fail
  go_loopw [6] (fun iv wr => ∃ (k : Nat) (D : Dyn), k ≤ L.length ∧ iv = .int .i64 (k : Int) ∧ Run P Wb wr D (runN man C.length T (st0 C) L k) ∧ D.blk .g = g) (fun iv _ => L.length - (intOf iv).toNat)
  case atStart => exact ⟨0, D, Nat.zero_le _, rfl, HR.out, HG1.out⟩
  case round =>
    clear HR HG1 D
    obtain ⟨k, D, hk, rfl, hR, hgD⟩ := hrel
    have HR := Lib.hid hR; have HGD := Lib.hid hgD
    have hRG := HG.out k hk
    clear hR hgD
    by_cases hlt : k < L.length
    · have q0 := decide_eq_true (show (k : Int) < (L.length : Int) by omega)
      have hxn := eq_true (show (k : Int) < (L.length : Int) by omega)
      have p1 : IntKind.wrap .i64 ((k : Int) + 1) = (k : Int) + 1 := by rw [i64_w]; unfold wrap64; omega
      obtain ⟨t, het, ht, htx⟩ := HLG.out k hlt
      obtain ⟨ad, hAL, hcell⟩ := Kd.at_int (Kd.C_below HL.out (below_step (below_step BA.out BB.out) HR.out.below)) (k : Int) (by omega) (by omega)
      rw [Int.toNat_natCast, show rd L (k : Int) = (t : Int) from het] at hcell
      subst hAL
      have HET := Lib.hid het; have RGk := Lib.hid hRG; have HTX := Lib.hid htx
      clear het hRG htx
      go_wp2_with fail
      rw [← HGD.out]
      refine (mayC P Wb wr D (runN man C.length T (st0 C) L k) T t HR.out HP.out (by rw [PN.out]; exact ht) (by rw [PN.out]; omega)).mono ?_
      rintro e W2 ⟨rfl, hR2, hFr⟩
      have H2 := Lib.hid hR2
      obtain ⟨ad2, hAL2, hcell2⟩ := Kd.at_int (Kd.C_below HL.out (below_step (below_step BA.out BB.out) hR2.below)) (k : Int) (by omega) (by omega)
      rw [Int.toNat_natCast, show rd L (k : Int) = (t : Int) from HET.out] at hcell2
      injection hAL2 with hAL2
      subst hAL2
      clear hR2 hFr hcell
      rw [decide_eq_true (show (runN man C.length T (st0 C) L k).tx t < ((thr T t).length : Int) from HTX.out), HGD.out]
      go_wp2_with fail
      have RR := RGk.out
      have hmem := OK.out.ops t _ (opsOf_mem (runN man C.length T (st0 C) L k) t (RR.g.tx t).1 HTX.out)
      have hst := stepC P Wb W2 D (runN man C.length T (st0 C) L k) T t H2.out HP.out (by rw [PN.out]; exact ht) (by rw [PN.out]; omega) (by rw [PC.out]; omega) (by rw [PC.out]; exact h1) (by have := RR.ev; omega) (by rw [PM.out]; exact hman) (fun c _ => by rw [PN.out]; exact (RR.g.own c).imp id (fun ⟨o, a, b, _⟩ => ⟨o, a, b⟩)) ⟨(RR.g.tx t).1, HTX.out⟩ (RR.g.at_ t) (fun y hy => ⟨(hmem.2 y hy).1, (hmem.2 y hy).2.1, by rw [PC.out]; exact (hmem.2 y hy).2.2.1⟩) (by omega)
      rw [PM.out, PC.out] at hst
      have HST := Lib.hid hst
      clear hst hmem RR hcell2
      rw [← HGD.out]
      refine HST.out.mono ?_
      rintro e W3 ⟨rfl, D', hgD', hR3, hFr⟩
      rw [HGD.out] at hgD' ⊢
      obtain ⟨S', hS'⟩ : ∃ S', stepS man C.length T (runN man C.length T (st0 C) L k) t = S' := ⟨_, rfl⟩
      rw [hS'] at hR3
      have hst2 : runN man C.length T (st0 C) L (k + 1) = { S' with goes := inc S'.goes } := by
        show stepG man C.length T (runN man C.length T (st0 C) L k) (L.getD k 0).toNat = _
        rw [HET.out, Int.toNat_natCast]
        unfold stepG
        rw [hS']
      have HST2 := Lib.hid hst2
      have g7 := hR3.g 7 (by decide)
      have t7 := hR3.thaw .g trivial 7
      simp only [gRow] at g7
      rw [hgD'] at g7 t7
      have p7 : IntKind.wrap .i64 (S'.goes + 1) = inc S'.goes := by rw [i64_w]
      have h4 := hR3.set_goes (inc S'.goes)
      rw [hgD'] at h4
      have H4 := Lib.hid h4
      have HGD' := Lib.hid hgD'
      clear h4 hR3 hFr HST hS' HR H2 hgD' hst2
      go_wp2_with fail
      go_roundw
      case measure => simp [intOf]; omega
      case rel => exact ⟨k + 1, D', hlt, rfl, by rw [HST2.out]; exact H4.out, HGD'.out⟩
    · have q0 := decide_eq_false (show ¬ (k : Int) < (L.length : Int) by omega)
      obtain rfl : k = L.length := by omega
      rw [HSX.out] at HR hRG
      go_wp2_with fail
      rw [← HGD.out]
      refine (plainC P Wb wr D Sx HR.out).mono ?_
      rintro e W2 ⟨rfl, D2, hb2, hV2, hR2, hFr⟩
      have H2 := Lib.hid hR2
      have rb := RB.out W2 (below_step BB.out hR2.below)
      have r0 := blk_cell rb 0; have r1 := blk_cell rb 1; have r2 := blk_cell rb 2; have r3 := blk_cell rb 3; have r4 := blk_cell rb 4
      simp only [List.getElem?_toArray, List.getElem?_cons_succ, List.getElem?_cons_zero] at r0 r1 r2 r3 r4
      have z0 : ∀ o, W2.frozen? ⟨w.heap.size + 1, o, none⟩ = false := fun o => by simp [World.frozen?, rb]
      clear hR2 hFr
      obtain ⟨Ae, ce, ev, hce, -⟩ := Kd.R_reads HR.out.ev
      have EV := Lib.hid ev
      unfold logV
      rw [HGD.out, ev]
      clear ev
      go_wp2_with fail
      obtain ⟨W5, hW5⟩ : ∃ W5, (((((W2.setCell ⟨w.heap.size + 1, 0, none⟩ (.int .i64 0)).setCell ⟨w.heap.size + 1, 1, none⟩ (.int .i64 0)).setCell ⟨w.heap.size + 1, 2, none⟩ (.slice Ae Sx.events.length ce)).setCell ⟨w.heap.size + 1, 3, none⟩ (.slice (some ⟨D.blk .c, 0, none⟩) P.nc P.cC)).setCell ⟨w.heap.size + 1, 4, none⟩ (.slice (some ⟨D.blk .d, 0, none⟩) P.n P.cD)) = W5 := ⟨_, rfl⟩
      have hb5 : W5.heap[w.heap.size + 1]? = some (.cells #[.int .i64 0, .int .i64 0, .slice Ae Sx.events.length ce, .slice (some ⟨D.blk .c, 0, none⟩) P.nc P.cC, .slice (some ⟨D.blk .d, 0, none⟩) P.n P.cD] 43 (0, 0)) := by
        rw [← hW5]
        exact blk_set (blk_set (blk_set (blk_set (blk_set rb 0 _) 1 _) 2 _) 3 _) 4 _
      have hs5 : ∀ b, b ≠ w.heap.size + 1 → W5.heap[b]? = W2.heap[b]? := fun b hb => by
        rw [← hW5]
        exact (Below.heap_setCell _ _ _ b hb).trans ((Below.heap_setCell _ _ _ b hb).trans ((Below.heap_setCell _ _ _ b hb).trans ((Below.heap_setCell _ _ _ b hb).trans (Below.heap_setCell _ _ _ b hb))))
      have hB5 : Below w.heap.size w W5 := by
        rw [← hW5]
        have hle : w.heap.size ≤ w.heap.size + 1 := Nat.le_succ _
        exact (((((below_step (below_step BA.out BB.out) H2.out.below).setCell (p := ⟨w.heap.size + 1, 0, none⟩) hle _).setCell (p := ⟨w.heap.size + 1, 1, none⟩) hle _).setCell (p := ⟨w.heap.size + 1, 2, none⟩) hle _).setCell (p := ⟨w.heap.size + 1, 3, none⟩) hle _).setCell (p := ⟨w.heap.size + 1, 4, none⟩) hle _
      rw [hW5]
      clear hW5
      have hwb : w.heap.size + 1 < Wb.heap.size := Nat.lt_of_lt_of_le hwa BB.out.size
      refine bodyPost_ret (ret27 rfl _ _ (w.heap.size + 1) _ _ _ _ _ rfl hb5) rfl ?_
      refine ⟨_, _, _, rfl, ?_, ?_, ?_, hB5⟩
      · rw [← EV.out, ← hV2]
        exact Rd.of (Kd.R_step (Kd.R_bound H2.out.ev) (fun b hb _ => hs5 b (by have := hb.2.1; omega)))
      · rw [← PC.out, ← hb2]
        exact rd_fn ((H2.out.lay.at_ .c trivial).move (hs5 _ (by have := H2.out.lay.ge .c trivial; omega))) PCC.out (by rw [PC.out]; omega)
      · rw [← PN.out, ← hb2]
        exact rd_fn ((H2.out.lay.at_ .d trivial).move (hs5 _ (by have := H2.out.lay.ge .d trivial; omega))) PDD.out (by rw [PN.out]; omega)
end Go.Proofs.Ytonhmkllfbagmaa.Tx
