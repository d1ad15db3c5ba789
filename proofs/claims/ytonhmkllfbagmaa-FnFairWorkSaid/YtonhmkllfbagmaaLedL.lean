/- Transactions: the program's TxFair. -/
import Derived.Test.YtonhmkllfbagmaaLedK
import Derived.Test.YtonhmkllfbagmaaRunK
import Derived.Test.YtonhmkllfbagmaaPFnExactTxFairx7
namespace Go.Proofs.Ytonhmkllfbagmaa.Tx
open Go.RowKit Go.Proofs.YtonhmkllfbagmaaW.PrintWords Go.Proofs.YtonhmkllfbagmaaW.PrintLast Go.Proofs.YtonhmkllfbagmaaW.PrintMore Go.Proofs.Ytonhmkllfbagmaa.PFnExactTxFair
set_option linter.unusedVariables false
set_option linter.unusedSimpArgs false
def faV : Value → Nat
  | .bool false => 1
  | _ => 0
theorem Led.kept {P : LPar} {w0 w w' : World} {D : LDyn} {S : St} (h : Led P w0 w D S) {v : Value} (hk : ∀ b, v.ownBlock = some b → OutL P D b) (hg : w.grownBy w' v.ownBlock) (hB : Below w0.heap.size w0 w') : Led P w0 w' D S :=
  ⟨fun j hj => atJ_move (h.at_ j hj) rfl (hg.block _ (h.lt j hj) (fun e => (hk _ e.symm).1 j hj rfl)) (by cases j <;> first | rfl | exact fun _ _ => rfl), h.ge, h.inj, Kd.R_reok rfl (Kd.R_step (ok := fun b => D.V.ownBlock = some b) (Kd.R_reok rfl h.ev (fun b hb => hb)) (fun b hb hlt => hg.block b hlt (fun e => (hk b e.symm).2 hb.symm))) (fun b hb => h.ev.1 b hb), h.sw, hB⟩
theorem out_frL {P : LPar} {w w' : World} {base : Nat} {D D' : LDyn} {v : Value} {xs : List Int} (h : ki.R 3 w base (OutL P D) v xs) (k : FrL P w w' D D') : ki.R 3 w' base (OutL P D') v xs :=
  Kd.R_mono (Kd.R_step (Kd.R_bound h) (fun b hb hlt => (k.2 b hlt hb.1).2)) (fun b hb => (k.2 b hb.2.2.1 hb.1).1)
set_option maxHeartbeats 8000000 in
set_option maxRecDepth 100000 in
theorem implFairC (w : World) (AC : Option Addr) (cC : Nat) (C : List Int) (man : Int) (AT : Option Addr) (cT : Nat) (T : List (List (List S63))) (most : Int) (k : Nat) (hC : ki.C w AC C.length C) (hcC : C.length ≤ cC) (hT : kT.C w AT T.length T) (hcT : T.length ≤ cT)
    (hok : impl_TxOK.f k C man T = some true) (h1 : 0 < C.length) (h2 : C.length ≤ 8) (hn : 0 < T.length) (hn2 : T.length ≤ 4) (hman : 1 ≤ man ∧ man ≤ 4) (ok : OpsOK T.length C.length T) (hm0 : 0 ≤ most) (hm : most ≤ 200)
    (x : FS) (hF : IsFair man C.length T most (st0 C) x) (hG : GoodF T.length T most ⟨st0 C, [], true⟩) :
    Calls Try.prog 21 #[.agg #[.slice AC C.length cC, .int .i64 man, .slice AT T.length cT], .int .i64 most] w fun e w' => ∃ v0 v2 v3 v4, e = .returned (.tuple #[v0, .agg #[.int .i64 0, .int .i64 0, v2, v3, v4]]) ∧ ki.R 3 w' w.heap.size (fun _ => True) v0 x.out ∧ k53.R 53 w' w.heap.size (fun b => some b ≠ v0.ownBlock) v2 x.S.events ∧ ki.R 3 w' w.heap.size (fun b => some b ≠ v0.ownBlock ∧ some b ≠ v2.ownBlock) v3 (row C.length x.S.cells) ∧ ki.R 3 w' w.heap.size (fun b => some b ≠ v0.ownBlock ∧ some b ≠ v2.ownBlock ∧ some b ≠ v3.ownBlock) v4 (row T.length x.S.done) ∧ Below w.heap.size w w' := by
  have HC := Lib.hid hC; have HT := Lib.hid hT; have HF := Lib.hid hF; have HG := Lib.hid hG; have OK := Lib.hid ok; have HOK := Lib.hid hok
  clear hC hT hF hG ok hok
  have q1 := decide_eq_false (show ¬ most < 0 by omega)
  have q2 := decide_eq_false (show ¬ most > 200 by omega)
  go_enter Try.func21, Try.ntmps21
  go_wp2_with fail
  obtain ⟨Wa, hWa⟩ : ∃ Wa, (w.alloc (.cells #[.slice AC C.length cC, .int .i64 man, .slice AT T.length cT] 30)).alloc (.cells #[.int .i64 0, .int .i64 0, .slice none 0 0, .slice none 0 0, .slice none 0 0] 43) = Wa := ⟨_, rfl⟩
  have BA := Lib.hid (show Below w.heap.size w Wa by rw [← hWa]; exact below_alloc (below_alloc (Below.refl _ _) _) _)
  have CB := Lib.hid (show ∀ X, Below Wa.heap.size Wa X → X.cell? ⟨w.heap.size, 0, none⟩ = some (.slice AC C.length cC) ∧ X.cell? ⟨w.heap.size, 1, none⟩ = some (.int .i64 man) ∧ X.cell? ⟨w.heap.size, 2, none⟩ = some (.slice AT T.length cT) by
    intro X hX
    have hlt : w.heap.size < Wa.heap.size := by rw [← hWa]; simp; omega
    have hb : X.heap[w.heap.size]? = some (.cells #[.slice AC C.length cC, .int .i64 man, .slice AT T.length cT] 30 (0, 0)) := by
      rw [hX.block _ hlt, ← hWa]
      exact (Below.block (below_alloc (Below.refl _ _) _) _ (by simp)).trans (heap_alloc_new w _)
    exact ⟨(blk_cell hb 0).trans rfl, (blk_cell hb 1).trans rfl, (blk_cell hb 2).trans rfl⟩)
  have RB := Lib.hid (show ∀ X, Below Wa.heap.size Wa X → X.heap[w.heap.size + 1]? = some (.cells #[.int .i64 0, .int .i64 0, .slice none 0 0, .slice none 0 0, .slice none 0 0] 43 (0, 0)) by
    intro X hX
    have hlt : w.heap.size + 1 < Wa.heap.size := by rw [← hWa]; simp
    have e : (w.alloc (.cells #[.slice AC C.length cC, .int .i64 man, .slice AT T.length cT] 30)).heap.size = w.heap.size + 1 := by simp
    rw [hX.block _ hlt, ← hWa, ← e]
    exact heap_alloc_new _ _)
  rw [hWa]
  have hwa : w.heap.size + 1 < Wa.heap.size := by rw [← hWa]; simp
  clear hWa
  refine (impl_TxOK.calls k AC cC C man AT cT T true Wa (Kd.C_below HC.out BA.out) hcC (Kd.C_below HT.out BA.out) hcT HOK.out).mono ?_
  rintro e Wb ⟨rfl, hB⟩
  have BB := Lib.hid hB
  obtain ⟨p0, p1, p2⟩ := CB.out Wb hB
  clear hB
  go_wp2_with fail
  refine (ledgerOfC Wb AC cC C man AT T.length cT (Kd.C_below HC.out (below_step BA.out BB.out)) hcC h1 (by omega) hn (by omega)).mono ?_
  rintro e Wc ⟨P, D, rfl, hPc, hPn, hPm, hPt, hPC, hR⟩
  have HR := Lib.hid hR
  have PC := Lib.hid hPc; have PN := Lib.hid hPn; have PM := Lib.hid hPm
  have PCC := Lib.hid hPC
  have HP := Lib.hid (show PrgL P Wb T from ⟨AT, cT, hPt, hcT, Kd.C_below HT.out (below_step BA.out BB.out), hPn.symm⟩)
  obtain ⟨g, hg⟩ : ∃ g, D.blk .g = g := ⟨_, rfl⟩
  have HG1 := Lib.hid hg
  rw [hg]
  clear hR hPc hPn hPm hPt hPC hg p0 p1 p2 q1 q2
  go_wp2_with fail
  obtain ⟨F, hF⟩ : ∃ F, rnd man C.length T most (st0 C) = F := ⟨_, rfl⟩
  have FE := Lib.hid hF
  have GF := Lib.hid (show ∀ k, GoodF T.length T most (F k) by rw [← hF]; exact HG.out.rnd OK.out hm)
  have F0 : F 0 = ⟨st0 C, [], true⟩ := by rw [← hF]; rfl
  clear hF
  go_loopw [7, 8] (fun vo vs wr => ∃ (k : Nat) (D : LDyn), vs = .bool (!(F k).some_) ∧ Led P Wb wr D (F k).S ∧ D.blk .g = g ∧ ki.R 3 wr Wb.heap.size (OutL P D) vo (F k).out) (fun vo vs _ => faV vs * (201 - lnV vo))
  case atStart => exact ⟨0, D, by rw [F0]; rfl, by rw [F0]; exact HR.out, HG1.out, by rw [F0]; exact Kd.R_nil _ _ _ _ _⟩
  case round =>
    clear HR HG1 F0 D
    obtain ⟨k, D, rfl, hR, hgD, hO⟩ := hrel
    have HR := Lib.hid hR; have HO := Lib.hid hO; have HGD := Lib.hid hgD
    obtain ⟨Ao, co, eo, hco, -⟩ := Kd.R_reads hO
    clear hR hO hgD
    rcases hfl : (F k).some_ with _ | _
    · rw [show (!false) = true from rfl]
      have hx : x = F k := HF.out.uniq ⟨k, by rw [FE.out], hfl⟩
      go_wp2_with fail
      rw [← HGD.out]
      refine (logC P Wb wr D (F k).S HR.out (by rw [PN.out]; omega) (by rw [PC.out]; omega) PCC.out).mono ?_
      rintro e W2 ⟨v2, v3, rfl, h2, h3, hB2⟩
      have H2 := Lib.hid h2; have H3 := Lib.hid h3; have B2 := Lib.hid hB2
      have BW := Lib.hid (show Below Wb.heap.size Wb W2 from below_step HR.out.below hB2)
      have rb := RB.out W2 (below_step BB.out BW.out)
      have r0 := blk_cell rb 0; have r1 := blk_cell rb 1; have r2 := blk_cell rb 2; have r3 := blk_cell rb 3; have r4 := blk_cell rb 4
      simp only [List.getElem?_toArray, List.getElem?_cons_succ, List.getElem?_cons_zero] at r0 r1 r2 r3 r4
      have z0 : ∀ o, W2.frozen? ⟨w.heap.size + 1, o, none⟩ = false := fun o => by simp [World.frozen?, rb]
      clear h2 h3 hB2
      obtain ⟨Ae, ce, ev, hce, -⟩ := Kd.R_reads HR.out.ev
      have EV := Lib.hid ev
      rw [ev]
      clear ev
      obtain ⟨A2, c2, e2, hc2, -⟩ := Kd.R_reads H2.out
      obtain ⟨A3, c3, e3, hc3, -⟩ := Kd.R_reads H3.out
      rw [row_len] at e2 e3
      subst e2 e3
      go_wp2_with fail
      obtain ⟨W5, hW5⟩ : ∃ W5, (((((W2.setCell ⟨w.heap.size + 1, 0, none⟩ (.int .i64 0)).setCell ⟨w.heap.size + 1, 1, none⟩ (.int .i64 0)).setCell ⟨w.heap.size + 1, 2, none⟩ (.slice Ae (F k).S.events.length ce)).setCell ⟨w.heap.size + 1, 3, none⟩ (.slice A2 P.nc c2)).setCell ⟨w.heap.size + 1, 4, none⟩ (.slice A3 P.n c3)) = W5 := ⟨_, rfl⟩
      have hb5 : W5.heap[w.heap.size + 1]? = some (.cells #[.int .i64 0, .int .i64 0, .slice Ae (F k).S.events.length ce, .slice A2 P.nc c2, .slice A3 P.n c3] 43 (0, 0)) := by
        rw [← hW5]
        exact blk_set (blk_set (blk_set (blk_set (blk_set rb 0 _) 1 _) 2 _) 3 _) 4 _
      have hs5 : ∀ b, b ≠ w.heap.size + 1 → W5.heap[b]? = W2.heap[b]? := fun b hb => by
        rw [← hW5]
        exact (Below.heap_setCell _ _ _ b hb).trans ((Below.heap_setCell _ _ _ b hb).trans ((Below.heap_setCell _ _ _ b hb).trans ((Below.heap_setCell _ _ _ b hb).trans (Below.heap_setCell _ _ _ b hb))))
      have hB5 : Below w.heap.size w W5 := by
        rw [← hW5]
        have hle : w.heap.size ≤ w.heap.size + 1 := Nat.le_succ _
        exact (((((below_step (below_step BA.out BB.out) BW.out).setCell (p := ⟨w.heap.size + 1, 0, none⟩) hle _).setCell (p := ⟨w.heap.size + 1, 1, none⟩) hle _).setCell (p := ⟨w.heap.size + 1, 2, none⟩) hle _).setCell (p := ⟨w.heap.size + 1, 3, none⟩) hle _).setCell (p := ⟨w.heap.size + 1, 4, none⟩) hle _
      rw [hW5]
      clear hW5
      have hwb : w.heap.size + 1 < Wb.heap.size := Nat.lt_of_lt_of_le hwa BB.out.size
      have hwr : Wb.heap.size ≤ wr.heap.size := HR.out.below.size
      refine bodyPost_ret (ret20 rfl _ _ (w.heap.size + 1) _ _ _ _ _ _ rfl rfl ((blk_cell hb5 0).trans rfl) ((blk_cell hb5 1).trans rfl) ((blk_cell hb5 2).trans rfl) ((blk_cell hb5 3).trans rfl) ((blk_cell hb5 4).trans rfl)) rfl ?_
      refine ⟨_, _, _, _, rfl, ?_, ?_, ?_, ?_, hB5⟩
      · rw [hx]
        exact Kd.R_mono (Kd.R_lower (Kd.R_step (Kd.R_below (Kd.R_bound (eo ▸ HO.out)) B2.out) (fun b hb _ => hs5 b (by have := hb.2.1; omega))) (by omega)) (fun _ _ => trivial)
      · rw [hx, ← EV.out]
        refine Kd.R_reok rfl (Kd.R_lower (Kd.R_step (Kd.R_below (Kd.R_bound HR.out.ev) B2.out) (fun b hb _ => hs5 b (by have := hb.2.1; omega))) (by omega)) (fun b hb e => ?_)
        exact (HO.out.1 b (by rw [eo]; exact e.symm)).2 (by exact hb.symm)
      · rw [hx, ← PC.out]
        refine Kd.R_mono (Kd.R_lower (Kd.R_step (Kd.R_bound H2.out) (fun b hb _ => hs5 b (by have := hb.2.1; omega))) (by omega)) (fun b hb => ⟨fun e => ?_, fun e => ?_⟩)
        · have h1 := (Kd.R_bound (eo ▸ HO.out)).1 b e.symm
          have := h1.2.2.1; have := hb.2.1; omega
        · have h1 := (Kd.R_bound HR.out.ev).1 b (by rw [EV.out]; exact e.symm)
          have := h1.2.2.1; have := hb.2.1; omega
      · rw [hx, ← PN.out, show (F k).S.done = (F k).S.tx from funext ((GF.out k).g).done]
        refine Kd.R_mono (Kd.R_lower (Kd.R_step (Kd.R_bound H3.out) (fun b hb _ => hs5 b (by have := hb.2.1; omega))) (by omega)) (fun b hb => ⟨fun e => ?_, fun e => ?_, hb.1⟩)
        · have h1 := (Kd.R_bound (eo ▸ HO.out)).1 b e.symm
          have := h1.2.2.1; have := hb.2.1; omega
        · have h1 := (Kd.R_bound HR.out.ev).1 b (by rw [EV.out]; exact e.symm)
          have := h1.2.2.1; have := hb.2.1; omega
    · rw [show (!true) = false from rfl]
      obtain ⟨-, -, p2⟩ := CB.out wr (below_step BB.out HR.out.below)
      go_wp2_with fail
      clear p2
      obtain ⟨X, hX⟩ : ∃ X, part man C.length T most (F k) = X := ⟨_, rfl⟩
      have XE := Lib.hid hX
      have X0 : X 0 = ⟨(F k).S, (F k).out, false⟩ := by rw [← hX]; rfl
      have XS : ∀ t, X (t + 1) = goOne man C.length T most (X t) t := by rw [← hX]; exact part_succ man C.length T most (F k)
      have GX := Lib.hid (show ∀ t, t ≤ T.length → GoodF T.length T most (X t) by rw [← hX]; exact (GF.out k).part OK.out hm)
      have XL := Lib.hid XS
      clear hX XS
      go_loopw [7, 8, 29] (fun vo vs vt wr => ∃ (t : Nat) (D : LDyn), t ≤ T.length ∧ vt = .int .i64 (t : Int) ∧ vs = .bool (!(X t).some_) ∧ Led P Wb wr D (X t).S ∧ D.blk .g = g ∧ ki.R 3 wr Wb.heap.size (OutL P D) vo (X t).out) (fun _ _ vt _ => T.length - (intOf vt).toNat)
      case atStart => exact ⟨0, D, Nat.zero_le _, rfl, by rw [X0]; rfl, by rw [X0]; exact HR.out, HGD.out, by rw [X0]; exact HO.out⟩
      case round =>
        clear HR HO HGD D hco
        obtain ⟨t, D, ht, rfl, rfl, hR, hgD, hO⟩ := hrel
        have HR := Lib.hid hR; have HO := Lib.hid hO; have HGD := Lib.hid hgD
        obtain ⟨A1, c1, e1, hc1, -⟩ := Kd.R_reads hO
        obtain ⟨p0, p1, p2⟩ := CB.out wr (below_step BB.out hR.below)
        have GT := Lib.hid (GX.out t ht)
        clear hR hO hgD p0 p1
        by_cases hlt : t < T.length
        · have q0 := decide_eq_true (show (t : Int) < (T.length : Int) by omega)
          subst e1
          have p1 : IntKind.wrap .i64 ((t : Int) + 1) = (t : Int) + 1 := by rw [i64_w]; unfold wrap64; omega
          by_cases hlen : ((X t).out.length : Int) < most
          · have q3 := decide_eq_true hlen
            go_wp2_with fail
            rw [← HGD.out]
            refine (isDoneL P Wb wr D (X t).S T t HR.out HP.out (by rw [PN.out]; exact hlt) (by rw [PN.out]; omega)).mono ?_
            rintro e W2 ⟨rfl, hR2, hFr⟩
            have H2 := Lib.hid hR2
            have O2 := Lib.hid (out_frL HO.out hFr)
            clear hR2 hFr
            by_cases hmay : (X t).S.tx t < ((thr T t).length : Int)
            · have q4 := decide_eq_false (show ¬ (X t).S.tx t ≥ ((thr T t).length : Int) by omega)
              have hgo : X (t + 1) = ⟨{ stepS man C.length T (X t).S t with goes := inc (stepS man C.length T (X t).S t).goes }, (X t).out ++ [(t : Int)], true⟩ := by
                rw [XL.out]; unfold goOne; rw [if_pos ⟨hlen, hmay⟩]
              have HGO := Lib.hid hgo
              clear hgo
              have hll : (X t).out.length < 200 := by omega
              rw [q4, HGD.out]
              go_wp2_with ((with_reducible refine gate_builtin (b := .append) (xs := #[.tmp 42, .tmp 44]) rfl ?_); at_builtin; refine Kd.R_append ki (w0 := Wb) Wb.heap.size rfl (.tmp 42) (.tmp 44) 22 3 (.int .i64 0) 8 rfl Try.underlying22 info3 rfl (by decide) (by decide) (.slice A1 (X t).out.length c1) (X t).out (t : Int) [.int .i64 (t : Int)] (OutL P D) (fun _ => False) rfl rfl rfl (fun _ h => h.elim) H2.out.fresh O2.out H2.out.below H2.out.below.size (by omega) ?_; intro v5 w5 hR5 hB5 hg5 hat5)
              have H5 := Lib.hid (H2.out.kept (fun b e => O2.out.1 b e) hg5 hB5)
              have O5 := Lib.hid hR5
              clear hR5 hB5 hg5 hat5 q4
              have GT := GT.out
              refine (goOnL P Wb w5 D (X t).S T t g HGD.out H5.out HP.out (by rw [PN.out]; exact hlt) (by rw [PN.out]; omega) (by rw [PC.out]; omega) (by have := GT.ev; omega) (by rw [PM.out]; exact hman) (by rw [PN.out]; exact GT.g) (by rw [PN.out, PC.out]; exact OK.out) hmay (fun c => by have := GT.vr c; omega)).mono ?_
              rintro e W3 ⟨rfl, D', hgD', hR3, hFr⟩
              rw [PM.out, PC.out] at hR3
              have H3 := Lib.hid hR3
              have O3 := Lib.hid (out_frL O5.out hFr)
              have HGD' := Lib.hid hgD'
              clear hR3 hFr hgD'
              go_wp2_with fail
              go_roundw
              case measure => simp [intOf]; omega
              case rel => exact ⟨t + 1, D', hlt, rfl, by rw [HGO.out]; rfl, by rw [HGO.out]; exact H3.out, HGD'.out, by rw [HGO.out]; exact O3.out⟩
            · have q4 := decide_eq_true (show (X t).S.tx t ≥ ((thr T t).length : Int) by omega)
              rw [q4, HGD.out]
              have HGO := Lib.hid (show X (t + 1) = X t by rw [XL.out]; unfold goOne; rw [if_neg (fun h => hmay h.2)])
              go_wp2_with fail
              go_roundw
              case measure => simp [intOf]; omega
              case rel => exact ⟨t + 1, D, hlt, rfl, by rw [HGO.out], by rw [HGO.out]; exact H2.out, HGD.out, by rw [HGO.out]; exact O2.out⟩
          · have q3 := decide_eq_false hlen
            have HGO := Lib.hid (show X (t + 1) = X t by rw [XL.out]; unfold goOne; rw [if_neg (fun h => hlen h.1)])
            go_wp2_with fail
            go_roundw
            case measure => simp [intOf]; omega
            case rel => exact ⟨t + 1, D, hlt, rfl, by rw [HGO.out], by rw [HGO.out]; exact HR.out, HGD.out, by rw [HGO.out]; exact HO.out⟩
        · have q0 := decide_eq_false (show ¬ (t : Int) < (T.length : Int) by omega)
          obtain rfl : t = T.length := by omega
          have hk1 : F (k + 1) = X T.length := by rw [← XE.out, ← FE.out]; rfl
          have hfl2 := part_flag man C.length T most (F k) T.length
          rw [XE.out] at hfl2
          have hl1 := (GX.out _ ht).len
          go_wp2_with fail
          refine ⟨⟨k + 1, D, by rw [hk1], by rw [hk1]; exact HR.out, HGD.out, by rw [hk1]; exact HO.out⟩, ?_⟩
          rw [eo, e1]
          rcases hq : (X T.length).some_ with _ | _
          · simp only [Bool.not_true, Bool.not_false, faV, lnV]; have := hfl2.2.2; omega
          · have := hfl2.1 hq
            simp only [Bool.not_true, Bool.not_false, faV, lnV]; omega
end Go.Proofs.Ytonhmkllfbagmaa.Tx
