/- FnSerial: the law, walked: it answers true. -/
import Derived.Test.YtonhmkllfbagmaaTog
import Derived.Test.YtonhmkllfbagmaaGof
import Derived.Test.YtonhmkllfbagmaaGoe
import Derived.Test.YtonhmkllfbagmaaPlG
import Derived.Test.YtonhmkllfbagmaaLawW
namespace Go.Proofs.Ytonhmkllfbagmaa.Tx
open Go.RowKit Go.Proofs.YtonhmkllfbagmaaW.PrintWords Go.Proofs.YtonhmkllfbagmaaW.PrintLast Go.Proofs.YtonhmkllfbagmaaW.PrintMore Go.Proofs.Ytonhmkllfbagmaa.PFnExactTxFair Go.Proofs.Ytonhmkllfbagmaa.Src
set_option linter.unusedVariables false
set_option linter.unusedSimpArgs false
theorem info22 : (Try.prog.info? 22).map (fun i => (i.zero, i.size, i.bytes)) = some (some (.slice none 0 0), 1, 24) := by kernel_rfl
def oz (E : List S53) (k : Nat) : List Int := (cm (E.take k)).map (fun t : Nat => (t : Int))
theorem oz_len (E : List S53) (k : Nat) : (oz E k).length = (cm (E.take k)).length := by unfold oz; simp
theorem oz_yes (E : List S53) (k : Nat) (t : Nat) (h : k < E.length) (h6 : E[k].f3 = 6) (ht : E[k].f0 = (t : Int)) : oz E (k + 1) = oz E k ++ [(t : Int)] := by
  unfold oz
  rw [cm_take E k h, if_pos h6, List.map_append, ht, Int.toNat_natCast]
  rfl
theorem cl_yes (E : List S53) (k : Nat) (h : k < E.length) (h6 : E[k].f3 = 6) : (cm (E.take (k + 1))).length = (cm (E.take k)).length + 1 := by
  rw [cm_take E k h, if_pos h6, List.length_append]; rfl
theorem cm_no (E : List S53) (k : Nat) (h : k < E.length) (h6 : E[k].f3 ≠ 6) : cm (E.take (k + 1)) = cm (E.take k) := by rw [cm_take E k h, if_neg h6]
theorem row_lt' {α : Type} {d : Kd α} {e : Nat} {w : World} {base : Nat} {ok : Nat → Prop} {v : Value} {xs : List α} (h : d.R e w base ok v xs) : ∀ k, v.ownBlock = some k → k < w.heap.size := by
  obtain ⟨inner, hown⟩ := Kd.R_own h
  exact fun k hk => own_lt hown k hk
theorem sameQ {l : List Int} {n : Nat} (hn : l.length = n) {A B : Option Addr} {c d : Nat} {w : World} {k0 : Nat} (hl : n ≤ 1048576) (h1 : n ≤ c) (h2 : n ≤ d) (hA : ki.C w A l.length l) (hB : ki.C w B l.length l) : Calls Try.prog 26 #[.slice A n c, .slice B n d] (w.drewN k0) fun e w' => e = .returned (.bool true) ∧ ∃ m, w' = w.drewN m := by
  subst hn
  obtain ⟨k, hk⟩ := Ev.rounds (sameEv l hl)
  exact Calls.quiet_of ((laws_sameInts.calls k A c l B d l true _ (Kd.C_drewN hA k0) h1 (Kd.C_drewN hB k0) h2 hk).mono (fun _ _ ⟨he, n, hn⟩ => ⟨he, n, hn⟩))
set_option maxHeartbeats 16000000 in
set_option maxRecDepth 100000 in
theorem lawSerial (A0 : Option Addr) (c0 : Nat) (l0 : List Int) (A1 : Option Addr) (c1 : Nat) (l1 : List Int) (w : World) (hr0 : Kd.C (Kd.int .u8) w A0 l0.length l0) (hc0 : l0.length ≤ c0) (hb0 : ∀ k : Int, 0 ≤ k → k < l0.length → 0 ≤ rd l0 k ∧ rd l0 k ≤ 255) (hr1 : Kd.C (Kd.int .u8) w A1 l1.length l1) (hc1 : l1.length ≤ c1) (hb1 : ∀ k : Int, 0 ≤ k → k < l1.length → 0 ≤ rd l1 k ∧ rd l1 k ≤ 255) :
    Calls Try.prog 7 #[.slice A0 l0.length c0, .slice A1 l1.length c1] w fun e w' => e = .returned (.bool true) ∧ Below w.heap.size w w' := by
  by_cases hl : (l0.length : Int) > 1048576
  · have q0 := decide_eq_true hl
    go_enter Try.func7, Try.ntmps7
    go_wp2_with fail
    go_ret
    exact ⟨rfl, Below.refl _ _⟩
  have q0 := decide_eq_false hl
  by_cases hk : (l1.length : Int) > 1048576
  · have q1 := decide_eq_true hk
    go_enter Try.func7, Try.ntmps7
    go_wp2_with fail
    go_ret
    exact ⟨rfl, Below.refl _ _⟩
  have q1 := decide_eq_false hk
  have hF : Bytes l0 := ⟨by omega, hb0⟩
  have hF1 : Bytes l1 := ⟨by omega, hb1⟩
  have HR := Lib.hid hr0; have HR1 := Lib.hid hr1; have HF1 := Lib.hid hF1
  clear hr0 hb0 hr1 hb1 hF1
  go_enter Try.func7, Try.ntmps7
  go_wp2_with fail
  refine (txOfC A0 c0 l0 w HR.out hc0 hF).mono ?_
  rintro e w1 ⟨v0, M, v2, C, T, rfl, h0, h2, hw, hs, hB⟩
  obtain ⟨x, hwf⟩ := wf C M T hw hs
  have F := Lib.hid hwf
  have PC := Lib.hid h0; have PT := Lib.hid h2; have BW := Lib.hid hB
  obtain ⟨AC, cC, rfl, hcC, -⟩ := h0
  obtain ⟨AT, cT, rfl, hcT, -⟩ := h2
  clear hwf hw hs hB q0 q1 HR hF
  have lc1 := F.out.c1; have lc2 := F.out.c2; have lt1 := F.out.t1; have lt2 := F.out.t2
  obtain ⟨W2, hW2⟩ : ∃ W, W = w1.alloc (.cells #[.slice AC C.length cC, .int .i64 M, .slice AT T.length cT] 30) := ⟨_, rfl⟩
  have hB : Below w1.heap.size w1 W2 := by rw [hW2]; exact below_alloc (Below.refl _ _) _
  have BP_ := Lib.hid (show Blk W2 w1.heap.size #[.slice AC C.length cC, .int .i64 M, .slice AT T.length cT] 30 by rw [hW2]; exact heap_alloc_new _ _)
  have NPC := Lib.hid (PC.out.below hB)
  have NPT := Lib.hid (PT.out.below hB)
  have NBW := Lib.hid (below_step BW.out hB)
  clear PC PT BW
  have PC := NPC; clear NPC
  have PT := NPT; clear NPT
  have BW := NBW; clear NBW
  have BP := BP_; clear BP_ hB
  have y0 := blk_cell BP.out 0
  have y1 := blk_cell BP.out 1
  have y2 := blk_cell BP.out 2
  simp only [List.getElem?_toArray, List.getElem?_cons_succ, List.getElem?_cons_zero] at y0 y1 y2
  rw [hW2] at y0 y1 y2
  go_wp2_with fail
  rw [← hW2]
  clear hW2 y0 y1 y2
  refine (goesOfC W2 AC cC C M AT cT T A1 c1 l1 (rdC_ PC.out) hcC (rdC_ PT.out) hcT (Kd.C_below HR1.out BW.out) hc1 HF1.out F.out.c1 F.out.c2 F.out.t1 F.out.t2 F.out.m F.out.ok F.out.rg0).mono ?_
  rintro e w11 ⟨vl, L, rfl, hRL, hl120, hLg, hB⟩
  have HL_ := Lib.hid (hRL)
  have NPC := Lib.hid (PC.out.below hB)
  have NPT := Lib.hid (PT.out.below hB)
  have NBW := Lib.hid (below_step BW.out hB)
  have NBP := Lib.hid (BP.out.below hB)
  clear PC PT BW BP
  have PC := NPC; clear NPC
  have PT := NPT; clear NPT
  have BW := NBW; clear NBW
  have BP := NBP; clear NBP
  have HL := HL_; clear HL_
  have LG := Lib.hid hLg
  clear hB hRL hLg
  obtain ⟨AL, cL, eL, hcL⟩ := form_ HL.out
  subst eL
  obtain ⟨S, hS⟩ : ∃ S, runN M C.length T (st0 C) L L.length = S := ⟨_, rfl⟩
  have SW_ := Lib.hid (show SW C T S by rw [← hS]; exact sw F.out.rg0 F.out.ok LG.out hl120)
  have y0 := blk_cell BP.out 0
  have y1 := blk_cell BP.out 1
  have y2 := blk_cell BP.out 2
  simp only [List.getElem?_toArray, List.getElem?_cons_succ, List.getElem?_cons_zero] at y0 y1 y2
  go_wp2_with fail
  clear y0 y1 y2
  obtain ⟨ks, hks⟩ := F.out.so
  have hrt := specRunTxC w11 AC cC C M AT cT T AL cL L ks (rdC_ PC.out) hcC (rdC_ PT.out) hcT (rdC_ HL.out) hcL hks F.out.c1 F.out.c2 F.out.t1 F.out.t2 F.out.m F.out.ok (by omega) LG.out F.out.rg0
  rw [hS] at hrt
  refine (hrt).mono ?_
  rintro e w12 ⟨vw2, vw3, vw4, rfl, hL2, hL3, hL4, hB⟩
  have S2_ := Lib.hid (hL2)
  have S3_ := Lib.hid (hL3)
  have S4_ := Lib.hid (hL4)
  have NPC := Lib.hid (PC.out.below hB)
  have NPT := Lib.hid (PT.out.below hB)
  have NBW := Lib.hid (below_step BW.out hB)
  have NBP := Lib.hid (BP.out.below hB)
  have NHL := Lib.hid (HL.out.below hB)
  clear PC PT BW BP HL
  have PC := NPC; clear NPC
  have PT := NPT; clear NPT
  have BW := NBW; clear NBW
  have BP := NBP; clear NBP
  have HL := NHL; clear NHL
  have S2 := S2_; clear S2_
  have S3 := S3_; clear S3_
  have S4 := S4_; clear S4_
  clear hB hL2 hL3 hL4 hks hrt
  obtain ⟨Aw2, cw2, ew2, hcw2⟩ := form_ S2.out
  subst ew2
  obtain ⟨Aw3, cw3, ew3, hcw3⟩ := form_ S3.out
  rw [row_len] at ew3
  subst ew3
  obtain ⟨Aw4, cw4, ew4, hcw4⟩ := form_ S4.out
  rw [row_len] at ew4
  subst ew4
  obtain ⟨W3, hW3⟩ : ∃ W, W = w12.alloc (.cells #[.int .i64 0, .int .i64 0, .slice Aw2 S.events.length cw2, .slice Aw3 C.length cw3, .slice Aw4 T.length cw4] 43) := ⟨_, rfl⟩
  have hB : Below w12.heap.size w12 W3 := by rw [hW3]; exact below_alloc (Below.refl _ _) _
  have BX_ := Lib.hid (show Blk W3 w12.heap.size #[.int .i64 0, .int .i64 0, .slice Aw2 S.events.length cw2, .slice Aw3 C.length cw3, .slice Aw4 T.length cw4] 43 by rw [hW3]; exact heap_alloc_new _ _)
  have NPC := Lib.hid (PC.out.below hB)
  have NPT := Lib.hid (PT.out.below hB)
  have NBW := Lib.hid (below_step BW.out hB)
  have NBP := Lib.hid (BP.out.below hB)
  have NHL := Lib.hid (HL.out.below hB)
  have NS2 := Lib.hid (S2.out.below hB)
  have NS3 := Lib.hid (S3.out.below hB)
  have NS4 := Lib.hid (S4.out.below hB)
  clear PC PT BW BP HL S2 S3 S4
  have PC := NPC; clear NPC
  have PT := NPT; clear NPT
  have BW := NBW; clear NBW
  have BP := NBP; clear NBP
  have HL := NHL; clear NHL
  have S2 := NS2; clear NS2
  have S3 := NS3; clear NS3
  have S4 := NS4; clear NS4
  have BX := BX_; clear BX_ hB
  have y0 := blk_cell BP.out 0
  have y1 := blk_cell BP.out 1
  have y2 := blk_cell BP.out 2
  simp only [List.getElem?_toArray, List.getElem?_cons_succ, List.getElem?_cons_zero] at y0 y1 y2
  rw [hW3] at y0 y1 y2
  go_wp2_with fail
  rw [← hW3]
  clear hW3 y0 y1 y2
  obtain ⟨ki_, hki⟩ := F.out.io
  have hrt := runTxC W3 AC cC C M AT cT T AL cL L ki_ (rdC_ PC.out) hcC (rdC_ PT.out) hcT (rdC_ HL.out) hcL hki F.out.c1 F.out.c2 F.out.t1 F.out.t2 F.out.m F.out.ok (by omega) LG.out F.out.rg0
  rw [hS] at hrt
  refine (hrt).mono ?_
  rintro e w13 ⟨vg2, vg3, vg4, rfl, hL2, hL3, hL4, hB⟩
  have G2_ := Lib.hid (hL2)
  have G3_ := Lib.hid (hL3)
  have G4_ := Lib.hid (hL4)
  have NPC := Lib.hid (PC.out.below hB)
  have NPT := Lib.hid (PT.out.below hB)
  have NBW := Lib.hid (below_step BW.out hB)
  have NBP := Lib.hid (BP.out.below hB)
  have NHL := Lib.hid (HL.out.below hB)
  have NS2 := Lib.hid (S2.out.below hB)
  have NS3 := Lib.hid (S3.out.below hB)
  have NS4 := Lib.hid (S4.out.below hB)
  have NBX := Lib.hid (BX.out.below hB)
  clear PC PT BW BP HL S2 S3 S4 BX
  have PC := NPC; clear NPC
  have PT := NPT; clear NPT
  have BW := NBW; clear NBW
  have BP := NBP; clear NBP
  have HL := NHL; clear NHL
  have S2 := NS2; clear NS2
  have S3 := NS3; clear NS3
  have S4 := NS4; clear NS4
  have BX := NBX; clear NBX
  have G2 := G2_; clear G2_
  have G3 := G3_; clear G3_
  have G4 := G4_; clear G4_
  have HKI := Lib.hid hki
  clear hB hL2 hL3 hL4 hki hrt hS
  obtain ⟨Ag2, cg2, eg2, hcg2⟩ := form_ G2.out
  subst eg2
  obtain ⟨Ag3, cg3, eg3, hcg3⟩ := form_ G3.out
  rw [row_len] at eg3
  subst eg3
  obtain ⟨Ag4, cg4, eg4, hcg4⟩ := form_ G4.out
  rw [row_len] at eg4
  subst eg4
  obtain ⟨W4, hW4⟩ : ∃ W, W = w13.alloc (.cells #[.int .i64 0, .int .i64 0, .slice Ag2 S.events.length cg2, .slice Ag3 C.length cg3, .slice Ag4 T.length cg4] 43) := ⟨_, rfl⟩
  have hB : Below w13.heap.size w13 W4 := by rw [hW4]; exact below_alloc (Below.refl _ _) _
  have BL_ := Lib.hid (show Blk W4 w13.heap.size #[.int .i64 0, .int .i64 0, .slice Ag2 S.events.length cg2, .slice Ag3 C.length cg3, .slice Ag4 T.length cg4] 43 by rw [hW4]; exact heap_alloc_new _ _)
  have NPC := Lib.hid (PC.out.below hB)
  have NPT := Lib.hid (PT.out.below hB)
  have NBW := Lib.hid (below_step BW.out hB)
  have NBP := Lib.hid (BP.out.below hB)
  have NHL := Lib.hid (HL.out.below hB)
  have NS2 := Lib.hid (S2.out.below hB)
  have NS3 := Lib.hid (S3.out.below hB)
  have NS4 := Lib.hid (S4.out.below hB)
  have NBX := Lib.hid (BX.out.below hB)
  have NG2 := Lib.hid (G2.out.below hB)
  have NG3 := Lib.hid (G3.out.below hB)
  have NG4 := Lib.hid (G4.out.below hB)
  clear PC PT BW BP HL S2 S3 S4 BX G2 G3 G4
  have PC := NPC; clear NPC
  have PT := NPT; clear NPT
  have BW := NBW; clear NBW
  have BP := NBP; clear NBP
  have HL := NHL; clear NHL
  have S2 := NS2; clear NS2
  have S3 := NS3; clear NS3
  have S4 := NS4; clear NS4
  have BX := NBX; clear NBX
  have G2 := NG2; clear NG2
  have G3 := NG3; clear NG3
  have G4 := NG4; clear NG4
  have BL := BL_; clear BL_ hB
  have g0 := blk_cell BL.out 0
  have g3 := blk_cell BL.out 3
  simp only [List.getElem?_toArray, List.getElem?_cons_succ, List.getElem?_cons_zero] at g0 g3
  have u3 := blk_cell BX.out 3
  simp only [List.getElem?_toArray, List.getElem?_cons_succ, List.getElem?_cons_zero] at u3
  rw [hW4] at g0 g3 u3
  go_wp2_with fail
  rw [← hW4]
  clear hW4 g0 g3 u3
  refine (sameC (by rw [row_len]; omega) G3.out S3.out).mono ?_
  rintro e w14 ⟨rfl, hB⟩
  have NPC := Lib.hid (PC.out.below hB)
  have NPT := Lib.hid (PT.out.below hB)
  have NBW := Lib.hid (below_step BW.out hB)
  have NBP := Lib.hid (BP.out.below hB)
  have NHL := Lib.hid (HL.out.below hB)
  have NS2 := Lib.hid (S2.out.below hB)
  have NS3 := Lib.hid (S3.out.below hB)
  have NS4 := Lib.hid (S4.out.below hB)
  have NBX := Lib.hid (BX.out.below hB)
  have NG2 := Lib.hid (G2.out.below hB)
  have NG3 := Lib.hid (G3.out.below hB)
  have NG4 := Lib.hid (G4.out.below hB)
  have NBL := Lib.hid (BL.out.below hB)
  clear PC PT BW BP HL S2 S3 S4 BX G2 G3 G4 BL
  have PC := NPC; clear NPC
  have PT := NPT; clear NPT
  have BW := NBW; clear NBW
  have BP := NBP; clear NBP
  have HL := NHL; clear NHL
  have S2 := NS2; clear NS2
  have S3 := NS3; clear NS3
  have S4 := NS4; clear NS4
  have BX := NBX; clear NBX
  have G2 := NG2; clear NG2
  have G3 := NG3; clear NG3
  have G4 := NG4; clear NG4
  have BL := NBL; clear NBL
  clear hB
  have g4 := blk_cell BL.out 4
  simp only [List.getElem?_toArray, List.getElem?_cons_succ, List.getElem?_cons_zero] at g4
  have u4 := blk_cell BX.out 4
  simp only [List.getElem?_toArray, List.getElem?_cons_succ, List.getElem?_cons_zero] at u4
  go_wp2_with fail
  clear g4 u4
  refine (sameC (by rw [row_len]; omega) G4.out S4.out).mono ?_
  rintro e w15 ⟨rfl, hB⟩
  have NPC := Lib.hid (PC.out.below hB)
  have NPT := Lib.hid (PT.out.below hB)
  have NBW := Lib.hid (below_step BW.out hB)
  have NBP := Lib.hid (BP.out.below hB)
  have NHL := Lib.hid (HL.out.below hB)
  have NS2 := Lib.hid (S2.out.below hB)
  have NS3 := Lib.hid (S3.out.below hB)
  have NS4 := Lib.hid (S4.out.below hB)
  have NBX := Lib.hid (BX.out.below hB)
  have NG2 := Lib.hid (G2.out.below hB)
  have NG3 := Lib.hid (G3.out.below hB)
  have NG4 := Lib.hid (G4.out.below hB)
  have NBL := Lib.hid (BL.out.below hB)
  clear PC PT BW BP HL S2 S3 S4 BX G2 G3 G4 BL
  have PC := NPC; clear NPC
  have PT := NPT; clear NPT
  have BW := NBW; clear NBW
  have BP := NBP; clear NBP
  have HL := NHL; clear NHL
  have S2 := NS2; clear NS2
  have S3 := NS3; clear NS3
  have S4 := NS4; clear NS4
  have BX := NBX; clear NBX
  have G2 := NG2; clear NG2
  have G3 := NG3; clear NG3
  have G4 := NG4; clear NG4
  have BL := NBL; clear NBL
  clear hB
  have g2 := blk_cell BL.out 2
  simp only [List.getElem?_toArray, List.getElem?_cons_succ, List.getElem?_cons_zero] at g2
  have u2 := blk_cell BX.out 2
  simp only [List.getElem?_toArray, List.getElem?_cons_succ, List.getElem?_cons_zero] at u2
  generalize hWO : w15 = WO at *
  clear hWO
  go_wp2_with (first | ((with_reducible refine gate_dst (N := 66) rfl ?_); refine Kd.R_lit ki (w0 := WO) WO.heap.size 3 rfl (N := 66) rfl (xs := ([] : List Int)) (inner := []) (ok := fun b => WO.heap.size ≤ b) (okp := fun _ => False) (by go_simp) (Reps.none _ _) (fun _ hk => hk.elim) (Nat.le_refl _) (Below.refl _ _) (Nat.le_refl _) (by simp) ?_; intro v9 w9 hR9 hB9 hg9 hn9; (have O9 := Lib.hid (Kd.R_mono (Kd.R_bound hR9) (ok' := fun b => WO.heap.size ≤ b ∧ b < w9.heap.size) (fun b hb => ⟨hb.1, hb.2.2.1⟩))); (have B9 := Lib.hid hB9); clear hR9 hB9 hg9 hn9) | ((with_reducible refine gate_dst (N := 67) rfl ?_); refine Kd.R_lit ki (w0 := WO) WO.heap.size 3 rfl (N := 67) rfl (xs := ([] : List Int)) (inner := []) (ok := fun b => w9.heap.size ≤ b) (okp := fun _ => False) (by go_simp) (Reps.none _ _) (fun _ hk => hk.elim) (Nat.le_refl _) B9.out B9.out.size (by simp) ?_; intro v67 w67 hR67 hB67 hg67 hn67; (have hBs := pw_below_grown (Below.refl w9.heap.size w9) none (Nat.le_refl _) hg67 (fun _ h => by cases h)); (have O9' := Lib.hid (Kd.R_below O9.out hBs)); (have O67 := Lib.hid hR67); (have B67 := Lib.hid hB67); (have Z67 := Lib.hid hBs.size); (have y0 := (blk_cell (BP.out.below hB67) 0).trans rfl); clear O9 hR67 hB67 hg67 hn67 hBs) | ((with_reducible refine gate_builtin (b := .append) (xs := #[.tmp 67, .tmp 69]) rfl ?_); at_builtin; refine Kd.R_append_rows ki (w0 := WO) WO.heap.size rfl (.tmp 67) (.tmp 69) 22 3 (.int .i64 0) 8 rfl Try.underlying22 info3 rfl (by decide) (by decide) v67 [] C AC C.length cC (fun b => w9.heap.size ≤ b) (fun _ => False) rfl rfl O67.out (rdC_ (PC.out.below B67.out)) (fun _ _ h => h) (fun _ h => h.elim) (fun b hb => Nat.le_trans Z67.out hb) B67.out B67.out.size (by simp only [List.length_nil]; omega) ?_; intro v70 w70 hR70 hB70 hg70 hat70; (obtain ⟨A70, c70, e70, -, -⟩ := Kd.R_reads hR70); (have e71 : v70 = Value.slice A70 C.length c70 := e70); subst e71; clear e70; (have O9'' := Lib.hid (Kd.R_grown O9'.out hg70 (fun k hk e => Nat.lt_irrefl _ (Nat.lt_of_lt_of_le hk.2 (O67.out.1 k e.symm))))); (have O70 := Lib.hid (show ki.R 3 w70 WO.heap.size (fun b => w9.heap.size ≤ b) (.slice A70 C.length c70) C from hR70)); (have B70 := Lib.hid hB70); (have Z70 := Lib.hid (Nat.le_trans Z67.out hg70.size)); clear O9' hR70 hB70 hg70 hat70 y0) | ((with_reducible refine gate_dst (N := 71) rfl ?_); refine Kd.R_lit (Kd.slice 3 ki) (w0 := WO) WO.heap.size 22 rfl (N := 71) rfl (xs := [C]) (inner := [.slice A70 C.length c70]) (ok := fun b => w9.heap.size ≤ b) (okp := fun b => w9.heap.size ≤ b) (by go_simp) ((Reps.none _ _).snoc (Kd.M_row O70.out) rfl) (fun _ hk => hk) Z70.out B70.out B70.out.size (by simp) ?_; intro v10 w71 hR71 hB71 hg71 hn71; (have N9 := Lib.hid (Kd.R_below O9''.out (pw_below_grown (Below.refl w70.heap.size w70) none (Nat.le_refl _) hg71 (fun _ h => by cases h)))); (have N10 := Lib.hid hR71); (have B71 := Lib.hid hB71); clear O9'' hR71 hB71 hg71 hn71))
  clear O67 B67 Z67 B70 Z70 O70 g2 u2
  obtain ⟨E, hE⟩ : ∃ E, S.events = E := ⟨_, rfl⟩
  obtain ⟨Fs, hFs⟩ : ∃ Fs, stt T (fun k => C.getD k 0) E = Fs := ⟨_, rfl⟩
  have hle := SW_.out.le
  have TH := Lib.hid (show ∀ k (h : k < E.length), E[k].f3 = 6 → ∃ t : Nat, t < T.length ∧ E[k].f0 = (t : Int) by subst hE; exact SW_.out.th)
  have TF2 := Lib.hid (show ∀ k (h : k < E.length), E[k].f2 ≤ 1000 by subst hE; exact fun k h => SW_.out.f2 _ (List.getElem_mem _))
  have ORD := Lib.hid (show ∀ k, OrdOK T.length T (fun k => C.getD k 0) (cm (E.take k)) by subst hE; exact SW_.out.ord)
  have LAST := Lib.hid (show row C.length S.cells = row C.length (Fs (cm E).length) by subst hFs hE; exact SW_.out.last)
  have TOG := Lib.hid (show ∀ (t x : Nat) (y : Int), t < T.length → x < (thr T t).length → (tgE (opsAt T t x) t x y E).ok = true ∧ ∃ k, k ≤ (cm E).length ∧ ∀ p ∈ (tgE (opsAt T t x) t x y E).pairs, p.1 < C.length ∧ Fs k p.1 = p.2 by subst hFs hE; exact SW_.out.tog)
  have FST := Lib.hid (show C = row C.length (Fs 0) by subst hFs hE; exact SW_.out.fst)
  have FSE := Lib.hid (show ∀ k, (serL T (fun k => C.getD k 0) (cm (E.take k))).cells = Fs (cm (E.take k)).length by
    intro k
    rw [← hFs]
    show _ = (serL T (fun k => C.getD k 0) ((cm E).take (cm (E.take k)).length)).cells
    rw [← cm_pre])
  rw [hE] at BL BX G2 S2 hle hcg2 hcw2 ⊢
  have M10 := Lib.hid (show (Kd.slice 3 ki).R 22 w71 WO.heap.size (fun b => WO.heap.size ≤ b ∧ some b ≠ v9.ownBlock) v10 (sts C.length 0 Fs) from by
    have h := Kd.R_mono N10.out (ok' := fun b => WO.heap.size ≤ b ∧ some b ≠ v9.ownBlock) (fun b hb => ⟨Nat.le_trans B9.out.size hb, fun e => Nat.lt_irrefl _ (Nat.lt_of_lt_of_le (N9.out.1 b e.symm).2 hb)⟩)
    have e : sts C.length 0 Fs = [C] := by
      show [row C.length (Fs 0)] = [C]
      rw [← FST.out]
    rw [e]; exact h)
  have M9 := Lib.hid (Kd.R_mono N9.out (ok' := fun b => WO.heap.size ≤ b) (fun b hb => hb.1))
  clear N9 N10 B9 hE hFs SW_
  go_loopw [9, 10, 11] (fun v9 v10 iv wr => ∃ k : Nat, k ≤ E.length ∧ iv = .int .i64 (k : Int) ∧ ki.R 3 wr WO.heap.size (fun b => WO.heap.size ≤ b) v9 (oz E k) ∧ (Kd.slice 3 ki).R 22 wr WO.heap.size (fun b => WO.heap.size ≤ b ∧ some b ≠ v9.ownBlock) v10 (sts C.length (cm (E.take k)).length Fs) ∧ Below WO.heap.size WO wr) (fun _ _ iv _ => E.length - (intOf iv).toNat)
  case atStart => exact ⟨0, Nat.zero_le _, rfl, M9.out, M10.out, B71.out⟩
  case round =>
    clear M9 M10 B71
    obtain ⟨k, hk, rfl, h9, h10, hB⟩ := hrel
    obtain ⟨A9, c9, e9, hc9, -⟩ := Kd.R_reads h9
    obtain ⟨A10, c10, e10, hc10, -⟩ := Kd.R_reads h10
    subst e9 e10
    rw [oz_len] at hc9
    rw [sts_len] at hc10
    rw [oz_len] at h9 h10 ⊢
    rw [sts_len] at h10 ⊢
    have O9 := Lib.hid h9; have O10 := Lib.hid h10; have B := Lib.hid hB
    have BLr := Lib.hid (BL.out.below hB); have BXr := Lib.hid (BX.out.below hB)
    have g2 := blk_cell BLr.out 2; have x2 := blk_cell BXr.out 2
    simp only [List.getElem?_toArray, List.getElem?_cons_succ, List.getElem?_cons_zero] at g2 x2
    clear h9 h10 hB
    by_cases hlt : k < E.length
    · have q0 := decide_eq_true (show (k : Int) < (E.length : Int) by omega)
      have hxn := eq_true (show (k : Int) < (E.length : Int) by omega)
      have p1 : IntKind.wrap .i64 ((k : Int) + 1) = ((k + 1 : Nat) : Int) := by rw [i64_w]; unfold wrap64; omega
      obtain ⟨ad, hAg, u0, u1, u2, u3, u4, u5⟩ := at_T53 (rdC_ (G2.out.below B.out)) (k : Int) (by omega) (by omega)
      obtain ⟨bd, hAa, t0, t1, t2, t3, t4, t5⟩ := at_T53 (rdC_ (S2.out.below B.out)) (k : Int) (by omega) (by omega)
      rw [Int.toNat_natCast] at u0 u1 u2 u3 u4 u5 t0 t1 t2 t3 t4 t5
      have hce : rd_T53 E (k : Int) = E[k] := PureTxFair.getD_at E k _ hlt
      rw [hce] at u0 u1 u2 u3 u4 u5 t0 t1 t2 t3 t4 t5
      obtain ⟨c, hc⟩ : ∃ c, E[k] = c := ⟨_, rfl⟩
      rw [hc] at u0 u1 u2 u3 u4 u5 t0 t1 t2 t3 t4 t5
      have HCC := Lib.hid hc
      subst hAg hAa
      clear hce hc
      go_wp2_with fail
      go_quiet (fail)
      clear x2 t0 t1 t2 t3 t4 t5 u1 u2 u4 u5
      have DB := Lib.hid (fun n => (pw_below_drewN (Below.refl wr.heap.size wr) n : Below wr.heap.size wr (wr.drewN n)))
      clear BLr BXr
      by_cases h6 : c.f3 = 6
      · obtain ⟨t, ht, h0⟩ := TH.out k hlt (by rw [HCC.out]; exact h6)
        rw [HCC.out] at h0
        rw [h6] at u3
        rw [h0] at u0
        have oy := oz_yes E k t hlt (by rw [HCC.out]; exact h6) (by rw [HCC.out]; exact h0)
        have cy := cl_yes E k hlt (by rw [HCC.out]; exact h6)
        have OY := Lib.hid oy; have CY := Lib.hid cy
        have hcl := cm_le E
        have hcl3 : (cm (E.take k)).length ≤ E.length := Nat.le_trans (cm_le _) (by rw [List.length_take]; omega)
        have hcl2 : (cm (E.take (k + 1))).length ≤ E.length := Nat.le_trans (cm_le _) (by rw [List.length_take]; omega)
        clear oy cy h6 h0
        go_wp2_with (first | ((with_reducible refine gate_builtin (b := .append) (xs := #[.tmp 97, .tmp 104]) rfl ?_); at_builtin; refine Kd.R_append ki (w0 := WO) WO.heap.size rfl (.tmp 97) (.tmp 104) 22 3 (.int .i64 0) 8 rfl Try.underlying22 info3 rfl (by decide) (by decide) (.slice A9 (cm (E.take k)).length c9) (oz E k) (t : Int) [.int .i64 (t : Int)] (fun b => WO.heap.size ≤ b) (fun _ => False) rfl rfl rfl (fun _ h => h.elim) (fun b hb => Nat.le_trans (below_step B.out (DB.out _)).size hb) (Kd.R_below O9.out (DB.out _)) (below_step B.out (DB.out _)) (below_step B.out (DB.out _)).size (by rw [oz_len]; omega) ?_; intro v1 w1 hR1 hB1 hg1 hat1; (rw [← OY.out] at hR1); (obtain ⟨A1', c1', e1', hc1', hC1'⟩ := Kd.R_reads hR1); (rw [oz_len] at e1' hc1' hC1'); (subst e1'); (have Q9' := Lib.hid hR1); (have Q10' := Lib.hid (Kd.R_mono (Kd.R_grown (Kd.R_bound (Kd.R_below O10.out (DB.out _))) hg1 (fun b hb e => hb.1.2 e)) (ok' := fun b => WO.heap.size ≤ b ∧ some b ≠ (Value.slice A1' (cm (E.take (k + 1))).length c1').ownBlock) (fun b hb => ⟨hb.1.1, fun e => (hat1.elim (fun h => hb.1.2 (e.trans h)) (fun ⟨b', h, hb'⟩ => Nat.lt_irrefl _ (Nat.lt_of_lt_of_le hb.2.2.1 (by rw [h] at e; injection e with e; rw [e]; exact hb'))))⟩))); (have B1 := Lib.hid hB1); (have LT1 := Lib.hid (row_lt' hR1); have LT10 := Lib.hid (row_lt' Q10'.out)); (have QC1 := Lib.hid hC1'); (clear hR1 hg1 hat1 hC1' u0 u3 g2 O9 O10 B DB); (have y0 := blk_cell (BP.out.below hB1) 0; have y1 := blk_cell (BP.out.below hB1) 1; have y2 := blk_cell (BP.out.below hB1) 2); (simp only [List.getElem?_toArray, List.getElem?_cons_succ, List.getElem?_cons_zero] at y0 y1 y2); (clear hB1)))
        refine (serialC w1 AC cC C M AT cT T A1' c1' (cm (E.take (k + 1))) ki_ (rdC_ (PC.out.below B1.out)) hcC (rdC_ (PT.out.below B1.out)) hcT QC1.out hc1' HKI.out F.out.c1 F.out.c2 F.out.t1 F.out.t2 F.out.ok (by omega) (ORD.out (k + 1))).mono ?_
        rintro e w2 ⟨v2, rfl, hR2, hB2⟩
        rw [FSE.out (k + 1), CY.out] at hR2
        obtain ⟨A2', c2', e2', hc2', -⟩ := Kd.R_reads hR2
        rw [row_len] at e2' hc2'
        subst e2'
        have B2 := Lib.hid (below_step B1.out hB2)
        have R2 := Lib.hid (Kd.R_lower (Kd.R_mono (Kd.R_bound hR2) (ok' := fun b => w1.heap.size ≤ b) (fun b hb => hb.2.1)) B1.out.size)
        have S9 := Lib.hid (Kd.R_below Q9'.out hB2); have S10 := Lib.hid (Kd.R_below Q10'.out hB2)
        have hs2 := hB2.size
        clear hR2 hB2 y0 y1 y2 Q9' Q10' QC1
        have y0 := blk_cell (BP.out.below B2.out) 0
        simp only [List.getElem?_toArray, List.getElem?_cons_succ, List.getElem?_cons_zero] at y0
        have hml : (cm (E.take k)).length ≤ 1000 := by have := CY.out; omega
        have FR1 := Lib.hid (show ∀ b, w1.heap.size ≤ b → (WO.heap.size ≤ b ∧ some b ≠ (Value.slice A1' (cm (E.take (k + 1))).length c1').ownBlock) from fun b hb => ⟨Nat.le_trans B1.out.size hb, fun e => by have := LT1.out b e.symm; omega⟩)
        have FR2 := Lib.hid (show ∀ b, w1.heap.size ≤ b → some b ≠ (Value.slice A10 ((cm (E.take k)).length + 1) c10).ownBlock from fun b hb e => by have := LT10.out b e.symm; omega)
        go_wp2_with (first | ((with_reducible refine gate_builtin (b := .append) (xs := #[.tmp 122, .tmp 124]) rfl ?_); at_builtin; refine Kd.R_append (Kd.slice 3 ki) (w0 := WO) WO.heap.size rfl (.tmp 122) (.tmp 124) 57 22 (.slice none 0 0) 24 rfl Try.underlying57 info22 rfl (by decide) (by decide) (.slice A10 ((cm (E.take k)).length + 1) c10) (sts C.length (cm (E.take k)).length Fs) (row C.length (Fs ((cm (E.take k)).length + 1))) [.slice A2' C.length c2'] (fun b => WO.heap.size ≤ b ∧ some b ≠ (Value.slice A1' (cm (E.take (k + 1))).length c1').ownBlock) (fun b => w1.heap.size ≤ b) rfl rfl (Kd.M_row R2.out) (fun b hb => ⟨FR1.out b hb, FR2.out b hb⟩) (fun b hb => FR1.out b (Nat.le_trans hs2 hb)) S10.out B2.out B2.out.size (by rw [sts_len]; omega) ?_; intro v3 w3 hR3 hB3 hg3 hat3))
        rw [← sts_snoc, ← CY.out] at hR3
        have R3 := Lib.hid hR3; have B3 := Lib.hid hB3
        have R9 := Lib.hid (Kd.R_grown2 S9.out rfl hg3 (fun b h e => (S10.out.1 b h).2 e))
        clear hR3 hB3 hg3 hat3 y0
        go_roundw
        case measure => simp [intOf]; omega
        case rel => exact ⟨k + 1, hlt, rfl, R9.out, R3.out, B3.out⟩
      · have q6 : (c.f3 == 6) = false := by simpa using h6
        have cn := cm_no E k hlt (by rw [HCC.out]; exact h6)
        have on : oz E (k + 1) = oz E k := by unfold oz; rw [cn]
        have CN := Lib.hid cn; have ON := Lib.hid on
        clear cn on
        go_wp2_with fail
        go_roundw
        case measure => simp [intOf]; omega
        case rel => exact ⟨k + 1, hlt, rfl, by rw [ON.out]; exact Kd.R_below O9.out (DB.out _), by rw [CN.out]; exact Kd.R_below O10.out (DB.out _), below_step B.out (DB.out _)⟩
    · have hke : k = E.length := by omega
      subst hke
      have q0 := decide_eq_false (show ¬ ((E.length : Int) < (E.length : Int)) by omega)
      rw [List.take_length] at *
      obtain ⟨m, hm⟩ : ∃ m, (cm E).length = m := ⟨_, rfl⟩
      have hml : m ≤ 240 := by rw [← hm]; exact Nat.le_trans (cm_le E) hle
      have HM := Lib.hid hm
      rw [hm] at hc10 O10 ⊢
      clear hm
      obtain ⟨N, hN⟩ : ∃ N, m + 1 = N := ⟨_, rfl⟩
      have HN := Lib.hid hN
      rw [hN] at hc10 O10 ⊢
      have hN1 : N ≤ 241 := by omega
      have hN0 : 0 < N := by omega
      have pN : IntKind.wrap .i64 ((N : Int) - 1) = (m : Int) := by rw [i64_w]; unfold wrap64; omega
      have hCS : (Kd.slice 3 ki).C wr A10 N (sts C.length m Fs) := by
        obtain ⟨A', c', e', -, h⟩ := Kd.R_reads O10.out
        rw [sts_len, hN] at e' h
        cases e'
        exact h
      have CS := Lib.hid hCS
      obtain ⟨aS, A0', c0', hAS, l1, l2, l3⟩ := at_S hCS (m : Int) (by omega) (by omega)
      rw [Int.toNat_natCast] at l1 l2 l3
      have hrow : (sts C.length m Fs).getD m [] = row C.length (Fs m) := by
        unfold sts
        rw [List.getD_eq_getElem?_getD, List.getElem?_map, List.getElem?_range (by omega)]; rfl
      rw [hrow, row_len] at l1 l2 l3
      subst hAS
      have d1 := eq_true (show (0 : Int) ≤ (m : Int) by omega)
      have d2 := eq_true (show (m : Int) < (N : Int) by omega)
      have g3 := blk_cell BLr.out 3
      simp only [List.getElem?_toArray, List.getElem?_cons_succ, List.getElem?_cons_zero] at g3
      have LA := Lib.hid (show ki.C wr A0' (row C.length (Fs m)).length (row C.length (Fs m)) by rw [row_len]; exact l3)
      have LB := Lib.hid (show ki.C wr Ag3 (row C.length (Fs m)).length (row C.length (Fs m)) by
        have h := rdC_ (G3.out.below B.out)
        rw [LAST.out, HM.out] at h
        exact h)
      have hcg3' : C.length ≤ cg3 := by rw [row_len] at hcg3; exact hcg3
      clear hN hrow hCS l3 x2
      go_wp2_with fail
      go_quiet ((go_at_call 26; exact sameQ (row_len _ _) (by omega) l2 hcg3' LA.out LB.out))
      go_wp2_with fail
      refine name_w fun WE hWE => ?_
      have hBE : Below wr.heap.size wr WE := by rw [hWE]; exact pw_below_drewN (Below.refl _ _) _
      have BE := Lib.hid (below_step B.out hBE)
      have CSE := Lib.hid (show (Kd.slice 3 ki).C WE (some aS) (m + 1) (sts C.length m Fs) by rw [HN.out]; exact Kd.C_below CS.out hBE)
      clear hWE hBE l1 l2 g3 LA LB CS O9 O10 B BLr BXr d1 d2
      have TC := Lib.hid (show ∀ wr : World, Below WE.heap.size WE wr → ∀ (t x : Nat) (y : Int), t < T.length → x < (thr T t).length → Calls Try.prog 30 #[.agg #[.slice AC C.length cC, .int .i64 M, .slice AT T.length cT], .slice Ag2 E.length cg2, .slice (some aS) N c10, .int .i64 (t : Int), .int .i64 (x : Int), .int .i64 y] wr fun e w' => e = .returned (.bool true) ∧ Below wr.heap.size wr w' by
        intro wr hB t x y ht hx
        obtain ⟨hok, k0, hk0, hF⟩ := TOG.out t x y ht hx
        rw [HM.out] at hk0
        have hBB := below_step BE.out hB
        have h := togetherC wr AC cC C M AT cT T Ag2 cg2 E (some aS) c10 m Fs t x y (rdC_ (PC.out.below hBB)) hcC (rdC_ (PT.out.below hBB)) hcT (rdC_ (G2.out.below hBB)) hcg2 (Kd.C_below CSE.out hB) (by rw [HN.out]; exact hc10) F.out.c1 F.out.c2 F.out.t1 F.out.t2 F.out.ok ht hx (Nat.le_trans hle (by decide)) (Nat.le_trans hml (by decide)) hok k0 hk0 hF
        rw [HN.out] at h
        exact h)
      go_wp2_with fail
      go_loopw [14] (fun v14 wr => ∃ t : Nat, t ≤ T.length ∧ v14 = .int .i64 (t : Int) ∧ Below WE.heap.size WE wr) (fun v14 _ => T.length - (intOf v14).toNat)
      case atStart => exact ⟨0, Nat.zero_le _, rfl, Below.refl _ _⟩
      case round =>
        obtain ⟨t, ht, rfl, hB⟩ := hrel
        have B := Lib.hid hB
        have y2 := blk_cell (BP.out.below (below_step BE.out hB)) 2
        simp only [List.getElem?_toArray, List.getElem?_cons_succ, List.getElem?_cons_zero] at y2
        clear hB
        by_cases hlt : t < T.length
        · have q1 := decide_eq_true (show (t : Int) < (T.length : Int) by omega)
          have pt : IntKind.wrap .i64 ((t : Int) + 1) = ((t + 1 : Nat) : Int) := by rw [i64_w]; unfold wrap64; omega
          obtain ⟨adT, A5, c5, hAT, l1, hl5, -⟩ := at_L6 (rdC_ (PT.out.below BE.out)) (t : Int) (by omega) (by omega)
          rw [Int.toNat_natCast] at l1
          subst hAT
          have L1 := Lib.hid (show WE.cell? (adT.add t) = some (.slice A5 (thr T t).length c5) from l1)
          have hx8 : (thr T t).length ≤ 1000 := Nat.le_trans (F.out.ok.th t) (by decide)
          clear l1
          go_wp2_with fail
          go_loopw [15] (fun v15 wr => ∃ x : Nat, x ≤ (thr T t).length ∧ v15 = .int .i64 (x : Int) ∧ Below WE.heap.size WE wr) (fun v15 _ => (thr T t).length - (intOf v15).toNat)
          case atStart => exact ⟨0, Nat.zero_le _, rfl, B.out⟩
          case round =>
            clear B y2
            obtain ⟨x, hx, rfl, hB⟩ := hrel
            have B := Lib.hid hB
            have y2 := blk_cell (BP.out.below (below_step BE.out hB)) 2
            simp only [List.getElem?_toArray, List.getElem?_cons_succ, List.getElem?_cons_zero] at y2
            have l1 := (hB.cell (World.block_lt_of_cell? _ _ L1.out)).trans L1.out
            clear hB
            have d1 := eq_true (show (0 : Int) ≤ (t : Int) by omega)
            have d2 := eq_true (show (t : Int) < (T.length : Int) by omega)
            by_cases hlx : x < (thr T t).length
            · have q2 := decide_eq_true (show (x : Int) < ((thr T t).length : Int) by omega)
              have px : IntKind.wrap .i64 ((x : Int) + 1) = ((x + 1 : Nat) : Int) := by rw [i64_w]; unfold wrap64; omega
              go_wp2_with fail
              go_loopw [16, 17] (fun v16 v17 wr => ∃ (k : Nat) (z : Int), k ≤ E.length ∧ 0 ≤ z ∧ z ≤ 1000 ∧ v16 = .int .i64 z ∧ v17 = .int .i64 (k : Int) ∧ Below WE.heap.size WE wr) (fun _ v17 _ => E.length - (intOf v17).toNat)
              case atStart => exact ⟨0, 0, Nat.zero_le _, by decide, by decide, rfl, rfl, B.out⟩
              case round =>
                clear B y2 l1
                obtain ⟨k, z, hk, hz0, hz1, rfl, rfl, hB⟩ := hrel
                have B := Lib.hid hB
                have g2 := blk_cell (BL.out.below (below_step BE.out hB)) 2
                simp only [List.getElem?_toArray, List.getElem?_cons_succ, List.getElem?_cons_zero] at g2
                by_cases hlk : k < E.length
                · have q3 := decide_eq_true (show (k : Int) < (E.length : Int) by omega)
                  have hxn := eq_true (show (k : Int) < (E.length : Int) by omega)
                  have d5 := eq_true (show (0 : Int) ≤ (k : Int) by omega)
                  have p1 : IntKind.wrap .i64 ((k : Int) + 1) = ((k + 1 : Nat) : Int) := by rw [i64_w]; unfold wrap64; omega
                  obtain ⟨ad, hAg, u0, u1, u2, -⟩ := at_T53 (rdC_ (G2.out.below (below_step BE.out hB))) (k : Int) (by omega) (by omega)
                  rw [Int.toNat_natCast] at u0 u1 u2
                  have hce : rd_T53 E (k : Int) = E[k] := PureTxFair.getD_at E k _ hlk
                  rw [hce] at u0 u1 u2
                  have hf2 := TF2.out k hlk
                  obtain ⟨c, hc⟩ : ∃ c, E[k] = c := ⟨_, rfl⟩
                  rw [hc] at u0 u1 u2 hf2
                  subst hAg
                  clear hce hc hB
                  by_cases h0 : c.f0 = (t : Int)
                  · rw [h0] at u0
                    clear h0
                    by_cases h1 : c.f1 = (x : Int)
                    · rw [h1] at u1
                      clear h1
                      go_wp2_with fail
                      go_roundw
                      case measure => simp [intOf]; omega
                      case rel => exact ⟨k + 1, max z c.f2, hlk, by omega, by omega, rfl, rfl, B.out⟩
                    · have q5 : (c.f1 == (x : Int)) = false := by simpa using h1
                      go_wp2_with fail
                      go_roundw
                      case measure => simp [intOf]; omega
                      case rel => exact ⟨k + 1, z, hlk, hz0, hz1, rfl, rfl, B.out⟩
                  · have q5 : (c.f0 == (t : Int)) = false := by simpa using h0
                    go_wp2_with fail
                    go_roundw
                    case measure => simp [intOf]; omega
                    case rel => exact ⟨k + 1, z, hlk, hz0, hz1, rfl, rfl, B.out⟩
                · have q3 := decide_eq_false (show ¬ ((k : Int) < (E.length : Int)) by omega)
                  clear hB
                  go_wp2_with fail
                  clear g2 q3
                  go_loopw [18] (fun v18 wr => ∃ y : Int, 1 ≤ y ∧ y ≤ 1001 ∧ v18 = .int .i64 y ∧ Below WE.heap.size WE wr) (fun v18 _ => (z + 1 - intOf v18).toNat)
                  case atStart => exact ⟨1, by decide, by decide, rfl, B.out⟩
                  case round =>
                    clear B
                    obtain ⟨y, hy1, hy2, rfl, hB⟩ := hrel
                    have B := Lib.hid hB
                    have BB := Lib.hid (below_step BE.out hB)
                    have g2 := blk_cell (BL.out.below BB.out) 2
                    have y0 := blk_cell (BP.out.below BB.out) 0; have y1 := blk_cell (BP.out.below BB.out) 1; have y2 := blk_cell (BP.out.below BB.out) 2
                    simp only [List.getElem?_toArray, List.getElem?_cons_succ, List.getElem?_cons_zero] at g2 y0 y1 y2
                    clear hB
                    by_cases hly : y ≤ z
                    · have q4 := decide_eq_true hly
                      have py : IntKind.wrap .i64 (y + 1) = y + 1 := by rw [i64_w]; unfold wrap64; omega
                      go_wp2_with fail
                      refine (TC.out _ B.out t x y hlt hlx).mono ?_
                      rintro e w2 ⟨rfl, hB2⟩
                      have B2 := Lib.hid (below_step B.out hB2)
                      clear hB2 g2 y0 y1 y2
                      go_wp2_with fail
                      go_roundw
                      case measure => simp [intOf]; omega
                      case rel => exact ⟨y + 1, by omega, by omega, rfl, B2.out⟩
                    · have q4 := decide_eq_false hly
                      go_wp2_with fail
                      go_roundw
                      case measure => simp [intOf]; omega
                      case rel => exact ⟨x + 1, hlx, rfl, B.out⟩
            · have hxe : x = (thr T t).length := by omega
              subst hxe
              have q2 := decide_eq_false (show ¬ (((thr T t).length : Int) < ((thr T t).length : Int)) by omega)
              go_wp2_with fail
              go_roundw
              case measure => simp [intOf]; omega
              case rel => exact ⟨t + 1, hlt, rfl, B.out⟩
        · have hte : t = T.length := by omega
          subst hte
          have q1 := decide_eq_false (show ¬ ((T.length : Int) < (T.length : Int)) by omega)
          go_wp2_with fail
          go_ret
          exact ⟨rfl, below_step BW.out (below_step BE.out B.out)⟩
end Go.Proofs.Ytonhmkllfbagmaa.Tx
