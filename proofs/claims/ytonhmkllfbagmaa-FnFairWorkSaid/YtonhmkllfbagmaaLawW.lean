/- FnFairWork: the law, walked: it answers true. -/
import Derived.Test.YtonhmkllfbagmaaRtx
import Derived.Test.YtonhmkllfbagmaaRunK
namespace Go.Proofs.Ytonhmkllfbagmaa.Tx
open Go.RowKit Go.Proofs.YtonhmkllfbagmaaW.PrintWords Go.Proofs.YtonhmkllfbagmaaW.PrintLast Go.Proofs.YtonhmkllfbagmaaW.PrintMore Go.Proofs.Ytonhmkllfbagmaa.PFnExactTxFair Go.Proofs.Ytonhmkllfbagmaa.Src
set_option linter.unusedVariables false
set_option linter.unusedSimpArgs false
theorem sameEv (l : List Int) (hl : l.length ≤ 1048576) : Ev (fun k => laws_sameInts.f k l l) true := by
  have h := PureTxFair.scan l.length (fun k n => laws_sameInts.l0 k l l n) (fun _ => true)
    (Ev.step (f := fun _ => some true) (fun k => by simp only [laws_sameInts.l0]; rw [if_neg (by omega)]) (Ev.now _))
    (fun n h hr => Ev.step (fun k => by simp only [laws_sameInts.l0]; rw [if_pos (by omega), if_pos (by omega), if_pos (by omega), if_pos trivial, PureTxFair.wrap_succ n (by omega)]) hr) 0 (by omega)
  exact Ev.congr (fun k => by unfold laws_sameInts.f; rw [if_pos rfl]; rfl) h
theorem sameC {l : List Int} {v u : Value} {w : World} (hl : l.length ≤ 1048576) (hv : Rd ki w v l) (hu : Rd ki w u l) : Calls Try.prog 26 #[v, u] w fun e w' => e = .returned (.bool true) ∧ Below w.heap.size w w' := by
  obtain ⟨k, hk⟩ := Ev.rounds (sameEv l hl)
  obtain ⟨A, c, rfl, h1, h2⟩ := hv
  obtain ⟨B, d, rfl, h3, h4⟩ := hu
  refine (laws_sameInts.calls k A c l B d l true w h2 h1 h4 h3 hk).mono ?_
  rintro e w' ⟨he, n, rfl⟩
  exact ⟨he, pw_below_drewN (Below.refl _ _) n⟩
theorem rdC_ {α : Type} {d : Kd α} {w : World} {A : Option Addr} {n c : Nat} {xs : List α} (h : Rd d w (.slice A n c) xs) : d.C w A xs.length xs := by
  obtain ⟨A', c', e, h1, h2⟩ := h
  injection e with e1 e2 e3
  subst e1
  exact h2
theorem form_ {α : Type} {d : Kd α} {w : World} {v : Value} {xs : List α} (h : Rd d w v xs) : ∃ A c, v = .slice A xs.length c ∧ xs.length ≤ c := by
  obtain ⟨A, c, e, h1, -⟩ := h
  exact ⟨A, c, e, h1⟩
/-- A block as it was made. -/
def Blk (w : World) (b : Nat) (cs : Array Value) (t : TypeId) : Prop := w.heap[b]? = some (.cells cs t (0, 0))
theorem Blk.below {w w1 : World} {b : Nat} {cs : Array Value} {t : TypeId} (h : Blk w b cs t) (hB : Below w.heap.size w w1) : Blk w1 b cs t := (hB.block b (blk_lt h)).trans h
theorem Lie.rd {α : Type} {d : Kd α} {w : World} {lo hi : Nat} {v : Value} {xs : List α} (h : Lie d w lo hi v xs) : Rd d w v xs := h.2 w (Nat.le_refl _) (fun _ _ _ => rfl)
theorem nx_bound (E : List S53) (t : Nat) : ∀ k, 0 ≤ nx E k t ∧ nx E k t ≤ (k : Int) := by
  induction E with
  | nil => intro k; exact ⟨Int.le_refl _, Int.natCast_nonneg _⟩
  | cons e E ih =>
    intro k
    cases k with
    | zero => exact ⟨Int.le_refl _, Int.le_refl _⟩
    | succ k =>
      have := ih k
      simp only [nx]
      split <;> omega
structure WF (C : List Int) (M : Int) (T : List (List (List S63))) (x : FS) : Prop where
  c1 : 0 < C.length
  c2 : C.length ≤ 8
  t1 : 0 < T.length
  t2 : T.length ≤ 4
  m : 1 ≤ M ∧ M ≤ 4
  so : ∃ k, spec_TxOK.f k C M T = some true
  io : ∃ k, impl_TxOK.f k C M T = some true
  ok : OpsOK T.length C.length T
  g0 : GoodF T.length T 200 ⟨st0 C, [], true⟩
  fair : IsFair M C.length T 200 (st0 C) x
  lo : x.out.length ≤ 200
  le : x.S.events.length ≤ 400
  lg : Lg T.length M C.length T (st0 C) x.out
  run : runN M C.length T (st0 C) x.out x.out.length = x.S
  rg0 : RG T.length T 0 (st0 C)
  good : Good T.length T x.S
  cx : CX T.length x.S.events x.S.tx
theorem wf (C : List Int) (M : Int) (T : List (List (List S63))) (hw : PureTxFair.workB C M T = true) (hs : PureTxFair.Small C T) : ∃ x, WF C M T x := by
  obtain ⟨c1, c2, t1, t2, m1, m2, hx⟩ := PureTxFair.work_all hw
  have hT : T.length ≤ 1048576 := by omega
  have hx' : ∀ x ∈ T, x.length ≤ 1048576 ∧ ∀ y ∈ x, y.length ≤ 1048576 := fun x h => ⟨by have := (hx x h).1; omega, fun y hy => by have := ((hx x h).2 y hy).1; omega⟩
  obtain ⟨k, hk⟩ := Ev.rounds (PureTxFair.spec_ok C M T hT hx')
  obtain ⟨j, hj⟩ := Ev.rounds (PureTxFair.impl_ok C M T hT hx')
  rw [hw] at hk hj
  have hok := PureTxFair.ops_ok hw hs
  have hG := PureTxFair.goodF0 (C := C) (M := M) (most := 200) (T := T) (by decide) hs
  obtain ⟨x, hF⟩ := IsFair.ex (man := M) hG hok (Int.le_refl 200)
  have hGx : GoodF T.length T 200 x := by
    obtain ⟨n, rfl, -⟩ := hF
    exact hG.rnd hok (Int.le_refl 200) n
  have b1 := hGx.len
  have b2 := hGx.ev
  obtain ⟨h1, h2⟩ := hF.told rfl
  have h0 : RG T.length T 0 (st0 C) := ⟨hG.g, fun c => Int.le_refl _, Nat.le_refl _, ⟨fun k h => absurd h (Nat.not_lt_zero k), fun t _ => rfl⟩⟩
  have hR := RG.run h0 hok h1 (by omega) x.out.length (Nat.le_refl _)
  rw [← h2] at hR
  exact ⟨x, by omega, by omega, by omega, by omega, ⟨m1, m2⟩, ⟨k, hk⟩, ⟨j, hj⟩, hok, hG, hF, by omega, by omega, h1, h2.symm, h0, hR.g, hR.cx⟩
set_option maxHeartbeats 8000000 in
set_option maxRecDepth 100000 in
theorem lawWork (A0 : Option Addr) (c0 : Nat) (l0 : List Int) (w : World) (hr0 : Kd.C (Kd.int .u8) w A0 l0.length l0) (hc0 : l0.length ≤ c0) (hb : ∀ k : Int, 0 ≤ k → k < l0.length → 0 ≤ rd l0 k ∧ rd l0 k ≤ 255) :
    Calls Try.prog 6 #[.slice A0 l0.length c0] w fun e w' => e = .returned (.bool true) ∧ Below w.heap.size w w' := by
  by_cases hl : (l0.length : Int) > 1048576
  · have q0 := decide_eq_true hl
    go_enter Try.func6, Try.ntmps6
    go_wp2_with fail
    go_ret
    exact ⟨rfl, Below.refl _ _⟩
  have q0 := decide_eq_false hl
  have hF : Bytes l0 := ⟨by omega, hb⟩
  have HR := Lib.hid hr0
  clear hr0 hb
  go_enter Try.func6, Try.ntmps6
  go_wp2_with fail
  refine (txOfC A0 c0 l0 w HR.out hc0 hF).mono ?_
  rintro e w1 ⟨v0, M, v2, C, T, rfl, h0, h2, hw, hs, hB⟩
  obtain ⟨x, hwf⟩ := wf C M T hw hs
  have F := Lib.hid hwf
  have PC := Lib.hid h0; have PT := Lib.hid h2; have BW := Lib.hid hB
  obtain ⟨AC, cC, rfl, hcC, -⟩ := h0
  obtain ⟨AT, cT, rfl, hcT, -⟩ := h2
  clear hwf hw hs hB q0 HR hF
  obtain ⟨W2, hW2⟩ : ∃ W, W = w1.alloc (.cells #[.slice AC C.length cC, .int .i64 M, .slice AT T.length cT] 30) := ⟨_, rfl⟩
  have hB : Below w1.heap.size w1 W2 := by rw [hW2]; exact below_alloc (Below.refl _ _) _
  have BP_ := Lib.hid (show Blk W2 w1.heap.size #[.slice AC C.length cC, .int .i64 M, .slice AT T.length cT] 30 by rw [hW2]; exact heap_alloc_new _ _)
  have NPC := Lib.hid (PC.out.below hB)
  have NPT := Lib.hid (PT.out.below hB)
  have NBW := Lib.hid (below_step BW.out hB)
  clear PC PT BW
  have PC := NPC; clear NPC
  have PT := NPT; clear NPT
  have BW := NBW; clear NBW
  have BP := BP_; clear BP_ hB
  have y0 := blk_cell BP.out 0
  have y1 := blk_cell BP.out 1
  have y2 := blk_cell BP.out 2
  simp only [List.getElem?_toArray, List.getElem?_cons_succ, List.getElem?_cons_zero] at y0 y1 y2
  rw [hW2] at y0 y1 y2
  go_wp2_with fail
  rw [← hW2]
  clear hW2 y0 y1 y2
  obtain ⟨ks, hks⟩ := F.out.so
  refine (specFairC W2 AC cC C M AT cT T 200 ks (rdC_ PC.out) hcC (rdC_ PT.out) hcT hks F.out.c1 F.out.c2 F.out.t1 F.out.t2 F.out.m F.out.ok (by decide) (Int.le_refl 200) x F.out.fair F.out.g0).mono ?_
  rintro e w11 ⟨vw0, vw2, vw3, vw4, rfl, hL0, hL2, hL3, hL4, hB⟩
  have S0_ := Lib.hid (Lie.rd hL0)
  have S2_ := Lib.hid (Lie.rd hL2)
  have S3_ := Lib.hid (Lie.rd hL3)
  have S4_ := Lib.hid (Lie.rd hL4)
  have NPC := Lib.hid (PC.out.below hB)
  have NPT := Lib.hid (PT.out.below hB)
  have NBW := Lib.hid (below_step BW.out hB)
  have NBP := Lib.hid (BP.out.below hB)
  clear PC PT BW BP
  have PC := NPC; clear NPC
  have PT := NPT; clear NPT
  have BW := NBW; clear NBW
  have BP := NBP; clear NBP
  have S0 := S0_; clear S0_
  have S2 := S2_; clear S2_
  have S3 := S3_; clear S3_
  have S4 := S4_; clear S4_
  clear hB hL0 hL2 hL3 hL4 hks
  obtain ⟨Aw2, cw2, ew2, hcw2⟩ := form_ S2.out
  subst ew2
  obtain ⟨Aw3, cw3, ew3, hcw3⟩ := form_ S3.out
  rw [row_len] at ew3
  subst ew3
  obtain ⟨Aw4, cw4, ew4, hcw4⟩ := form_ S4.out
  rw [row_len] at ew4
  subst ew4
  obtain ⟨W3, hW3⟩ : ∃ W, W = w11.alloc (.cells #[.int .i64 0, .int .i64 0, .slice Aw2 x.S.events.length cw2, .slice Aw3 C.length cw3, .slice Aw4 T.length cw4] 43) := ⟨_, rfl⟩
  have hB : Below w11.heap.size w11 W3 := by rw [hW3]; exact below_alloc (Below.refl _ _) _
  have BX_ := Lib.hid (show Blk W3 w11.heap.size #[.int .i64 0, .int .i64 0, .slice Aw2 x.S.events.length cw2, .slice Aw3 C.length cw3, .slice Aw4 T.length cw4] 43 by rw [hW3]; exact heap_alloc_new _ _)
  have NPC := Lib.hid (PC.out.below hB)
  have NPT := Lib.hid (PT.out.below hB)
  have NBW := Lib.hid (below_step BW.out hB)
  have NBP := Lib.hid (BP.out.below hB)
  have NS0 := Lib.hid (S0.out.below hB)
  have NS2 := Lib.hid (S2.out.below hB)
  have NS3 := Lib.hid (S3.out.below hB)
  have NS4 := Lib.hid (S4.out.below hB)
  clear PC PT BW BP S0 S2 S3 S4
  have PC := NPC; clear NPC
  have PT := NPT; clear NPT
  have BW := NBW; clear NBW
  have BP := NBP; clear NBP
  have S0 := NS0; clear NS0
  have S2 := NS2; clear NS2
  have S3 := NS3; clear NS3
  have S4 := NS4; clear NS4
  have BX := BX_; clear BX_ hB
  have y0 := blk_cell BP.out 0
  have y1 := blk_cell BP.out 1
  have y2 := blk_cell BP.out 2
  simp only [List.getElem?_toArray, List.getElem?_cons_succ, List.getElem?_cons_zero] at y0 y1 y2
  rw [hW3] at y0 y1 y2
  go_wp2_with fail
  rw [← hW3]
  clear hW3 y0 y1 y2
  obtain ⟨ki_, hki⟩ := F.out.io
  refine (implFairC W3 AC cC C M AT cT T 200 ki_ (rdC_ PC.out) hcC (rdC_ PT.out) hcT hki F.out.c1 F.out.c2 F.out.t1 F.out.t2 F.out.m F.out.ok (by decide) (Int.le_refl 200) x F.out.fair F.out.g0).mono ?_
  rintro e w12 ⟨vg0, vg2, vg3, vg4, rfl, hL0, hL2, hL3, hL4, hB⟩
  have G0_ := Lib.hid (Rd.of hL0)
  have G2_ := Lib.hid (Rd.of hL2)
  have G3_ := Lib.hid (Rd.of hL3)
  have G4_ := Lib.hid (Rd.of hL4)
  have NPC := Lib.hid (PC.out.below hB)
  have NPT := Lib.hid (PT.out.below hB)
  have NBW := Lib.hid (below_step BW.out hB)
  have NBP := Lib.hid (BP.out.below hB)
  have NS0 := Lib.hid (S0.out.below hB)
  have NS2 := Lib.hid (S2.out.below hB)
  have NS3 := Lib.hid (S3.out.below hB)
  have NS4 := Lib.hid (S4.out.below hB)
  have NBX := Lib.hid (BX.out.below hB)
  clear PC PT BW BP S0 S2 S3 S4 BX
  have PC := NPC; clear NPC
  have PT := NPT; clear NPT
  have BW := NBW; clear NBW
  have BP := NBP; clear NBP
  have S0 := NS0; clear NS0
  have S2 := NS2; clear NS2
  have S3 := NS3; clear NS3
  have S4 := NS4; clear NS4
  have BX := NBX; clear NBX
  have G0 := G0_; clear G0_
  have G2 := G2_; clear G2_
  have G3 := G3_; clear G3_
  have G4 := G4_; clear G4_
  clear hB hL0 hL2 hL3 hL4
  obtain ⟨Ag2, cg2, eg2, hcg2⟩ := form_ G2.out
  subst eg2
  obtain ⟨Ag3, cg3, eg3, hcg3⟩ := form_ G3.out
  rw [row_len] at eg3
  subst eg3
  obtain ⟨Ag4, cg4, eg4, hcg4⟩ := form_ G4.out
  rw [row_len] at eg4
  subst eg4
  obtain ⟨Ag0, cg0, eg0, hcg0⟩ := form_ G0.out
  subst eg0
  obtain ⟨W4, hW4⟩ : ∃ W, W = w12.alloc (.cells #[.int .i64 0, .int .i64 0, .slice Ag2 x.S.events.length cg2, .slice Ag3 C.length cg3, .slice Ag4 T.length cg4] 43) := ⟨_, rfl⟩
  have hB : Below w12.heap.size w12 W4 := by rw [hW4]; exact below_alloc (Below.refl _ _) _
  have BL_ := Lib.hid (show Blk W4 w12.heap.size #[.int .i64 0, .int .i64 0, .slice Ag2 x.S.events.length cg2, .slice Ag3 C.length cg3, .slice Ag4 T.length cg4] 43 by rw [hW4]; exact heap_alloc_new _ _)
  have NPC := Lib.hid (PC.out.below hB)
  have NPT := Lib.hid (PT.out.below hB)
  have NBW := Lib.hid (below_step BW.out hB)
  have NBP := Lib.hid (BP.out.below hB)
  have NS0 := Lib.hid (S0.out.below hB)
  have NS2 := Lib.hid (S2.out.below hB)
  have NS3 := Lib.hid (S3.out.below hB)
  have NS4 := Lib.hid (S4.out.below hB)
  have NBX := Lib.hid (BX.out.below hB)
  have NG0 := Lib.hid (G0.out.below hB)
  have NG2 := Lib.hid (G2.out.below hB)
  have NG3 := Lib.hid (G3.out.below hB)
  have NG4 := Lib.hid (G4.out.below hB)
  clear PC PT BW BP S0 S2 S3 S4 BX G0 G2 G3 G4
  have PC := NPC; clear NPC
  have PT := NPT; clear NPT
  have BW := NBW; clear NBW
  have BP := NBP; clear NBP
  have S0 := NS0; clear NS0
  have S2 := NS2; clear NS2
  have S3 := NS3; clear NS3
  have S4 := NS4; clear NS4
  have BX := NBX; clear NBX
  have G0 := NG0; clear NG0
  have G2 := NG2; clear NG2
  have G3 := NG3; clear NG3
  have G4 := NG4; clear NG4
  have BL := BL_; clear BL_ hB
  go_wp2_with fail
  rw [← hW4]
  clear hW4
  have lo := F.out.lo; have le := F.out.le; have c2 := F.out.c2; have t2 := F.out.t2; have t1 := F.out.t1
  refine (sameC (by omega) G0.out S0.out).mono ?_
  rintro e w13 ⟨rfl, hB⟩
  have NPC := Lib.hid (PC.out.below hB)
  have NPT := Lib.hid (PT.out.below hB)
  have NBW := Lib.hid (below_step BW.out hB)
  have NBP := Lib.hid (BP.out.below hB)
  have NS0 := Lib.hid (S0.out.below hB)
  have NS2 := Lib.hid (S2.out.below hB)
  have NS3 := Lib.hid (S3.out.below hB)
  have NS4 := Lib.hid (S4.out.below hB)
  have NBX := Lib.hid (BX.out.below hB)
  have NG0 := Lib.hid (G0.out.below hB)
  have NG2 := Lib.hid (G2.out.below hB)
  have NG3 := Lib.hid (G3.out.below hB)
  have NG4 := Lib.hid (G4.out.below hB)
  have NBL := Lib.hid (BL.out.below hB)
  clear PC PT BW BP S0 S2 S3 S4 BX G0 G2 G3 G4 BL
  have PC := NPC; clear NPC
  have PT := NPT; clear NPT
  have BW := NBW; clear NBW
  have BP := NBP; clear NBP
  have S0 := NS0; clear NS0
  have S2 := NS2; clear NS2
  have S3 := NS3; clear NS3
  have S4 := NS4; clear NS4
  have BX := NBX; clear NBX
  have G0 := NG0; clear NG0
  have G2 := NG2; clear NG2
  have G3 := NG3; clear NG3
  have G4 := NG4; clear NG4
  have BL := NBL; clear NBL
  clear hB
  have g0 := blk_cell BL.out 0
  have g3 := blk_cell BL.out 3
  simp only [List.getElem?_toArray, List.getElem?_cons_succ, List.getElem?_cons_zero] at g0 g3
  have u3 := blk_cell BX.out 3
  simp only [List.getElem?_toArray, List.getElem?_cons_succ, List.getElem?_cons_zero] at u3
  go_wp2_with fail
  clear g0 g3 u3
  refine (sameC (by rw [row_len]; omega) G3.out S3.out).mono ?_
  rintro e w14 ⟨rfl, hB⟩
  have NPC := Lib.hid (PC.out.below hB)
  have NPT := Lib.hid (PT.out.below hB)
  have NBW := Lib.hid (below_step BW.out hB)
  have NBP := Lib.hid (BP.out.below hB)
  have NS0 := Lib.hid (S0.out.below hB)
  have NS2 := Lib.hid (S2.out.below hB)
  have NS3 := Lib.hid (S3.out.below hB)
  have NS4 := Lib.hid (S4.out.below hB)
  have NBX := Lib.hid (BX.out.below hB)
  have NG0 := Lib.hid (G0.out.below hB)
  have NG2 := Lib.hid (G2.out.below hB)
  have NG3 := Lib.hid (G3.out.below hB)
  have NG4 := Lib.hid (G4.out.below hB)
  have NBL := Lib.hid (BL.out.below hB)
  clear PC PT BW BP S0 S2 S3 S4 BX G0 G2 G3 G4 BL
  have PC := NPC; clear NPC
  have PT := NPT; clear NPT
  have BW := NBW; clear NBW
  have BP := NBP; clear NBP
  have S0 := NS0; clear NS0
  have S2 := NS2; clear NS2
  have S3 := NS3; clear NS3
  have S4 := NS4; clear NS4
  have BX := NBX; clear NBX
  have G0 := NG0; clear NG0
  have G2 := NG2; clear NG2
  have G3 := NG3; clear NG3
  have G4 := NG4; clear NG4
  have BL := NBL; clear NBL
  clear hB
  have g4 := blk_cell BL.out 4
  simp only [List.getElem?_toArray, List.getElem?_cons_succ, List.getElem?_cons_zero] at g4
  have u4 := blk_cell BX.out 4
  simp only [List.getElem?_toArray, List.getElem?_cons_succ, List.getElem?_cons_zero] at u4
  go_wp2_with fail
  clear g4 u4
  refine (sameC (by rw [row_len]; omega) G4.out S4.out).mono ?_
  rintro e w15 ⟨rfl, hB⟩
  have NPC := Lib.hid (PC.out.below hB)
  have NPT := Lib.hid (PT.out.below hB)
  have NBW := Lib.hid (below_step BW.out hB)
  have NBP := Lib.hid (BP.out.below hB)
  have NS0 := Lib.hid (S0.out.below hB)
  have NS2 := Lib.hid (S2.out.below hB)
  have NS3 := Lib.hid (S3.out.below hB)
  have NS4 := Lib.hid (S4.out.below hB)
  have NBX := Lib.hid (BX.out.below hB)
  have NG0 := Lib.hid (G0.out.below hB)
  have NG2 := Lib.hid (G2.out.below hB)
  have NG3 := Lib.hid (G3.out.below hB)
  have NG4 := Lib.hid (G4.out.below hB)
  have NBL := Lib.hid (BL.out.below hB)
  clear PC PT BW BP S0 S2 S3 S4 BX G0 G2 G3 G4 BL
  have PC := NPC; clear NPC
  have PT := NPT; clear NPT
  have BW := NBW; clear NBW
  have BP := NBP; clear NBP
  have S0 := NS0; clear NS0
  have S2 := NS2; clear NS2
  have S3 := NS3; clear NS3
  have S4 := NS4; clear NS4
  have BX := NBX; clear NBX
  have G0 := NG0; clear NG0
  have G2 := NG2; clear NG2
  have G3 := NG3; clear NG3
  have G4 := NG4; clear NG4
  have BL := NBL; clear NBL
  clear hB
  have y0 := blk_cell BP.out 0
  have y1 := blk_cell BP.out 1
  have y2 := blk_cell BP.out 2
  simp only [List.getElem?_toArray, List.getElem?_cons_succ, List.getElem?_cons_zero] at y0 y1 y2
  go_wp2_with fail
  clear y0 y1 y2
  have hrt := runTxC w15 AC cC C M AT cT T Ag0 cg0 x.out ki_ (rdC_ PC.out) hcC (rdC_ PT.out) hcT (rdC_ G0.out) hcg0 hki F.out.c1 F.out.c2 F.out.t1 F.out.t2 F.out.m F.out.ok F.out.lo F.out.lg F.out.rg0
  rw [F.out.run] at hrt
  refine (hrt).mono ?_
  rintro e w16 ⟨va2, va3, va4, rfl, hL2, hL3, hL4, hB⟩
  have A2_ := Lib.hid (hL2)
  have A3_ := Lib.hid (hL3)
  have A4_ := Lib.hid (hL4)
  have NPC := Lib.hid (PC.out.below hB)
  have NPT := Lib.hid (PT.out.below hB)
  have NBW := Lib.hid (below_step BW.out hB)
  have NBP := Lib.hid (BP.out.below hB)
  have NS0 := Lib.hid (S0.out.below hB)
  have NS2 := Lib.hid (S2.out.below hB)
  have NS3 := Lib.hid (S3.out.below hB)
  have NS4 := Lib.hid (S4.out.below hB)
  have NBX := Lib.hid (BX.out.below hB)
  have NG0 := Lib.hid (G0.out.below hB)
  have NG2 := Lib.hid (G2.out.below hB)
  have NG3 := Lib.hid (G3.out.below hB)
  have NG4 := Lib.hid (G4.out.below hB)
  have NBL := Lib.hid (BL.out.below hB)
  clear PC PT BW BP S0 S2 S3 S4 BX G0 G2 G3 G4 BL
  have PC := NPC; clear NPC
  have PT := NPT; clear NPT
  have BW := NBW; clear NBW
  have BP := NBP; clear NBP
  have S0 := NS0; clear NS0
  have S2 := NS2; clear NS2
  have S3 := NS3; clear NS3
  have S4 := NS4; clear NS4
  have BX := NBX; clear NBX
  have G0 := NG0; clear NG0
  have G2 := NG2; clear NG2
  have G3 := NG3; clear NG3
  have G4 := NG4; clear NG4
  have BL := NBL; clear NBL
  have A2 := A2_; clear A2_
  have A3 := A3_; clear A3_
  have A4 := A4_; clear A4_
  clear hB hL2 hL3 hL4 hki hrt
  obtain ⟨Aa2, ca2, ea2, hca2⟩ := form_ A2.out
  subst ea2
  obtain ⟨Aa3, ca3, ea3, hca3⟩ := form_ A3.out
  rw [row_len] at ea3
  subst ea3
  obtain ⟨Aa4, ca4, ea4, hca4⟩ := form_ A4.out
  rw [row_len] at ea4
  subst ea4
  obtain ⟨W5, hW5⟩ : ∃ W, W = w16.alloc (.cells #[.int .i64 0, .int .i64 0, .slice Aa2 x.S.events.length ca2, .slice Aa3 C.length ca3, .slice Aa4 T.length ca4] 43) := ⟨_, rfl⟩
  have hB : Below w16.heap.size w16 W5 := by rw [hW5]; exact below_alloc (Below.refl _ _) _
  have BA_ := Lib.hid (show Blk W5 w16.heap.size #[.int .i64 0, .int .i64 0, .slice Aa2 x.S.events.length ca2, .slice Aa3 C.length ca3, .slice Aa4 T.length ca4] 43 by rw [hW5]; exact heap_alloc_new _ _)
  have NPC := Lib.hid (PC.out.below hB)
  have NPT := Lib.hid (PT.out.below hB)
  have NBW := Lib.hid (below_step BW.out hB)
  have NBP := Lib.hid (BP.out.below hB)
  have NS0 := Lib.hid (S0.out.below hB)
  have NS2 := Lib.hid (S2.out.below hB)
  have NS3 := Lib.hid (S3.out.below hB)
  have NS4 := Lib.hid (S4.out.below hB)
  have NBX := Lib.hid (BX.out.below hB)
  have NG0 := Lib.hid (G0.out.below hB)
  have NG2 := Lib.hid (G2.out.below hB)
  have NG3 := Lib.hid (G3.out.below hB)
  have NG4 := Lib.hid (G4.out.below hB)
  have NBL := Lib.hid (BL.out.below hB)
  have NA2 := Lib.hid (A2.out.below hB)
  have NA3 := Lib.hid (A3.out.below hB)
  have NA4 := Lib.hid (A4.out.below hB)
  clear PC PT BW BP S0 S2 S3 S4 BX G0 G2 G3 G4 BL A2 A3 A4
  have PC := NPC; clear NPC
  have PT := NPT; clear NPT
  have BW := NBW; clear NBW
  have BP := NBP; clear NBP
  have S0 := NS0; clear NS0
  have S2 := NS2; clear NS2
  have S3 := NS3; clear NS3
  have S4 := NS4; clear NS4
  have BX := NBX; clear NBX
  have G0 := NG0; clear NG0
  have G2 := NG2; clear NG2
  have G3 := NG3; clear NG3
  have G4 := NG4; clear NG4
  have BL := NBL; clear NBL
  have A2 := NA2; clear NA2
  have A3 := NA3; clear NA3
  have A4 := NA4; clear NA4
  have BA := BA_; clear BA_ hB
  have b0 := blk_cell BA.out 0
  have b3 := blk_cell BA.out 3
  simp only [List.getElem?_toArray, List.getElem?_cons_succ, List.getElem?_cons_zero] at b0 b3
  have g3 := blk_cell BL.out 3
  simp only [List.getElem?_toArray, List.getElem?_cons_succ, List.getElem?_cons_zero] at g3
  rw [hW5] at b0 b3 g3
  go_wp2_with fail
  rw [← hW5]
  clear hW5 b0 b3 g3
  refine (sameC (by rw [row_len]; omega) A3.out G3.out).mono ?_
  rintro e w17 ⟨rfl, hB⟩
  have NPC := Lib.hid (PC.out.below hB)
  have NPT := Lib.hid (PT.out.below hB)
  have NBW := Lib.hid (below_step BW.out hB)
  have NBP := Lib.hid (BP.out.below hB)
  have NS0 := Lib.hid (S0.out.below hB)
  have NS2 := Lib.hid (S2.out.below hB)
  have NS3 := Lib.hid (S3.out.below hB)
  have NS4 := Lib.hid (S4.out.below hB)
  have NBX := Lib.hid (BX.out.below hB)
  have NG0 := Lib.hid (G0.out.below hB)
  have NG2 := Lib.hid (G2.out.below hB)
  have NG3 := Lib.hid (G3.out.below hB)
  have NG4 := Lib.hid (G4.out.below hB)
  have NBL := Lib.hid (BL.out.below hB)
  have NA2 := Lib.hid (A2.out.below hB)
  have NA3 := Lib.hid (A3.out.below hB)
  have NA4 := Lib.hid (A4.out.below hB)
  have NBA := Lib.hid (BA.out.below hB)
  clear PC PT BW BP S0 S2 S3 S4 BX G0 G2 G3 G4 BL A2 A3 A4 BA
  have PC := NPC; clear NPC
  have PT := NPT; clear NPT
  have BW := NBW; clear NBW
  have BP := NBP; clear NBP
  have S0 := NS0; clear NS0
  have S2 := NS2; clear NS2
  have S3 := NS3; clear NS3
  have S4 := NS4; clear NS4
  have BX := NBX; clear NBX
  have G0 := NG0; clear NG0
  have G2 := NG2; clear NG2
  have G3 := NG3; clear NG3
  have G4 := NG4; clear NG4
  have BL := NBL; clear NBL
  have A2 := NA2; clear NA2
  have A3 := NA3; clear NA3
  have A4 := NA4; clear NA4
  have BA := NBA; clear NBA
  clear hB
  have b2 := blk_cell BA.out 2
  simp only [List.getElem?_toArray, List.getElem?_cons_succ, List.getElem?_cons_zero] at b2
  have g2 := blk_cell BL.out 2
  simp only [List.getElem?_toArray, List.getElem?_cons_succ, List.getElem?_cons_zero] at g2
  have y2 := blk_cell BP.out 2
  simp only [List.getElem?_toArray, List.getElem?_cons_succ, List.getElem?_cons_zero] at y2
  obtain ⟨E, hE⟩ : ∃ E, x.S.events = E := ⟨_, rfl⟩
  have CXE := Lib.hid F.out.cx
  rw [hE] at le G2 A2 BL BA BX S2 CXE g2 b2 ⊢
  have HEE := Lib.hid hE; clear hE
  go_wp2_with ((with_reducible refine gate_dst (N := 79) rfl ?_); refine Kd.R_make ki (w0 := w17) w17.heap.size 3 rfl (N := 79) rfl 22 _ _ rfl (T.length : Int) rfl rfl Try.underlying22 (.int .i64 0) 8 info3 rfl (by decide) (by omega) 0 (ok := fun b => w17.heap.size ≤ b) (okp := fun _ => False) rfl (fun _ hk => hk.elim) (Nat.le_refl _) (by omega) (by rw [Int.toNat_natCast]; omega) (Below.refl _ _) (Nat.le_refl _) ?_; intro v9 w9 hR9 hB9 hg9 hat9; rw [Int.toNat_natCast] at hR9)
  obtain ⟨b9, c9, rfl, hc9, hge9, -, hf9⟩ := fn_int hR9 (by rw [List.length_replicate]; exact t1)
  rw [List.length_replicate] at hc9 hf9 ⊢
  have hge9 : w17.heap.size ≤ b9 := hge9
  have N9 := Lib.hid (hf9.ext (g := fun t => .int .i64 (nx E 0 t)) (fun t ht => by rw [nx_zero, List.getD_eq_getElem?_getD, List.getElem?_replicate, if_pos ht]; rfl))
  have B9 := Lib.hid hB9
  clear hR9 hB9 hg9 hat9 hf9 b2 g2 y2
  go_loopw [10] (fun iv wr => ∃ k : Nat, k ≤ E.length ∧ iv = .int .i64 (k : Int) ∧ Fn wr b9 3 T.length (fun t => .int .i64 (nx E k t)) ∧ Below w17.heap.size w17 wr) (fun iv _ => E.length - (intOf iv).toNat)
  case atStart => exact ⟨0, Nat.zero_le _, rfl, N9.out, B9.out⟩
  case round =>
    clear N9 B9
    obtain ⟨k, hk, rfl, hN, hB⟩ := hrel
    have N := Lib.hid hN; have B := Lib.hid hB
    have BLr := Lib.hid (BL.out.below hB); have BAr := Lib.hid (BA.out.below hB)
    have g2 := blk_cell BLr.out 2
    simp only [List.getElem?_toArray, List.getElem?_cons_succ, List.getElem?_cons_zero] at g2
    by_cases hlt : k < E.length
    · have q0 := decide_eq_true (show (k : Int) < (E.length : Int) by omega)
      have hxn := eq_true (show (k : Int) < (E.length : Int) by omega)
      have p1 : IntKind.wrap .i64 ((k : Int) + 1) = (k : Int) + 1 := by rw [i64_w]; unfold wrap64; omega
      obtain ⟨ad, hAg, u0, u1, u2, u3, u4, u5⟩ := at_T53 (rdC_ (G2.out.below hB)) (k : Int) (by omega) (by omega)
      obtain ⟨bd, hAa, t0, t1', t2', t3, t4, t5⟩ := at_T53 (rdC_ (A2.out.below hB)) (k : Int) (by omega) (by omega)
      rw [Int.toNat_natCast] at u0 u1 u2 u3 u4 u5 t0 t1' t2' t3 t4 t5
      have hce : rd_T53 E (k : Int) = E[k] := PureTxFair.getD_at E k _ hlt
      rw [hce] at u0 u1 u2 u3 u4 u5 t0 t1' t2' t3 t4 t5
      obtain ⟨c, hc⟩ : ∃ c, E[k] = c := ⟨_, rfl⟩
      rw [hc] at u0 u1 u2 u3 u4 u5 t0 t1' t2' t3 t4 t5
      have HCC := Lib.hid hc
      subst hAg hAa
      clear hN hB hce hc
      go_wp2_with fail
      obtain ⟨We, hWe⟩ : ∃ We, wr.alloc (.cells #[.int .i64 c.f0, .int .i64 c.f1, .int .i64 c.f2, .int .i64 c.f3, .int .i64 c.f4, .int .i64 c.f5] 53) = We := ⟨_, rfl⟩
      have hBe : Below wr.heap.size wr We := by rw [← hWe]; exact below_alloc (Below.refl _ _) _
      have BE := Lib.hid (show Blk We wr.heap.size #[.int .i64 c.f0, .int .i64 c.f1, .int .i64 c.f2, .int .i64 c.f3, .int .i64 c.f4, .int .i64 c.f5] 53 by rw [← hWe]; exact heap_alloc_new _ _)
      rw [hWe]
      have BAe := Lib.hid (BAr.out.below hBe)
      have b2 := blk_cell BAe.out 2
      have e0 := blk_cell BE.out 0; have e1 := blk_cell BE.out 1; have e2 := blk_cell BE.out 2; have e3 := blk_cell BE.out 3; have e4 := blk_cell BE.out 4; have e5 := blk_cell BE.out 5
      simp only [List.getElem?_toArray, List.getElem?_cons_succ, List.getElem?_cons_zero] at b2 e0 e1 e2 e3 e4 e5
      replace t0 := (hBe.cell (World.block_lt_of_cell? _ _ t0)).trans t0
      replace t1' := (hBe.cell (World.block_lt_of_cell? _ _ t1')).trans t1'
      replace t2' := (hBe.cell (World.block_lt_of_cell? _ _ t2')).trans t2'
      replace t3 := (hBe.cell (World.block_lt_of_cell? _ _ t3)).trans t3
      replace t4 := (hBe.cell (World.block_lt_of_cell? _ _ t4)).trans t4
      replace t5 := (hBe.cell (World.block_lt_of_cell? _ _ t5)).trans t5
      have NE := Lib.hid (N.out.below hBe)
      have BWe := Lib.hid (below_step B.out hBe)
      clear hWe u0 u1 u2 u3 u4 u5 g2 N B
      go_quiet (fail)
      by_cases hc6 : c.f3 = 6
      · have q6 : (c.f3 == 6) = true := beq_iff_eq.2 hc6
        obtain ⟨t, ht, hf0, hnx⟩ := CXE.out.th k hlt (by rw [HCC.out]; exact hc6)
        rw [HCC.out] at hf0 hnx
        have hb := nx_bound E t k
        obtain ⟨z, hz⟩ : ∃ z, c.f1 = z := ⟨_, rfl⟩
        rw [hz] at hnx
        have HZ := Lib.hid hnx; have HF0 := Lib.hid hf0
        rw [hnx] at hb
        have p2 : IntKind.wrap .i64 (z + 1) = z + 1 := by rw [i64_w]; unfold wrap64; omega
        rw [hf0] at e0
        rw [hz] at e1
        clear hnx hf0 hz
        go_wp2_with fail
        refine name_w fun Wf hWf => ?_
        have hBf : Below We.heap.size We Wf := by rw [hWf]; exact pw_below_drewN (Below.refl _ _) _
        clear hWf
        have NF := Lib.hid (NE.out.below hBf)
        have BWf := Lib.hid (below_step BWe.out hBf)
        replace e0 := (hBf.cell (World.block_lt_of_cell? _ _ e0)).trans e0
        replace e1 := (hBf.cell (World.block_lt_of_cell? _ _ e1)).trans e1
        have n9 := NF.out.cell t ht
        rw [HZ.out] at n9
        have f9 := NF.out.thaw t
        have d1 := decide_eq_false (show ¬ (t : Int) < 0 by omega)
        have d2 := decide_eq_false (show ¬ (t : Int) ≥ (T.length : Int) by omega)
        have d3 := eq_true (show (0 : Int) ≤ (t : Int) by omega)
        have d4 := eq_true (show (t : Int) < (T.length : Int) by omega)
        clear hBf e2 e3 e4 e5 b2 t0 t1' t2' t3 t4 t5 hBe
        go_quiet (fail)
        go_wp2_with fail
        go_roundw
        case measure => simp [intOf]; omega
        case rel =>
          refine ⟨k + 1, hlt, rfl, Fn.set (NF.out.below (pw_below_drewN (Below.refl _ _) _)) t ht _ ?_ (fun m hm hne => ?_), (pw_below_drewN BWf.out _).setCell (p := ⟨b9, t, none⟩) (by exact hge9) _⟩
          · show Value.int .i64 (nx E (k + 1) t) = _
            rw [nx_succ E t k hlt, HZ.out, HCC.out, if_pos ⟨hc6, HF0.out⟩]
          · show Value.int .i64 (nx E (k + 1) m) = Value.int .i64 (nx E k m)
            rw [nx_succ E m k hlt, HCC.out, if_neg (fun h => hne (by have h1 := h.2; rw [HF0.out] at h1; omega)), Int.add_zero]
      · have q6 : (c.f3 == 6) = false := beq_eq_false_iff_ne.2 hc6
        go_wp2_with fail
        go_roundw
        case measure => simp [intOf]; omega
        case rel =>
          refine ⟨k + 1, hlt, rfl, (NE.out.below (pw_below_drewN (Below.refl _ _) _)).ext (fun t ht => ?_), pw_below_drewN BWe.out _⟩
          rw [nx_succ E t k hlt, HCC.out, if_neg (fun h => hc6 h.1), Int.add_zero]
    · have q0 := decide_eq_false (show ¬ (k : Int) < (E.length : Int) by omega)
      obtain rfl : k = E.length := by omega
      have g4 := blk_cell BLr.out 4
      simp only [List.getElem?_toArray, List.getElem?_cons_succ, List.getElem?_cons_zero] at g4
      have htx : ∀ t, t < T.length → nx E E.length t = x.S.tx t := fun t ht => CXE.out.tx t ht
      have hrow : row T.length (nx E E.length) = row T.length x.S.done := List.map_congr_left (fun t ht => by rw [htx t (List.mem_range.1 ht)]; exact (F.out.good.done t).symm)
      have hr1 := rd_fn hN hc9 (by omega)
      rw [hrow] at hr1
      have R1 := Lib.hid hr1; have R2 := Lib.hid (G4.out.below hB); have HTX := Lib.hid htx
      clear hr1 hrow htx hN hB
      go_wp2_with fail
      refine (sameC (by rw [row_len]; omega) R1.out R2.out).mono ?_
      rintro e W2' ⟨rfl, hB⟩
      have NW := Lib.hid (N.out.below hB); have BW2 := Lib.hid (below_step B.out hB)
      clear hB R1 R2 g4 g2 N B BLr BAr
      by_cases hgo : (x.out.length : Int) < 200
      · have q1 := decide_eq_true hgo
        have hall := IsFair.all F.out.fair hgo
        have HALL := Lib.hid hall
        clear hall
        go_wp2_with fail
        go_loopw [12] (fun iv wr => ∃ t : Nat, t ≤ T.length ∧ iv = .int .i64 (t : Int) ∧ Below W2'.heap.size W2' wr) (fun iv _ => T.length - (intOf iv).toNat)
        case atStart => exact ⟨0, Nat.zero_le _, rfl, Below.refl _ _⟩
        case round =>
          obtain ⟨t, ht, rfl, hB⟩ := hrel
          by_cases hlt2 : t < T.length
          · have q2 := decide_eq_true (show (t : Int) < (T.length : Int) by omega)
            have d3 := eq_true (show (0 : Int) ≤ (t : Int) by omega)
            have d4 := eq_true (show (t : Int) < (T.length : Int) by omega)
            have p1 : IntKind.wrap .i64 ((t : Int) + 1) = (t : Int) + 1 := by rw [i64_w]; unfold wrap64; omega
            have n9 := (NW.out.below hB).cell t hlt2
            have hz : nx E E.length t = ((thr T t).length : Int) := by
              rw [HTX.out t hlt2]
              have h1 := HALL.out t hlt2
              have h2 := (F.out.good.tx t).2
              omega
            rw [hz] at n9
            have BPr := Lib.hid ((BP.out.below BW2.out).below hB)
            have y2 := blk_cell BPr.out 2
            simp only [List.getElem?_toArray, List.getElem?_cons_succ, List.getElem?_cons_zero] at y2
            obtain ⟨ad, A5, c5, hAT, l1, -, -⟩ := at_L6 (rdC_ ((PT.out.below BW2.out).below hB)) (t : Int) (by omega) (by omega)
            rw [Int.toNat_natCast] at l1
            have l2 : wr.cell? (ad.add t) = some (.slice A5 (thr T t).length c5) := l1
            subst hAT
            have BB := Lib.hid hB
            clear hz l1 hB
            go_wp2_with fail
            go_quiet (fail)
            go_wp2_with fail
            go_roundw
            case measure => simp [intOf]; omega
            case rel => exact ⟨t + 1, hlt2, rfl, pw_below_drewN BB.out _⟩
          · have q2 := decide_eq_false (show ¬ (t : Int) < (T.length : Int) by omega)
            have BB := Lib.hid hB
            clear hB
            go_wp2_with fail
            go_ret
            exact ⟨rfl, below_step BW.out (below_step BW2.out BB.out)⟩
      · have q1 := decide_eq_false hgo
        go_wp2_with fail
        go_ret
        exact ⟨rfl, below_step BW.out BW2.out⟩
end Go.Proofs.Ytonhmkllfbagmaa.Tx
