/- Transactions: the ledger's log. -/
import Derived.Test.YtonhmkllfbagmaaLedJ
import Derived.Test.YtonhmkllfbagmaaRunK
namespace Go.Proofs.Ytonhmkllfbagmaa.Tx
open Go.RowKit Go.Proofs.YtonhmkllfbagmaaW.PrintWords Go.Proofs.YtonhmkllfbagmaaW.PrintLast Go.Proofs.YtonhmkllfbagmaaW.PrintMore Go.Proofs.Ytonhmkllfbagmaa.PFnExactTxFair
set_option linter.unusedVariables false
set_option linter.unusedSimpArgs false
def lgRow (VE VC V : Value) : Nat → Value
  | 0 => .int .i64 0
  | 1 => .int .i64 0
  | 2 => VE
  | 3 => VC
  | _ => V
set_option maxHeartbeats 8000000 in
set_option maxRecDepth 100000 in
theorem logC (P : LPar) (w0 w : World) (D : LDyn) (S : St) (h : Led P w0 w D S) (hn : P.n ≤ 1000) (hnc : P.nc ≤ 1000) (hcC : P.nc ≤ P.cC) :
    Calls Try.prog 45 #[.pointer (some ⟨D.blk .g, 0, none⟩)] w fun e w' => ∃ v2 v3, e = .returned (.agg #[.int .i64 0, .int .i64 0, D.V, v2, v3]) ∧ ki.R 3 w' w.heap.size (fun _ => True) v2 (row P.nc S.cells) ∧ ki.R 3 w' w.heap.size (fun b => some b ≠ v2.ownBlock) v3 (row P.n S.tx) ∧ Below w.heap.size w w' := by
  obtain ⟨Ae, ce, eE, hce, hre⟩ := Kd.R_reads h.ev
  have H := Lib.hid h
  clear h hre
  obtain ⟨C, hC⟩ : ∃ C, row P.nc S.cells = C := ⟨_, rfl⟩
  have lC := Lib.hid (show C.length = P.nc by rw [← hC, row_len])
  have HCr := Lib.hid hC
  clear hC
  go_enter Try.func45, Try.ntmps45
  go_wp2_with fail
  refine name_w fun E hE => ?_
  have BE := Lib.hid (show Below w.heap.size w E by rw [hE]; exact below_alloc (Below.refl _ _) _)
  have rb := Lib.hid (show E.drew.heap[w.heap.size]? = some (.cells #[.int .i64 0, .int .i64 0, .slice none 0 0, .slice none 0 0, .slice none 0 0] 43 (0, 0)) by rw [hE]; exact heap_alloc_new w _)
  clear hE
  have HE := Lib.hid (H.out.step (below_drew1 BE.out))
  have u0 : E.drew.cell? ⟨D.blk .g, 8, none⟩ = some (.slice Ae S.events.length ce) := (HE.out.g 8 (by decide)).trans (congrArg some eE)
  have u1 : E.drew.cell? ⟨D.blk .g, 3, none⟩ = some (.slice (some ⟨D.blk .c, 0, none⟩) P.nc P.cC) := HE.out.g 3 (by decide)
  have hglt : D.blk .g < E.drew.heap.size := HE.out.lt .g trivial
  have cc : ∀ X, Below E.drew.heap.size E.drew X → Calls Try.prog 36 #[.slice (some ⟨D.blk .c, 0, none⟩) P.nc P.cC] X fun e w' => ∃ (A : Option Addr) (c : Nat), e = .returned (.slice A P.nc c) ∧ (Kd.int .i64).R 3 w' X.heap.size (fun _ => True) (.slice A P.nc c) C ∧ Below X.heap.size X w' := fun X hX => by
    obtain ⟨A, c, e1, -, hr⟩ := (rd_fn (show Fn E.drew (D.blk .c) 3 P.nc (fun k => .int .i64 (S.cells k)) from HE.out.at_ .c trivial) hcC hnc).below hX
    injection e1 with e1 e2 e3
    subst e1
    rw [HCr.out] at hr
    have := slices_Clone_int_int.calls (some ⟨D.blk .c, 0, none⟩) P.cC C C X hr (by rw [lC.out]; exact hcC) (clone_f C (by rw [lC.out]; exact hnc))
    rw [lC.out] at this
    refine this.mono ?_
    rintro e w' ⟨v, rfl, h1, h2⟩
    obtain ⟨A8, c8, e8, -⟩ := Kd.R_reads h1
    rw [lC.out] at e8
    subst e8
    exact ⟨A8, c8, rfl, h1, h2⟩
  have CC := Lib.hid cc
  clear cc
  have hlbE : ∀ X, Below E.drew.heap.size E.drew X → X.cell? ⟨D.blk .g, 8, none⟩ = some (.slice Ae S.events.length ce) ∧ X.cell? ⟨D.blk .g, 3, none⟩ = some (.slice (some ⟨D.blk .c, 0, none⟩) P.nc P.cC) := fun X hX => ⟨(hX.cell (p := ⟨D.blk .g, 8, none⟩) hglt).trans u0, (hX.cell (p := ⟨D.blk .g, 3, none⟩) hglt).trans u1⟩
  have BE10 : Below E.drew.heap.size E.drew (E.alloc (.cells #[.int .i64 0, .int .i64 0, .slice none 0 0, .slice none 0 0, .slice none 0 0] 43)).drew := show Below E.drew.heap.size E.drew (E.drew.alloc (.cells #[.int .i64 0, .int .i64 0, .slice none 0 0, .slice none 0 0, .slice none 0 0] 43)) from below_alloc (Below.refl _ _) _
  have BA : ∀ X : World, Below X.heap.size X (X.alloc (.cells #[.int .i64 0, .int .i64 0, .slice none 0 0, .slice none 0 0, .slice none 0 0] 43)) := fun X => below_alloc (Below.refl _ _) _
  refine start_ (n := 12) (S := fun w' => w'.cell? ⟨D.blk .g, 8, none⟩ = some (.slice Ae S.events.length ce) ∧ w'.cell? ⟨D.blk .g, 3, none⟩ = some (.slice (some ⟨D.blk .c, 0, none⟩) P.nc P.cC)) (ds := [11]) #[false, false, false, false, false, false, false, false, false, false, false, false] (by kernel_rfl) rfl rfl ⟨u0, u1⟩ (fun hHeld => ?_)
  refine pure_ (i := 0) (N := some 6) (v := ?_) (a' := ?_) #[true, false, false, false, false, false, false, false, false, false, false, false] rfl rfl (by kernel_rfl) (fun _ _ _ h => h) (Or.inl ⟨by rfl, ?_⟩) ?_ ?_
  rotate_left
  · intro w'
    go_simp
    with_reducible rfl
  rotate_left
  · simp only [Act.put, List.setIfInBounds_toArray, List.set_cons_zero, List.set_cons_succ, i64_w, i32_w]
    rfl
  refine pure_ (i := 1) (N := some 7) (v := ?_) (a' := ?_) #[true, true, false, false, false, false, false, false, false, false, false, false] rfl rfl (by kernel_rfl) (fun _ _ _ h => h) (Or.inl ⟨by rfl, ?_⟩) ?_ ?_
  rotate_left
  · intro w'
    go_simp
    with_reducible rfl
  rotate_left
  · simp only [Act.put, List.setIfInBounds_toArray, List.set_cons_zero, List.set_cons_succ, i64_w, i32_w]
    rfl
  refine pure_ (i := 2) (N := some 8) (v := ?_) (a' := ?_) #[true, true, true, false, false, false, false, false, false, false, false, false] rfl rfl (by kernel_rfl) (fun _ _ _ h => h) (Or.inl ⟨by rfl, ?_⟩) ?_ ?_
  rotate_left
  · intro w'
    go_simp
    with_reducible rfl
  rotate_left
  · simp only [Act.put, List.setIfInBounds_toArray, List.set_cons_zero, List.set_cons_succ, i64_w, i32_w]
    rfl
  refine pure_ (i := 4) (N := some 10) (v := ?_) (a' := ?_) #[true, true, true, false, true, false, false, false, false, false, false, false] rfl rfl (by kernel_rfl) (fun _ _ _ h => h) (Or.inl ⟨by rfl, ?_⟩) ?_ ?_
  rotate_left
  · intro w'
    go_simp
    with_reducible rfl
  rotate_left
  · simp only [Act.put, List.setIfInBounds_toArray, List.set_cons_zero, List.set_cons_succ, i64_w, i32_w]
    rfl
  refine pure_ (i := 5) (N := some 11) (v := ?_) (a' := ?_) #[true, true, true, false, true, true, false, false, false, false, false, false] rfl rfl (by kernel_rfl) (fun _ _ _ h => h) (Or.inl ⟨by rfl, ?_⟩) ?_ ?_
  rotate_left
  · intro w'
    go_simp
    with_reducible rfl
  rotate_left
  · simp only [Act.put, List.setIfInBounds_toArray, List.set_cons_zero, List.set_cons_succ, i64_w, i32_w]
    rfl
  refine pure_ (i := 6) (N := some 12) (v := ?_) (a' := ?_) #[true, true, true, false, true, true, true, false, false, false, false, false] rfl rfl (by kernel_rfl) (fun _ _ _ h => h) (Or.inl ⟨by rfl, ?_⟩) ?_ ?_
  rotate_left
  · intro w'
    go_simp
    with_reducible rfl
  rotate_left
  · simp only [Act.put, List.setIfInBounds_toArray, List.set_cons_zero, List.set_cons_succ, i64_w, i32_w]
    rfl
  refine take_ (i := 3) (N := some 9) (v := ?_) (a' := ?_) #[true, true, true, true, true, true, true, false, false, false, false, false] rfl rfl (by kernel_rfl) (fun _ _ _ h => h) (Or.inl ⟨by rfl, ?_⟩) hHeld ?_ ?_
  rotate_left
  · rintro w' ⟨s0, s1⟩
    go_simp
    with_reducible rfl
  rotate_left
  · simp only [Act.put, List.setIfInBounds_toArray, List.set_cons_zero, List.set_cons_succ, i64_w, i32_w]
    rfl
  refine take_ (i := 7) (N := some 13) (v := ?_) (a' := ?_) #[true, true, true, true, true, true, true, true, false, false, false, false] rfl rfl (by kernel_rfl) (fun _ _ _ h => h) (Or.inl ⟨by rfl, ?_⟩) hHeld ?_ ?_
  rotate_left
  · rintro w' ⟨s0, s1⟩
    go_simp
    with_reducible rfl
  rotate_left
  · simp only [Act.put, List.setIfInBounds_toArray, List.set_cons_zero, List.set_cons_succ, i64_w, i32_w]
    rfl
  refine join_ (σ := Option Addr × Nat × Nat) 1 #[true, true, true, true, true, true, true, true, true, true, true, false] (fun s => [(14, .slice s.1 P.nc s.2.1), (15, .agg #[.int .i64 0, .int .i64 0, .slice Ae S.events.length ce, .slice s.1 P.nc s.2.1, .slice none 0 0]), (3, .pointer (some ⟨s.2.2, 0, none⟩))]) (fun s w' => Below E.drew.heap.size E.drew w' ∧ (Kd.int .i64).R 3 w' E.drew.heap.size (fun b => b ≠ s.2.2) (.slice s.1 P.nc s.2.1) C ∧ w'.heap[s.2.2]? = some (.cells #[.int .i64 0, .int .i64 0, .slice none 0 0, .slice none 0 0, .slice none 0 0] 43 (0, 0)) ∧ E.drew.heap.size ≤ s.2.2) ?_ ?_
  rotate_left
  · intro hCont
    refine two_ (i := 8) (j := 10) (Ni := some 14) (Nj := some 3) #[true, true, true, true, true, true, true, true, true, false, false, false] #[true, true, true, true, true, true, true, true, false, false, true, false] rfl rfl rfl rfl (by kernel_rfl) (by decide) (by decide) (fun K hK => ?_) (fun K hK => ?_)
    · skip
      refine goes_ Try.func36 (by kernel_rfl) rfl #[.slice (some ⟨D.blk .c, 0, none⟩) P.nc P.cC] (by rfl) rfl rfl (by simp only [List.map_toArray, List.map_cons, List.map_nil]; rfl) ?_
      with_reducible refine (CC.out _ (Below.refl E.drew.heap.size E.drew)).mono ?_
      rintro e8 w8 ⟨A8, c8, rfl, hR8, hB8⟩
      refine ⟨_, rfl, ?_⟩
      refine hK.out _ _ ⟨(hlbE _ hB8).1, (hlbE _ hB8).2⟩ (fun hHeld => ?_)
      clear hK K
      refine norm_ (a' := ?_) ?_ ?_
      rotate_left
      · show Act.put _ (some 14) _ = _
        simp only [Act.put, List.setIfInBounds_toArray, List.set_cons_zero, List.set_cons_succ, i64_w, i32_w]
        rfl
      refine pure_ (i := 9) (N := some 15) (v := ?_) (a' := ?_) #[true, true, true, true, true, true, true, true, true, true, false, false] rfl rfl (by kernel_rfl) (fun _ _ _ h => h) (Or.inl ⟨by rfl, ?_⟩) ?_ ?_
      rotate_left
      · intro w'
        go_simp
        with_reducible rfl
      rotate_left
      · simp only [Act.put, List.setIfInBounds_toArray, List.set_cons_zero, List.set_cons_succ, i64_w, i32_w]
        rfl
      refine one_ (i := 10) (N := some 3) #[true, true, true, true, true, true, true, true, true, true, true, false] rfl rfl (by kernel_rfl) (by decide) (fun K hK => ?_)
      refine value_ (w1 := ?_) (v := ?_) (by rfl) rfl ?_ ?_
      rotate_left 2
      · go_simp
        constructor
        · rfl
        · rfl
      refine hK.out _ _ ⟨(hlbE _ (below_step hB8 (BA w8))).1, (hlbE _ (below_step hB8 (BA w8))).2⟩ (fun hHeld => ?_)
      clear hK K
      refine norm_ (a' := ?_) ?_ ?_
      rotate_left
      · show Act.put _ (some 3) _ = _
        simp only [Act.put, List.setIfInBounds_toArray, List.set_cons_zero, List.set_cons_succ, i64_w, i32_w]
        rfl
      exact norm_ (by simp only [putAll, Act.put, List.setIfInBounds_toArray, List.set_cons_zero, List.set_cons_succ]) (hCont (A8, c8, w8.heap.size) _ ⟨below_step hB8 (BA w8), Kd.R_mono (Kd.R_below (Kd.R_bound hR8) (BA w8)) (fun b hb => by show b ≠ w8.heap.size; have := hb.2.2.1; omega), heap_alloc_new w8 _, hB8.size⟩)
    · skip
      refine value_ (w1 := ?_) (v := ?_) (by rfl) rfl ?_ ?_
      rotate_left 2
      · go_simp
        constructor
        · rfl
        · rfl
      refine hK.out _ _ ⟨(hlbE _ BE10).1, (hlbE _ BE10).2⟩ (fun hHeld => ?_)
      clear hK K
      refine norm_ (a' := ?_) ?_ ?_
      rotate_left
      · show Act.put _ (some 3) _ = _
        simp only [Act.put, List.setIfInBounds_toArray, List.set_cons_zero, List.set_cons_succ, i64_w, i32_w]
        rfl
      refine one_ (i := 8) (N := some 14) #[true, true, true, true, true, true, true, true, true, false, true, false] rfl rfl (by kernel_rfl) (by decide) (fun K hK => ?_)
      refine goes_ Try.func36 (by kernel_rfl) rfl #[.slice (some ⟨D.blk .c, 0, none⟩) P.nc P.cC] (by rfl) rfl rfl (by simp only [List.map_toArray, List.map_cons, List.map_nil]; rfl) ?_
      with_reducible refine (CC.out _ BE10).mono ?_
      rintro e8 w8 ⟨A8, c8, rfl, hR8, hB8⟩
      refine ⟨_, rfl, ?_⟩
      refine hK.out _ _ ⟨(hlbE _ (below_step BE10 hB8)).1, (hlbE _ (below_step BE10 hB8)).2⟩ (fun hHeld => ?_)
      clear hK K
      refine norm_ (a' := ?_) ?_ ?_
      rotate_left
      · show Act.put _ (some 14) _ = _
        simp only [Act.put, List.setIfInBounds_toArray, List.set_cons_zero, List.set_cons_succ, i64_w, i32_w]
        rfl
      refine pure_ (i := 9) (N := some 15) (v := ?_) (a' := ?_) #[true, true, true, true, true, true, true, true, true, true, true, false] rfl rfl (by kernel_rfl) (fun _ _ _ h => h) (Or.inl ⟨by rfl, ?_⟩) ?_ ?_
      rotate_left
      · intro w'
        go_simp
        with_reducible rfl
      rotate_left
      · simp only [Act.put, List.setIfInBounds_toArray, List.set_cons_zero, List.set_cons_succ, i64_w, i32_w]
        rfl
      exact norm_ (by simp only [putAll, Act.put, List.setIfInBounds_toArray, List.set_cons_zero, List.set_cons_succ]) (hCont (A8, c8, E.heap.size) _ ⟨below_step BE10 hB8, Kd.R_lower (Kd.R_mono (Kd.R_bound hR8) (fun b hb => by show b ≠ E.heap.size; have h9 := hb.2.1; have h8 : E.heap.size < (E.alloc (.cells #[.int .i64 0, .int .i64 0, .slice none 0 0, .slice none 0 0, .slice none 0 0] 43)).drew.heap.size := (by show E.heap.size < (E.alloc _).heap.size; simp); omega)) BE10.size, (hB8.block _ (by show E.heap.size < (E.alloc _).heap.size; simp)).trans (heap_alloc_new E _), Nat.le_refl _⟩)
  rintro ⟨A8, c8, bL⟩ wX ⟨hBX, hR8, hbL, hgeL⟩
  simp only at hR8 hbL hgeL
  have hR8X := Lib.hid hR8
  have hbLX := Lib.hid hbL
  have r0 := blk_cell hbL 0
  have r1 := blk_cell hbL 1
  have r2 := blk_cell hbL 2
  have r3 := blk_cell hbL 3
  have r4 := blk_cell hbL 4
  simp only [List.getElem?_toArray, List.getElem?_cons_succ, List.getElem?_cons_zero] at r0 r1 r2 r3 r4
  have z0 : ∀ o, wX.frozen? ⟨bL, o, none⟩ = false := fun o => by simp [World.frozen?, hbL]
  clear hR8 hbL
  have hHeld := hlbE _ hBX
  refine norm_ (a' := ?_) ?_ ?_
  rotate_left
  · simp only [putAll, Act.put, List.setIfInBounds_toArray, List.set_cons_zero, List.set_cons_succ]
    rfl
  refine last_ (i := 11) (N := none) #[true, true, true, true, true, true, true, true, true, true, true, true] rfl rfl (by kernel_rfl) (by decide) (fun K hK => ?_)
  refine skip_ (w1 := ?_) (by rfl) rfl ?_ ?_
  rotate_left
  · go_simp
    rfl
  refine hK.out _ _ ?_
  clear hK K
  refine done_ (by kernel_rfl) ?_
  obtain ⟨VE, hVE⟩ : ∃ VE, Value.slice Ae S.events.length ce = VE := ⟨_, rfl⟩
  obtain ⟨VC, hVC⟩ : ∃ VC, Value.slice A8 P.nc c8 = VC := ⟨_, rfl⟩
  obtain ⟨W1, hW1⟩ : ∃ W1, (((((wX.setCell ⟨bL, 0, none⟩ (.int .i64 0)).setCell ⟨bL, 1, none⟩ (.int .i64 0)).setCell ⟨bL, 2, none⟩ (.slice Ae S.events.length ce)).setCell ⟨bL, 3, none⟩ (.slice A8 P.nc c8)).setCell ⟨bL, 4, none⟩ (.slice none 0 0)) = W1 := ⟨_, rfl⟩
  rw [hW1]
  have hE0 : w.heap.size < E.drew.heap.size := blk_lt rb.out
  have hbW : W1.heap[bL]? = some (.cells #[.int .i64 0, .int .i64 0, VE, VC, .slice none 0 0] 43 (0, 0)) := by
    rw [← hW1, ← hVE, ← hVC]
    exact blk_set (blk_set (blk_set (blk_set (blk_set hbLX.out 0 _) 1 _) 2 _) 3 _) 4 _
  have hsW : ∀ b, b ≠ bL → W1.heap[b]? = wX.heap[b]? := fun b hb => by
    rw [← hW1]
    exact (Below.heap_setCell _ _ _ b hb).trans ((Below.heap_setCell _ _ _ b hb).trans ((Below.heap_setCell _ _ _ b hb).trans ((Below.heap_setCell _ _ _ b hb).trans (Below.heap_setCell _ _ _ b hb))))
  have FL := Lib.hid (show Fn W1 bL 43 5 (lgRow VE VC (.slice none 0 0)) from ⟨_, hbW, by simp, fun k hk => by match k with | 0 | 1 | 2 | 3 | 4 => rfl | k + 5 => omega⟩)
  have BW := Lib.hid (show Below w.heap.size w W1 by
    rw [← hW1]
    have hle : w.heap.size ≤ bL := by omega
    exact (((((below_step (below_drew1 BE.out) hBX).setCell (p := ⟨bL, 0, none⟩) hle _).setCell (p := ⟨bL, 1, none⟩) hle _).setCell (p := ⟨bL, 2, none⟩) hle _).setCell (p := ⟨bL, 3, none⟩) hle _).setCell (p := ⟨bL, 4, none⟩) hle _)
  have RS := Lib.hid (show W1.heap[w.heap.size]? = some (.cells #[.int .i64 0, .int .i64 0, .slice none 0 0, .slice none 0 0, .slice none 0 0] 43 (0, 0)) from (hsW _ (by omega)).trans ((hBX.block _ hE0).trans rb.out))
  have R8 := Lib.hid (show ki.R 3 W1 E.drew.heap.size (fun b => b ≠ bL) VC C by rw [← hVC]; exact Kd.R_step hR8X.out (fun b hb _ => hsW b hb))
  have hbl1 : bL < W1.heap.size := blk_lt hbW
  have VEQ := Lib.hid (show D.V = VE from eE.trans hVE)
  have VCQ := Lib.hid hVC
  have hHeld : True := trivial
  clear BE10 hW1 hbW hsW hVE hVC r0 r1 r2 r3 r4 z0 hbLX hR8X hlbE BA u0 u1 hglt rb CC BE HE hBX eE
  obtain ⟨lo, hlo⟩ : ∃ lo, W1.heap.size = lo := ⟨_, rfl⟩
  have HL1 := H.out.step BW.out
  have g6 := HL1.g 6 (by decide)
  simp only [gJ] at g6
  clear HL1
  go_wp2_with fail
  go_loopw [21] (fun iv wr => ∃ (x : Nat) (V : Value), x ≤ P.n ∧ iv = .int .i64 (x : Int) ∧ Fn wr bL 43 5 (lgRow VE VC V) ∧ ki.R 3 wr w.heap.size (fun b => lo ≤ b) V (row x S.tx) ∧ Kp bL W1 wr ∧ Below w.heap.size w wr) (fun iv _ => P.n - (intOf iv).toNat)
  case atStart => exact ⟨0, .slice none 0 0, Nat.zero_le _, rfl, FL.out, Kd.R_nil _ _ _ _ _, Kp.refl bL W1, BW.out⟩
  case round =>
    obtain ⟨x, V, hx, rfl, hF, hR, hK, hB⟩ := hrel
    have hbl2 := hF.lt
    have hKs := hK.1
    rw [hlo] at hKs
    by_cases hlt : x < P.n
    · have q0 := decide_eq_true (show (x : Int) < (P.n : Int) by omega)
      have hxn := eq_true (show (x : Int) < (P.n : Int) by omega)
      have p1 : IntKind.wrap .i64 ((x : Int) + 1) = (x : Int) + 1 := by rw [i64_w]; unfold wrap64; omega
      obtain ⟨A, c, eV, hc, -⟩ := Kd.R_reads hR
      rw [row_len] at eV
      subst eV
      have HL := Lib.hid (H.out.step hB)
      have pi := HL.out.p x hlt
      have F := Lib.hid hF; have R := Lib.hid hR; have K := Lib.hid hK; have B := Lib.hid hB
      clear hF hR hK hB g6
      go_wp2_with fail
      have HD := Lib.hid (HL.out.step (below_drew1 (Below.refl _ wr)))
      have u0 : wr.drew.cell? ⟨bL, 4, none⟩ = some (.slice A x c) := F.out.cell 4 (by decide)
      have u1 : wr.drew.cell? ⟨D.blk (.a x), 0, none⟩ = some (.int .i64 (S.tx x)) := HD.out.a x hlt 0 (by decide)
      have hlt1 : bL < wr.drew.heap.size := hbl2
      have hlt2 : D.blk (.a x) < wr.drew.heap.size := HD.out.lt (.a x) hlt
      have hne12 : D.blk (.a x) ≠ bL := fun e => by have := H.out.lt (.a x) hlt; omega
      have hab := (Below.refl wr.drew.heap.size wr.drew).alloc (o := .cells #[.int .i64 (S.tx x)] 3) (Nat.le_refl _)
      have RD := Lib.hid (show ki.R 3 wr.drew w.heap.size (fun b => lo ≤ b) (.slice A x c) (row x S.tx) from R.out)
      have BD := Lib.hid (show Below w.heap.size w wr.drew from below_drew1 B.out)
      have hbz := BD.out.size
      have hKs' : lo ≤ wr.drew.heap.size := hKs
      have FD := Lib.hid (show Fn wr.drew bL 43 5 (lgRow VE VC (.slice A x c)) from F.out)
      have KD := Lib.hid (show Kp bL W1 wr.drew from K.out)
      refine start_ (n := 10) (S := fun w' => w'.cell? ⟨bL, 4, none⟩ = some (.slice A x c) ∧ w'.cell? ⟨D.blk (.a x), 0, none⟩ = some (.int .i64 (S.tx x))) (ds := [9]) #[false, false, false, false, false, false, false, false, false, false] (by kernel_rfl) rfl rfl ⟨u0, u1⟩ (fun hHeld => ?_)
      refine pure_ (i := 0) (N := some 25) (v := ?_) (a' := ?_) #[true, false, false, false, false, false, false, false, false, false] rfl rfl (by kernel_rfl) (fun _ _ _ h => h) (Or.inl ⟨by rfl, ?_⟩) ?_ ?_
      rotate_left
      · intro w'
        go_simp
        with_reducible rfl
      rotate_left
      · simp only [Act.put, List.setIfInBounds_toArray, List.set_cons_zero, List.set_cons_succ, i64_w, i32_w]
        rfl
      refine pure_ (i := 2) (N := some 27) (v := ?_) (a' := ?_) #[true, false, true, false, false, false, false, false, false, false] rfl rfl (by kernel_rfl) (fun _ _ _ h => h) (Or.inl ⟨by rfl, ?_⟩) ?_ ?_
      rotate_left
      · intro w'
        go_simp
        with_reducible rfl
      rotate_left
      · simp only [Act.put, List.setIfInBounds_toArray, List.set_cons_zero, List.set_cons_succ, i64_w, i32_w]
        rfl
      refine pure_ (i := 3) (N := some 28) (v := ?_) (a' := ?_) #[true, false, true, true, false, false, false, false, false, false] rfl rfl (by kernel_rfl) (fun _ _ _ h => h) (Or.inl ⟨by rfl, ?_⟩) ?_ ?_
      rotate_left
      · intro w'
        go_simp
        with_reducible rfl
      rotate_left
      · simp only [Act.put, List.setIfInBounds_toArray, List.set_cons_zero, List.set_cons_succ, i64_w, i32_w]
        rfl
      refine pure_ (i := 4) (N := some 29) (v := ?_) (a' := ?_) #[true, false, true, true, true, false, false, false, false, false] rfl rfl (by kernel_rfl) (fun _ _ _ h => h) (Or.inl ⟨by rfl, ?_⟩) ?_ ?_
      rotate_left
      · intro w'
        go_simp
        with_reducible rfl
      rotate_left
      · simp only [Act.put, List.setIfInBounds_toArray, List.set_cons_zero, List.set_cons_succ, i64_w, i32_w]
        rfl
      refine take_ (i := 1) (N := some 26) (v := ?_) (a' := ?_) #[true, true, true, true, true, false, false, false, false, false] rfl rfl (by kernel_rfl) (fun _ _ _ h => h) (Or.inl ⟨by rfl, ?_⟩) hHeld ?_ ?_
      rotate_left
      · rintro w' ⟨s0, s1⟩
        go_simp
        with_reducible rfl
      rotate_left
      · simp only [Act.put, List.setIfInBounds_toArray, List.set_cons_zero, List.set_cons_succ, i64_w, i32_w]
        rfl
      refine take_ (i := 5) (N := some 30) (v := ?_) (a' := ?_) #[true, true, true, true, true, true, false, false, false, false] rfl rfl (by kernel_rfl) (fun _ _ _ h => h) (Or.inl ⟨by rfl, ?_⟩) hHeld ?_ ?_
      rotate_left
      · rintro w' ⟨s0, s1⟩
        go_simp
        with_reducible rfl
      rotate_left
      · simp only [Act.put, List.setIfInBounds_toArray, List.set_cons_zero, List.set_cons_succ, i64_w, i32_w]
        rfl
      refine one_ (i := 6) (N := some 31) #[true, true, true, true, true, true, true, false, false, false] rfl rfl (by kernel_rfl) (by decide) (fun K hK => ?_)
      refine value_ (w1 := ?_) (v := ?_) (by rfl) rfl ?_ ?_
      rotate_left 2
      · go_simp
        constructor
        · rfl
        · rfl
      refine hK.out _ _ ⟨(hab.cell (p := ⟨bL, 4, none⟩) hlt1).trans u0, (hab.cell (p := ⟨D.blk (.a x), 0, none⟩) hlt2).trans u1⟩ (fun hHeld => ?_)
      clear hK K
      refine norm_ (a' := ?_) ?_ ?_
      rotate_left
      · show Act.put _ (some 31) _ = _
        simp only [Act.put, List.setIfInBounds_toArray, List.set_cons_zero, List.set_cons_succ, i64_w, i32_w]
        rfl
      refine one_ (i := 7) (N := some 32) #[true, true, true, true, true, true, true, true, false, false] rfl rfl (by kernel_rfl) (by decide) (fun K hK => ?_)
      refine Kd.R_append_step ki (w0 := w) w.heap.size (by rfl) (.tmp 26) (.tmp 31) 22 3 (.int .i64 0) 8 rfl Try.underlying22 info3 rfl (by decide) (by decide) (.slice A x c) (row x S.tx) (S.tx x) [.int .i64 (S.tx x)] (fun b => lo ≤ b) (fun _ => False) rfl rfl rfl (fun _ h => h.elim) (fun k hk => by omega) RD.out BD.out hbz (by rw [row_len]; omega) ?_
      intro x1 wA hR6 hB6 hg6 hat6
      obtain ⟨A1, co1, eX, hco1, -⟩ := Kd.R_reads hR6
      rw [List.length_append, row_len, List.length_singleton] at eX
      subst eX
      have F6 := FD.out.move (hg6.block bL hlt1 (fun e => by have := RD.out.1 bL e.symm; omega))
      have q0' : wA.cell? ⟨bL, 4, none⟩ = some (.slice A x c) := F6.cell 4 (by decide)
      have q1' : wA.cell? ⟨D.blk (.a x), 0, none⟩ = some (.int .i64 (S.tx x)) := (cell_same (hg6.block (D.blk (.a x)) hlt2 (fun e => by have h1 := RD.out.1 _ e.symm; have := H.out.lt (.a x) hlt; have := BW.out.size; omega)) 0).trans u1
      have f10 := F6.thaw 4
      have HF6 := Lib.hid F6
      have HR6 := Lib.hid hR6
      have HB6 := Lib.hid hB6
      have HG6 := Lib.hid hg6
      clear hR6 hB6 hg6 hat6 F6
      refine hK.out _ _ ⟨q0', q1'⟩ (fun hHeld => ?_)
      clear hK K
      refine norm_ (a' := ?_) ?_ ?_
      rotate_left
      · show Act.put _ (some 32) _ = _
        simp only [Act.put, List.setIfInBounds_toArray, List.set_cons_zero, List.set_cons_succ, i64_w, i32_w]
        rfl
      refine pure_ (i := 8) (N := some 33) (v := ?_) (a' := ?_) #[true, true, true, true, true, true, true, true, true, false] rfl rfl (by kernel_rfl) (fun _ _ _ h => h) (Or.inl ⟨by rfl, ?_⟩) ?_ ?_
      rotate_left
      · intro w'
        go_simp
        with_reducible rfl
      rotate_left
      · simp only [Act.put, List.setIfInBounds_toArray, List.set_cons_zero, List.set_cons_succ, i64_w, i32_w]
        rfl
      refine last_ (i := 9) (N := none) #[true, true, true, true, true, true, true, true, true, true] rfl rfl (by kernel_rfl) (by decide) (fun K hK => ?_)
      refine skip_ (w1 := ?_) (by rfl) rfl ?_ ?_
      rotate_left
      · go_simp
        rfl
      refine hK.out _ _ ?_
      clear hK K
      refine done_ (by kernel_rfl) ?_
      have nF := Lib.hid (HF6.out.set 4 (by decide) (.slice A1 (x + 1) co1) (g := lgRow VE VC (.slice A1 (x + 1) co1)) rfl (fun m hm hne => by match m with | 0 | 1 | 2 | 3 => rfl | 4 => exact absurd rfl hne | m + 5 => omega))
      have nR := Lib.hid (show ki.R 3 (wA.setCell ⟨bL, 4, none⟩ (.slice A1 (x + 1) co1)) w.heap.size (fun b => lo ≤ b) (.slice A1 (x + 1) co1) (row (x + 1) S.tx) by
        rw [show row (x + 1) S.tx = row x S.tx ++ [S.tx x] by simp [row, List.range_succ]]
        exact Kd.R_step HR6.out (fun b hb hlt => Below.heap_setCell wA _ _ b (by show b ≠ bL; omega)))
      have nB := Lib.hid (HB6.out.setCell (p := ⟨bL, 4, none⟩) (by show w.heap.size ≤ bL; omega) (.slice A1 (x + 1) co1))
      have nK := Lib.hid ((show Kp bL W1 wA from ⟨Nat.le_trans KD.out.1 HG6.out.size, fun b hb hn => (HG6.out.block b (Nat.lt_of_lt_of_le hb KD.out.1) (fun e => by have := RD.out.1 b e.symm; omega)).trans (KD.out.2 b hb hn)⟩).trans (Kp.set bL 4 wA (.slice A1 (x + 1) co1)))
      clear q0' q1' f10 u0 u1 pi hHeld
      go_wp2_with fail
      go_roundw
      case measure => simp [intOf]; omega
      case rel => exact ⟨x + 1, _, hlt, rfl, nF.out, nR.out, nK.out, nB.out⟩
    · have q0 := decide_eq_false (show ¬ (x : Int) < (P.n : Int) by omega)
      obtain rfl : P.n = x := by omega
      have rs : wr.heap[w.heap.size]? = some (.cells #[.int .i64 0, .int .i64 0, .slice none 0 0, .slice none 0 0, .slice none 0 0] 43 (0, 0)) := (hK.2 _ (blk_lt RS.out) (by omega)).trans RS.out
      have r0 := blk_cell rs 0; have r1 := blk_cell rs 1; have r2 := blk_cell rs 2; have r3 := blk_cell rs 3; have r4 := blk_cell rs 4
      simp only [List.getElem?_toArray, List.getElem?_cons_succ, List.getElem?_cons_zero] at r0 r1 r2 r3 r4
      have z0 : ∀ o, wr.frozen? ⟨w.heap.size, o, none⟩ = false := fun o => by simp [World.frozen?, rs]
      have l0 := hF.cell 0 (by decide); have l1 := hF.cell 1 (by decide); have l2 := hF.cell 2 (by decide); have l3 := hF.cell 3 (by decide); have l4 := hF.cell 4 (by decide)
      simp only [lgRow] at l0 l1 l2 l3 l4
      obtain ⟨A3, c3, e3, hc3, -⟩ := Kd.R_reads hR
      rw [row_len] at e3
      subst e3
      obtain ⟨Ae', ce', ee⟩ : ∃ A c, VE = .slice A S.events.length c := by
        obtain ⟨A, c, e, -⟩ := Kd.R_reads H.out.ev
        exact ⟨A, c, VEQ.out.symm.trans e⟩
      subst ee
      have VCQ' := VCQ.out
      subst VCQ'
      have HF := Lib.hid hF; have HR := Lib.hid hR; have HK := Lib.hid hK; have HB := Lib.hid hB; have RSr := Lib.hid rs
      clear hF hR hK hB rs g6 hHeld
      go_wp2_with fail
      obtain ⟨W5, hW5⟩ : ∃ W5, (((((wr.setCell ⟨w.heap.size, 0, none⟩ (.int .i64 0)).setCell ⟨w.heap.size, 1, none⟩ (.int .i64 0)).setCell ⟨w.heap.size, 2, none⟩ (.slice Ae' S.events.length ce')).setCell ⟨w.heap.size, 3, none⟩ (.slice A8 P.nc c8)).setCell ⟨w.heap.size, 4, none⟩ (.slice A3 P.n c3)) = W5 := ⟨_, rfl⟩
      have hb5 : W5.heap[w.heap.size]? = some (.cells #[.int .i64 0, .int .i64 0, .slice Ae' S.events.length ce', .slice A8 P.nc c8, .slice A3 P.n c3] 43 (0, 0)) := by
        rw [← hW5]
        exact blk_set (blk_set (blk_set (blk_set (blk_set RSr.out 0 _) 1 _) 2 _) 3 _) 4 _
      have hs5 : ∀ b, b ≠ w.heap.size → W5.heap[b]? = wr.heap[b]? := fun b hb => by
        rw [← hW5]
        exact (Below.heap_setCell _ _ _ b hb).trans ((Below.heap_setCell _ _ _ b hb).trans ((Below.heap_setCell _ _ _ b hb).trans ((Below.heap_setCell _ _ _ b hb).trans (Below.heap_setCell _ _ _ b hb))))
      have hB5 : Below w.heap.size w W5 := by
        rw [← hW5]
        have hle : w.heap.size ≤ w.heap.size := Nat.le_refl _
        exact ((((HB.out.setCell (p := ⟨w.heap.size, 0, none⟩) hle _).setCell (p := ⟨w.heap.size, 1, none⟩) hle _).setCell (p := ⟨w.heap.size, 2, none⟩) hle _).setCell (p := ⟨w.heap.size, 3, none⟩) hle _).setCell (p := ⟨w.heap.size, 4, none⟩) hle _
      rw [hW5]
      clear hW5
      refine bodyPost_ret (ret43 rfl _ _ w.heap.size _ _ _ _ _ rfl hb5) rfl ?_
      refine ⟨_, _, by rw [VEQ.out], ?_, ?_, hB5⟩
      · rw [HCr.out]
        refine Kd.R_mono (Kd.R_step (Kd.R_lower (Kd.R_bound R8.out) (Nat.le_of_lt hE0)) (fun b hb hlt => (hs5 b (by have := hb.2.1; omega)).trans (HK.out.2 b hb.2.2.1 hb.1))) (fun _ _ => trivial)
      · refine Kd.R_mono (Kd.R_step (Kd.R_bound HR.out) (fun b hb hlt => hs5 b (by have := hb.1; have := BW.out.size; have h1 : w.heap.size < W1.heap.size := blk_lt RS.out; omega))) (fun b hb e => ?_)
        have h1 := (Kd.R_bound R8.out).1 b e.symm
        have h2 := hb.1
        have h3 := h1.2.2.1
        omega
end Go.Proofs.Ytonhmkllfbagmaa.Tx
