/- Transactions: the reference's event. -/
import Derived.Test.YtonhmkllfbagmaaRun
namespace Go.Proofs.Ytonhmkllfbagmaa.Tx
open Go.RowKit Go.Proofs.YtonhmkllfbagmaaW.PrintWords Go.Proofs.YtonhmkllfbagmaaW.PrintLast Go.Proofs.YtonhmkllfbagmaaW.PrintMore Go.Proofs.Ytonhmkllfbagmaa.PFnExactTxFair
set_option linter.unusedVariables false
set_option linter.unusedSimpArgs false
theorem evInfo : (Try.prog.info? 53).map (fun i => (i.zero, i.size, i.bytes)) = some (some (.agg #[.int .i64 0, .int .i64 0, .int .i64 0, .int .i64 0, .int .i64 0, .int .i64 0]), 6, 48) := by kernel_rfl
theorem Run.t0 {P : Par} {w0 w : World} {D : Dyn} {S : St} (h : Run P w0 w D S) (i : Nat) (hi : i < P.n) : w.cell? ⟨D.blk .t, i * 10, none⟩ = some (tRow D S i 0) := h.t i 0 hi (by decide)
theorem Run.ev_set {P : Par} {w0 w : World} {D : Dyn} {S : St} {V : Value} {evs : List S53} (hL : Lay w w0.heap.size (okS P S) D.blk tyS (szS P) (rowS P D S)) (hR : k53.R 53 w w0.heap.size (fun b => ∀ i, okS P S i → b ≠ D.blk i) V evs) (hi : ∀ i, i < P.n → S.begun i = true → Inn P D i) (hB : Below w0.heap.size w0 w) :
    Run P w0 (w.setCell ⟨D.blk .g, 10, none⟩ V) { D with V := V } { S with events := evs } := by
  refine ⟨?_, Kd.R_step hR (fun b hb hlt => Below.heap_setCell w _ V b (hb .g trivial)), hi, hB.setCell (p := ⟨D.blk .g, 10, none⟩) (hL.ge .g trivial) V⟩
  refine hL.set .g trivial 10 (show 10 < 13 by decide) V (fun j hj => hj) rfl ?_ ?_
  · intro m hm hne
    show gRow P { D with V := V } { S with events := evs } m = gRow P D S m
    match m with
    | 0 | 1 | 2 | 3 | 4 | 5 | 6 | 7 | 8 | 9 => rfl
    | 10 => exact absurd rfl hne
    | 11 | 12 => rfl
    | m + 13 => exact absurd hm (by show ¬ m + 13 < 13; omega)
  · intro j hj hne m hm
    cases j <;> first | rfl | exact absurd rfl hne
set_option maxHeartbeats 8000000 in
set_option maxRecDepth 100000 in
theorem eventC (P : Par) (w0 w : World) (D : Dyn) (S : St) (i : Nat) (op cell num : Int) (h : Run P w0 w D S) (hi : i < P.n) (hn : P.n ≤ 1000) (hl : S.events.length ≤ 100000) :
    Calls Try.prog 61 #[.pointer (some ⟨D.blk .g, 0, none⟩), .int .i64 (i : Int), .int .i64 op, .int .i64 cell, .int .i64 num] w fun e w' => e = .returned (.tuple #[]) ∧ ∃ V, Run P w0 w' { D with V := V } (event S i op cell num) ∧ Fr P w w' D { D with V := V } S (event S i op cell num) := by
  have H := Lib.hid h
  have g6 := h.g 6 (by decide)
  have t0 := h.t0 i hi; have t1 := h.t i 1 hi (by decide); have t2 := h.t i 2 hi (by decide); have t3 := h.t i 3 hi (by decide); have t4 := h.t i 4 hi (by decide); have t5 := h.t i 5 hi (by decide); have t6 := h.t i 6 hi (by decide); have t7 := h.t i 7 hi (by decide); have t8 := h.t i 8 hi (by decide); have t9 := h.t i 9 hi (by decide)
  simp only [gRow, tRow] at g6 t0 t1 t2 t3 t4 t5 t6 t7 t8 t9
  clear h
  go_enter Try.func61, Try.ntmps61
  have hin := eq_true (show (i : Int) < (P.n : Int) by omega)
  go_wp2_with fail
  refine name_w fun E hE => ?_
  have hbE : Below w.heap.size w E := by rw [hE]; exact below_alloc (Below.refl _ _) _
  have x0 : E.cell? ⟨w.heap.size, 0, none⟩ = some (.int .i64 (S.tx i)) := by rw [hE]; exact (blk_cell (heap_alloc_new w _) 0).trans rfl
  have x1 : E.cell? ⟨w.heap.size, 1, none⟩ = some (.int .i64 (S.try_ i)) := by rw [hE]; exact (blk_cell (heap_alloc_new w _) 1).trans rfl
  have hlt0 : w.heap.size < E.heap.size := by rw [hE]; exact blk_lt (heap_alloc_new w _)
  obtain ⟨lb, hLB⟩ : ∃ lb, w.heap.size = lb := ⟨_, rfl⟩
  rw [hLB] at x0 x1 hlt0 ⊢
  have R := Lib.hid (H.out.step hbE)
  have FRE := Lib.hid (Fr.below (P := P) D S hbE)
  have hVb : ∀ b, D.V.ownBlock = some b → b < lb := fun b hb => by have := ((Kd.R_bound H.out.ev).1 b hb).2.2.1; omega
  clear hE hbE H g6 t0 t1 t2 t3 t4 t5 t6 t7 t8 t9
  obtain ⟨Ao, co, eO, hco, hro⟩ := Kd.R_reads R.out.ev
  have u0 : E.drew.cell? ⟨D.blk .g, 10, none⟩ = some (.slice Ao S.events.length co) := by have := R.out.g 10 (by decide); simp only [gRow] at this; rw [eO] at this; exact this
  have u1 : E.drew.cell? ⟨lb, 0, none⟩ = some (.int .i64 (S.tx i)) := x0
  have u2 : E.drew.cell? ⟨lb, 1, none⟩ = some (.int .i64 (S.try_ i)) := x1
  have O := Lib.hid (show k53.R 53 E.drew w0.heap.size (fun b => ∀ i, okS P S i → b ≠ D.blk i) (.slice Ao S.events.length co) S.events by rw [← eO]; exact R.out.ev)
  have B := Lib.hid (show Below w0.heap.size w0 E.drew from below_drew1 R.out.below)
  have hbz := B.out.size
  have hlt1 : D.blk .g < E.drew.heap.size := R.out.lt .g trivial
  have hlt2 : lb < E.drew.heap.size := hlt0
  have hab := (Below.refl E.drew.heap.size E.drew).alloc (o := .cells #[.int .i64 (i : Int), .int .i64 (S.tx i), .int .i64 (S.try_ i), .int .i64 op, .int .i64 cell, .int .i64 num] 53) (Nat.le_refl _)
  clear hro x0 x1
  refine start_ (n := 21) (S := fun w' => w'.cell? ⟨D.blk .g, 10, none⟩ = some (.slice Ao S.events.length co) ∧ w'.cell? ⟨lb, 0, none⟩ = some (.int .i64 (S.tx i)) ∧ w'.cell? ⟨lb, 1, none⟩ = some (.int .i64 (S.try_ i))) (ds := [20]) #[false, false, false, false, false, false, false, false, false, false, false, false, false, false, false, false, false, false, false, false, false] (by kernel_rfl) rfl rfl ⟨u0, u1, u2⟩ (fun hHeld => ?_)
  refine pure_ (i := 0) (N := some 18) (v := ?_) (a' := ?_) #[true, false, false, false, false, false, false, false, false, false, false, false, false, false, false, false, false, false, false, false, false] rfl rfl (by kernel_rfl) (fun _ _ _ h => h) (Or.inl ⟨by rfl, ?_⟩) ?_ ?_
  rotate_left
  · intro w'
    go_simp
    with_reducible rfl
  rotate_left
  · simp only [Act.put, List.setIfInBounds_toArray, List.set_cons_zero, List.set_cons_succ, i64_w, i32_w]
    rfl
  refine pure_ (i := 1) (N := some 19) (v := ?_) (a' := ?_) #[true, true, false, false, false, false, false, false, false, false, false, false, false, false, false, false, false, false, false, false, false] rfl rfl (by kernel_rfl) (fun _ _ _ h => h) (Or.inl ⟨by rfl, ?_⟩) ?_ ?_
  rotate_left
  · intro w'
    go_simp
    with_reducible rfl
  rotate_left
  · simp only [Act.put, List.setIfInBounds_toArray, List.set_cons_zero, List.set_cons_succ, i64_w, i32_w]
    rfl
  refine pure_ (i := 2) (N := some 20) (v := ?_) (a' := ?_) #[true, true, true, false, false, false, false, false, false, false, false, false, false, false, false, false, false, false, false, false, false] rfl rfl (by kernel_rfl) (fun _ _ _ h => h) (Or.inl ⟨by rfl, ?_⟩) ?_ ?_
  rotate_left
  · intro w'
    go_simp
    with_reducible rfl
  rotate_left
  · simp only [Act.put, List.setIfInBounds_toArray, List.set_cons_zero, List.set_cons_succ, i64_w, i32_w]
    rfl
  refine pure_ (i := 3) (N := some 21) (v := ?_) (a' := ?_) #[true, true, true, true, false, false, false, false, false, false, false, false, false, false, false, false, false, false, false, false, false] rfl rfl (by kernel_rfl) (fun _ _ _ h => h) (Or.inl ⟨by rfl, ?_⟩) ?_ ?_
  rotate_left
  · intro w'
    go_simp
    with_reducible rfl
  rotate_left
  · simp only [Act.put, List.setIfInBounds_toArray, List.set_cons_zero, List.set_cons_succ, i64_w, i32_w]
    rfl
  refine pure_ (i := 4) (N := some 22) (v := ?_) (a' := ?_) #[true, true, true, true, true, false, false, false, false, false, false, false, false, false, false, false, false, false, false, false, false] rfl rfl (by kernel_rfl) (fun _ _ _ h => h) (Or.inl ⟨by rfl, ?_⟩) ?_ ?_
  rotate_left
  · intro w'
    go_simp
    with_reducible rfl
  rotate_left
  · simp only [Act.put, List.setIfInBounds_toArray, List.set_cons_zero, List.set_cons_succ, i64_w, i32_w]
    rfl
  refine pure_ (i := 6) (N := some 24) (v := ?_) (a' := ?_) #[true, true, true, true, true, false, true, false, false, false, false, false, false, false, false, false, false, false, false, false, false] rfl rfl (by kernel_rfl) (fun _ _ _ h => h) (Or.inl ⟨by rfl, ?_⟩) ?_ ?_
  rotate_left
  · intro w'
    go_simp
    with_reducible rfl
  rotate_left
  · simp only [Act.put, List.setIfInBounds_toArray, List.set_cons_zero, List.set_cons_succ, i64_w, i32_w]
    rfl
  refine pure_ (i := 7) (N := some 25) (v := ?_) (a' := ?_) #[true, true, true, true, true, false, true, true, false, false, false, false, false, false, false, false, false, false, false, false, false] rfl rfl (by kernel_rfl) (fun _ _ _ h => h) (Or.inl ⟨by rfl, ?_⟩) ?_ ?_
  rotate_left
  · intro w'
    go_simp
    with_reducible rfl
  rotate_left
  · simp only [Act.put, List.setIfInBounds_toArray, List.set_cons_zero, List.set_cons_succ, i64_w, i32_w]
    rfl
  refine pure_ (i := 9) (N := some 27) (v := ?_) (a' := ?_) #[true, true, true, true, true, false, true, true, false, true, false, false, false, false, false, false, false, false, false, false, false] rfl rfl (by kernel_rfl) (fun _ _ _ h => h) (Or.inl ⟨by rfl, ?_⟩) ?_ ?_
  rotate_left
  · intro w'
    go_simp
    with_reducible rfl
  rotate_left
  · simp only [Act.put, List.setIfInBounds_toArray, List.set_cons_zero, List.set_cons_succ, i64_w, i32_w]
    rfl
  refine pure_ (i := 11) (N := some 29) (v := ?_) (a' := ?_) #[true, true, true, true, true, false, true, true, false, true, false, true, false, false, false, false, false, false, false, false, false] rfl rfl (by kernel_rfl) (fun _ _ _ h => h) (Or.inl ⟨by rfl, ?_⟩) ?_ ?_
  rotate_left
  · intro w'
    go_simp
    with_reducible rfl
  rotate_left
  · simp only [Act.put, List.setIfInBounds_toArray, List.set_cons_zero, List.set_cons_succ, i64_w, i32_w]
    rfl
  refine pure_ (i := 12) (N := some 30) (v := ?_) (a' := ?_) #[true, true, true, true, true, false, true, true, false, true, false, true, true, false, false, false, false, false, false, false, false] rfl rfl (by kernel_rfl) (fun _ _ _ h => h) (Or.inl ⟨by rfl, ?_⟩) ?_ ?_
  rotate_left
  · intro w'
    go_simp
    with_reducible rfl
  rotate_left
  · simp only [Act.put, List.setIfInBounds_toArray, List.set_cons_zero, List.set_cons_succ, i64_w, i32_w]
    rfl
  refine pure_ (i := 13) (N := some 31) (v := ?_) (a' := ?_) #[true, true, true, true, true, false, true, true, false, true, false, true, true, true, false, false, false, false, false, false, false] rfl rfl (by kernel_rfl) (fun _ _ _ h => h) (Or.inl ⟨by rfl, ?_⟩) ?_ ?_
  rotate_left
  · intro w'
    go_simp
    with_reducible rfl
  rotate_left
  · simp only [Act.put, List.setIfInBounds_toArray, List.set_cons_zero, List.set_cons_succ, i64_w, i32_w]
    rfl
  refine take_ (i := 5) (N := some 23) (v := ?_) (a' := ?_) #[true, true, true, true, true, true, true, true, false, true, false, true, true, true, false, false, false, false, false, false, false] rfl rfl (by kernel_rfl) (fun _ _ _ h => h) (Or.inl ⟨by rfl, ?_⟩) hHeld ?_ ?_
  rotate_left
  · rintro w' ⟨s0, s1, s2⟩
    go_simp
    with_reducible rfl
  rotate_left
  · simp only [Act.put, List.setIfInBounds_toArray, List.set_cons_zero, List.set_cons_succ, i64_w, i32_w]
    rfl
  refine take_ (i := 8) (N := some 26) (v := ?_) (a' := ?_) #[true, true, true, true, true, true, true, true, true, true, false, true, true, true, false, false, false, false, false, false, false] rfl rfl (by kernel_rfl) (fun _ _ _ h => h) (Or.inl ⟨by rfl, ?_⟩) hHeld ?_ ?_
  rotate_left
  · rintro w' ⟨s0, s1, s2⟩
    go_simp
    with_reducible rfl
  rotate_left
  · simp only [Act.put, List.setIfInBounds_toArray, List.set_cons_zero, List.set_cons_succ, i64_w, i32_w]
    rfl
  refine take_ (i := 10) (N := some 28) (v := ?_) (a' := ?_) #[true, true, true, true, true, true, true, true, true, true, true, true, true, true, false, false, false, false, false, false, false] rfl rfl (by kernel_rfl) (fun _ _ _ h => h) (Or.inl ⟨by rfl, ?_⟩) hHeld ?_ ?_
  rotate_left
  · rintro w' ⟨s0, s1, s2⟩
    go_simp
    with_reducible rfl
  rotate_left
  · simp only [Act.put, List.setIfInBounds_toArray, List.set_cons_zero, List.set_cons_succ, i64_w, i32_w]
    rfl
  refine pure_ (i := 14) (N := some 32) (v := ?_) (a' := ?_) #[true, true, true, true, true, true, true, true, true, true, true, true, true, true, true, false, false, false, false, false, false] rfl rfl (by kernel_rfl) (fun _ _ _ h => h) (Or.inl ⟨by rfl, ?_⟩) ?_ ?_
  rotate_left
  · intro w'
    go_simp
    with_reducible rfl
  rotate_left
  · simp only [Act.put, List.setIfInBounds_toArray, List.set_cons_zero, List.set_cons_succ, i64_w, i32_w]
    rfl
  refine one_ (i := 15) (N := some 33) #[true, true, true, true, true, true, true, true, true, true, true, true, true, true, true, true, false, false, false, false, false] rfl rfl (by kernel_rfl) (by decide) (fun K hK => ?_)
  refine value_ (w1 := ?_) (v := ?_) (by rfl) rfl ?_ ?_
  rotate_left 2
  · go_simp
    constructor
    · rfl
    · rfl
  refine hK.out _ _ ⟨(hab.cell (p := ⟨D.blk .g, 10, none⟩) hlt1).trans u0, (hab.cell (p := ⟨lb, 0, none⟩) hlt2).trans u1, (hab.cell (p := ⟨lb, 1, none⟩) hlt2).trans u2⟩ (fun hHeld => ?_)
  clear hK K
  refine norm_ (a' := ?_) ?_ ?_
  rotate_left
  · show Act.put _ (some 33) _ = _
    simp only [Act.put, List.setIfInBounds_toArray, List.set_cons_zero, List.set_cons_succ, i64_w, i32_w]
    rfl
  refine one_ (i := 16) (N := some 34) #[true, true, true, true, true, true, true, true, true, true, true, true, true, true, true, true, true, false, false, false, false] rfl rfl (by kernel_rfl) (by decide) (fun K hK => ?_)
  refine Kd.R_append_step k53 (w0 := w0) w0.heap.size (by rfl) (.tmp 23) (.tmp 33) 41 53 (.agg #[.int .i64 0, .int .i64 0, .int .i64 0, .int .i64 0, .int .i64 0, .int .i64 0]) 48 rfl Try.underlying41 evInfo rfl (by decide) (by decide) (.slice Ao S.events.length co) S.events ⟨(i : Int), S.tx i, S.try_ i, op, cell, num⟩ _ (fun b => ∀ i, okS P S i → b ≠ D.blk i) (fun _ => False) rfl rfl (k53_mkM E.drew w0.heap.size (fun _ => False) ⟨(i : Int), S.tx i, S.try_ i, op, cell, num⟩) (fun _ h => h.elim) (fun k hk j hj => by have : D.blk j < E.drew.heap.size := R.out.lt j hj; omega) O.out B.out hbz (by omega) ?_
  intro x1 wA hR6 hB6 hg6 hat6
  obtain ⟨A1, co1, eX, hco1, hro1⟩ := Kd.R_reads hR6
  rw [show (S.events ++ [S53.mk (i : Int) (S.tx i) (S.try_ i) op cell num]).length = S.events.length + 1 by simp] at eX
  subst eX
  clear hro1 hco1
  have L6 := Lib.hid (show Lay wA w0.heap.size (okS P S) D.blk tyS (szS P) (rowS P D S) from R.out.lay.move (w' := wA) (fun j hj => hg6.block (D.blk j) (R.out.lt j hj) (fun e => O.out.1 (D.blk j) e.symm j hj rfl)))
  have q0 : wA.cell? ⟨D.blk .g, 10, none⟩ = some (.slice Ao S.events.length co) := by have := (L6.out.at_ .g trivial).cell 10 (show 10 < 13 by decide); simp only [rowS, gRow] at this; rw [eO] at this; exact this
  have hne : some lb ≠ Value.ownBlock (.slice Ao S.events.length co) := fun e => by have := hVb lb (by rw [eO]; exact e.symm); omega
  have hsm := hg6.block lb hlt2 hne
  have q1 : wA.cell? ⟨lb, 0, none⟩ = some (.int .i64 (S.tx i)) := (cell_same hsm 0).trans u1
  have q2 : wA.cell? ⟨lb, 1, none⟩ = some (.int .i64 (S.try_ i)) := (cell_same hsm 1).trans u2
  have f10 := (L6.out.at_ .g trivial).thaw 10
  refine hK.out _ _ ⟨q0, q1, q2⟩ (fun hHeld => ?_)
  clear hK K
  refine norm_ (a' := ?_) ?_ ?_
  rotate_left
  · show Act.put _ (some 34) _ = _
    simp only [Act.put, List.setIfInBounds_toArray, List.set_cons_zero, List.set_cons_succ, i64_w, i32_w]
    rfl
  refine pure_ (i := 17) (N := some 35) (v := ?_) (a' := ?_) #[true, true, true, true, true, true, true, true, true, true, true, true, true, true, true, true, true, true, false, false, false] rfl rfl (by kernel_rfl) (fun _ _ _ h => h) (Or.inl ⟨by rfl, ?_⟩) ?_ ?_
  rotate_left
  · intro w'
    go_simp
    with_reducible rfl
  rotate_left
  · simp only [Act.put, List.setIfInBounds_toArray, List.set_cons_zero, List.set_cons_succ, i64_w, i32_w]
    rfl
  refine pure_ (i := 18) (N := some 36) (v := ?_) (a' := ?_) #[true, true, true, true, true, true, true, true, true, true, true, true, true, true, true, true, true, true, true, false, false] rfl rfl (by kernel_rfl) (fun _ _ _ h => h) (Or.inl ⟨by rfl, ?_⟩) ?_ ?_
  rotate_left
  · intro w'
    go_simp
    with_reducible rfl
  rotate_left
  · simp only [Act.put, List.setIfInBounds_toArray, List.set_cons_zero, List.set_cons_succ, i64_w, i32_w]
    rfl
  refine pure_ (i := 19) (N := some 37) (v := ?_) (a' := ?_) #[true, true, true, true, true, true, true, true, true, true, true, true, true, true, true, true, true, true, true, true, false] rfl rfl (by kernel_rfl) (fun _ _ _ h => h) (Or.inl ⟨by rfl, ?_⟩) ?_ ?_
  rotate_left
  · intro w'
    go_simp
    with_reducible rfl
  rotate_left
  · simp only [Act.put, List.setIfInBounds_toArray, List.set_cons_zero, List.set_cons_succ, i64_w, i32_w]
    rfl
  refine last_ (i := 20) (N := none) #[true, true, true, true, true, true, true, true, true, true, true, true, true, true, true, true, true, true, true, true, true] rfl rfl (by kernel_rfl) (by decide) (fun K hK => ?_)
  refine skip_ (w1 := ?_) (by rfl) rfl ?_ ?_
  rotate_left
  · go_simp
    rfl
  refine hK.out _ _ ?_
  clear hK K
  refine done_ (by kernel_rfl) ?_
  go_wp2_with fail
  go_end0
  refine ⟨rfl, _, Run.ev_set L6.out hR6 R.out.inn hB6, FRE.out.trans ?_⟩
  refine ⟨Nat.le_trans hg6.size (by simp [World.setCell]), fun b hb ho => ⟨⟨ho.1, ?_⟩, ?_⟩⟩
  · show some b ≠ Value.ownBlock (.slice A1 (S.events.length + 1) co1)
    rcases hat6 with e | ⟨b2, e, hb2⟩
    · rw [e, ← eO]
      exact ho.2
    · rw [e]
      intro hh
      injection hh with hh
      have : b < E.drew.heap.size := hb
      omega
  · refine (Below.heap_setCell wA _ _ b (ho.1 .g trivial)).trans ?_
    exact hg6.block b hb (by rw [← eO]; exact ho.2)
end Go.Proofs.Ytonhmkllfbagmaa.Tx
