/- Transactions: the ledger's free and say. -/
import Derived.Test.YtonhmkllfbagmaaLed
namespace Go.Proofs.Ytonhmkllfbagmaa.Tx
open Go.RowKit Go.Proofs.YtonhmkllfbagmaaW.PrintWords Go.Proofs.YtonhmkllfbagmaaW.PrintLast Go.Proofs.YtonhmkllfbagmaaW.PrintMore Go.Proofs.Ytonhmkllfbagmaa.PFnExactTxFair
set_option linter.unusedVariables false
set_option linter.unusedSimpArgs false
section
variable {P : LPar} {w0 w : World} {D : LDyn} {S : St}
/-- Owners alone have turned, one of them in memory. -/
theorem Led.setO (h : Led P w0 w D S) (k : Nat) (hk : k < P.nc) (x : Int) (f : Nat → Int) (h1 : f k = x) (h2 : ∀ m, m < P.nc → m ≠ k → f m = S.owners m) : Led P w0 (w.setCell ⟨D.blk .o, k, none⟩ (.int .i64 x)) D { S with owners := f } ∧ FrL P w (w.setCell ⟨D.blk .o, k, none⟩ (.int .i64 x)) D D := by
  refine h.cell .o trivial k _ rfl rfl rfl ?_ ?_ h.sw
  · exact Fn.set (h.at_ .o trivial) k hk _ (by show Value.int .i64 (f k) = _; rw [h1]) (fun m hm hne => by show Value.int .i64 (f m) = Value.int .i64 (S.owners m); rw [h2 m hm hne])
  · intro j hj hne
    cases j <;> first | exact absurd rfl hne | rfl | exact fun _ _ => rfl
/-- Nothing in memory turns. -/
theorem Led.same (h : Led P w0 w D S) (S' : St) (hE : S'.events = S.events) (hN : ∀ j, okJ P j → sameJ P D S D S' j) (hsw : ∀ i, i < P.n → S'.started i = true → D.st i = S'.start i ∧ D.wt i = S'.weight i) : Led P w0 w D S' :=
  (h.turn (fun _ => False) h.below (Nat.le_refl _) (fun _ _ _ => rfl) rfl hE (fun _ _ x => x.elim) (fun _ _ _ _ x => x.elim) (fun j hj _ => ⟨rfl, hN j hj⟩) hsw).1
end
set_option maxHeartbeats 8000000 in
set_option maxRecDepth 100000 in
theorem freeL (P : LPar) (w0 w : World) (D : LDyn) (S : St) (i : Nat) (h : Led P w0 w D S) (hnc : P.nc ≤ 1000) :
    Calls Try.prog 64 #[.pointer (some ⟨D.blk .g, 0, none⟩), .int .i64 (i : Int)] w fun e w' => e = .returned (.tuple #[]) ∧ Led P w0 w' D (free S i) ∧ FrL P w w' D D := by
  have g5 := h.g 5 (by decide)
  simp only [gJ] at g5
  have H := Lib.hid h
  clear h
  go_enter Try.func64, Try.ntmps64
  go_wp2_with fail
  go_loopw [11] (fun iv wr => ∃ x : Nat, x ≤ P.nc ∧ iv = .int .i64 (x : Int) ∧ Led P w0 wr D { S with owners := fun c => if c < x then freeO i S.owners c else S.owners c } ∧ FrL P w wr D D) (fun iv _ => P.nc - (intOf iv).toNat)
  case atStart => exact ⟨0, Nat.zero_le _, rfl, by simpa using H.out, FrL.refl P w D⟩
  case round =>
    clear H g5
    obtain ⟨x, hx, rfl, hR, hFr⟩ := hrel
    have H := Lib.hid hR
    have FR := Lib.hid hFr
    clear hR hFr
    have g5 := H.out.g 5 (by decide)
    simp only [gJ] at g5
    by_cases hlt : x < P.nc
    · have q0 := decide_eq_true (show (x : Int) < (P.nc : Int) by omega)
      have hxn := eq_true (show (x : Int) < (P.nc : Int) by omega)
      have o1 := H.out.o x hlt
      have f1 := H.out.thawO x
      simp only [if_neg (Nat.lt_irrefl x)] at o1
      have p1 : IntKind.wrap .i64 ((x : Int) + 1) = (x : Int) + 1 := by rw [i64_w]; unfold wrap64; omega
      have nxt : ∀ wr', Led P w0 wr' D { S with owners := fun c => if c < x + 1 then freeO i S.owners c else S.owners c } → FrL P w wr' D D → ∃ y : Nat, y ≤ P.nc ∧ Value.int .i64 ((x : Int) + 1) = .int .i64 (y : Int) ∧ Led P w0 wr' D { S with owners := fun c => if c < y then freeO i S.owners c else S.owners c } ∧ FrL P w wr' D D := fun wr' hh hf => ⟨x + 1, hlt, rfl, hh, hf⟩
      rcases hk : (S.owners x == (i : Int)) with _ | _
      · have hne : ¬ S.owners x = (i : Int) := by simpa using hk
        have hR2 : Led P w0 wr D { S with owners := fun c => if c < x + 1 then freeO i S.owners c else S.owners c } := by
          have e : (fun c => if c < x + 1 then freeO i S.owners c else S.owners c) = (fun c => if c < x then freeO i S.owners c else S.owners c) := by
            funext c
            by_cases h1 : c = x
            · subst h1; rw [if_pos (by omega), if_neg (by omega)]; unfold freeO; rw [if_neg hne]
            · by_cases h2 : c < x
              · rw [if_pos (by omega), if_pos h2]
              · rw [if_neg (by omega), if_neg h2]
          rw [e]
          exact H.out
        have H2 := Lib.hid hR2
        clear hR2
        go_wp2_with fail
        go_roundw
        case measure => simp [intOf]; omega
        case rel => exact nxt _ H2.out FR.out
      · have hS := H.out.setO x hlt (-1) (fun c => if c < x + 1 then freeO i S.owners c else S.owners c) (by rw [if_pos (by omega)]; unfold freeO; rw [if_pos (by simpa using hk)]) (fun m hm hne => by
          show _ = (if m < x then freeO i S.owners m else S.owners m)
          by_cases h2 : m < x
          · rw [if_pos (by omega), if_pos h2]
          · rw [if_neg (by omega), if_neg h2])
        have H2 := Lib.hid hS
        clear hS
        go_wp2_with fail
        go_roundw
        case measure => simp [intOf]; omega
        case rel => exact nxt _ H2.out.1 (FR.out.trans H2.out.2)
    · have q0 := decide_eq_false (show ¬ (x : Int) < (P.nc : Int) by omega)
      obtain rfl : x = P.nc := by omega
      go_wp2_with fail
      go_end0
      refine ⟨rfl, ?_, FR.out⟩
      refine H.out.same _ rfl (fun j hj => ?_) H.out.sw
      cases j <;> try first | rfl | exact fun _ _ => rfl
      intro m hm
      show Value.int .i64 (freeO i S.owners m) = Value.int .i64 (if m < P.nc then freeO i S.owners m else S.owners m)
      rw [if_pos (show m < P.nc from hm)]
theorem Led.ev_set {P : LPar} {w0 w w' : World} {D : LDyn} {S : St} {V : Value} {evs : List S53} (h : Led P w0 w D S) (hr : k53.R 53 w' w0.heap.size (fun b => ∀ j, okJ P j → b ≠ D.blk j) V evs) (hg : w.grownBy w' D.V.ownBlock) (hB : Below w0.heap.size w0 w') (ha : V.ownBlock = D.V.ownBlock ∨ ∃ b, V.ownBlock = some b ∧ w.heap.size ≤ b) :
    Led P w0 (w'.setCell ⟨D.blk .g, 8, none⟩ V) { D with V := V } { S with events := evs } ∧ FrL P w (w'.setCell ⟨D.blk .g, 8, none⟩ V) D { D with V := V } := by
  have hm : ∀ j, okJ P j → w'.heap[D.blk j]? = w.heap[D.blk j]? := fun j hj => hg.block _ (h.lt j hj) (fun e => (h.Vlt e.symm).2.2 j hj rfl)
  have hgl := h.lt .g trivial
  refine ⟨⟨fun j hj => ?_, h.ge, h.inj, Kd.R_step hr (fun b hb hlt => Below.heap_setCell w' _ V b (hb .g trivial)), h.sw, hB.setCell (p := ⟨D.blk .g, 8, none⟩) (h.ge .g trivial) V⟩, Nat.le_trans hg.size (by simp [World.setCell]), fun b hb ho => ⟨⟨ho.1, ?_⟩, ?_⟩⟩
  · by_cases e : j = .g
    · subst e
      refine Fn.set (Fn.move (h.at_ .g trivial) (hm .g trivial)) 8 (show 8 < 9 by decide) V rfl (fun m hm hne => ?_)
      show gJ P { D with V := V } { S with events := evs } m = gJ P D S m
      match m with
      | 0 | 1 | 2 | 3 | 4 | 5 | 6 | 7 => rfl
      | 8 => exact absurd rfl hne
      | m + 9 => exact absurd hm (by show ¬ m + 9 < 9; omega)
    · refine atJ_move (h.at_ j hj) rfl ((Below.heap_setCell w' _ V _ (h.ne (l := .g) hj trivial e)).trans (hm j hj)) ?_
      cases j <;> first | exact absurd rfl e | rfl | exact fun _ _ => rfl
  · show some b ≠ V.ownBlock
    rcases ha with e | ⟨b2, e, hb2⟩
    · rw [e]; exact ho.2
    · rw [e]
      intro hh
      injection hh with hh
      omega
  · exact (Below.heap_setCell w' _ _ b (ho.1 .g trivial)).trans (hg.block b hb ho.2)
set_option maxHeartbeats 8000000 in
set_option maxRecDepth 100000 in
theorem sayL (P : LPar) (w0 w : World) (D : LDyn) (S : St) (i : Nat) (op cell num : Int) (h : Led P w0 w D S) (hi : i < P.n) (hn : P.n ≤ 1000) (hl : S.events.length ≤ 100000) :
    Calls Try.prog 65 #[.pointer (some ⟨D.blk .g, 0, none⟩), .int .i64 (i : Int), .int .i64 op, .int .i64 cell, .int .i64 num] w fun e w' => e = .returned (.tuple #[]) ∧ ∃ V, Led P w0 w' { D with V := V } (event S i op cell num) ∧ FrL P w w' D { D with V := V } := by
  obtain ⟨Ao, co, eO, hco, hro⟩ := Kd.R_reads h.ev
  have H := Lib.hid h
  have g6 := h.g 6 (by decide); have g8 := h.g 8 (by decide)
  have pi := h.p i hi
  have a0 := h.a i hi 0 (by decide); have a1 := h.a i hi 1 (by decide)
  simp only [gJ, aJ, eO] at g6 g8 a0 a1
  clear h hro
  go_enter Try.func65, Try.ntmps65
  have hin := eq_true (show (i : Int) < (P.n : Int) by omega)
  go_wp2_with fail
  have O := Lib.hid (show k53.R 53 w.drew w0.heap.size (fun b => ∀ j, okJ P j → b ≠ D.blk j) (.slice Ao S.events.length co) S.events by rw [← eO]; exact H.out.ev)
  have B := Lib.hid (show Below w0.heap.size w0 w.drew from below_drew1 H.out.below)
  have u0 : w.drew.cell? ⟨D.blk .g, 8, none⟩ = some (.slice Ao S.events.length co) := g8
  have u1 : w.drew.cell? ⟨D.blk (.a i), 0, none⟩ = some (.int .i64 (S.tx i)) := a0
  have u2 : w.drew.cell? ⟨D.blk (.a i), 1, none⟩ = some (.int .i64 (S.try_ i)) := a1
  have hbz := B.out.size
  have hlt1 : D.blk .g < w.drew.heap.size := H.out.lt .g trivial
  have hlt2 : D.blk (.a i) < w.drew.heap.size := H.out.lt (.a i) hi
  have hab := (Below.refl w.drew.heap.size w.drew).alloc (o := .cells #[.int .i64 (i : Int), .int .i64 (S.tx i), .int .i64 (S.try_ i), .int .i64 op, .int .i64 cell, .int .i64 num] 53) (Nat.le_refl _)
  have HD := Lib.hid (H.out.step (below_drew1 (Below.refl _ w)))
  clear g6 g8 a0 a1 pi
  refine start_ (n := 23) (S := fun w' => w'.cell? ⟨D.blk .g, 8, none⟩ = some (.slice Ao S.events.length co) ∧ w'.cell? ⟨D.blk (.a i), 0, none⟩ = some (.int .i64 (S.tx i)) ∧ w'.cell? ⟨D.blk (.a i), 1, none⟩ = some (.int .i64 (S.try_ i))) (ds := [22]) #[false, false, false, false, false, false, false, false, false, false, false, false, false, false, false, false, false, false, false, false, false, false, false] (by kernel_rfl) rfl rfl ⟨u0, u1, u2⟩ (fun hHeld => ?_)
  refine pure_ (i := 0) (N := some 18) (v := ?_) (a' := ?_) #[true, false, false, false, false, false, false, false, false, false, false, false, false, false, false, false, false, false, false, false, false, false, false] rfl rfl (by kernel_rfl) (fun _ _ _ h => h) (Or.inl ⟨by rfl, ?_⟩) ?_ ?_
  rotate_left
  · intro w'
    go_simp
    with_reducible rfl
  rotate_left
  · simp only [Act.put, List.setIfInBounds_toArray, List.set_cons_zero, List.set_cons_succ, i64_w, i32_w]
    rfl
  refine pure_ (i := 1) (N := some 19) (v := ?_) (a' := ?_) #[true, true, false, false, false, false, false, false, false, false, false, false, false, false, false, false, false, false, false, false, false, false, false] rfl rfl (by kernel_rfl) (fun _ _ _ h => h) (Or.inl ⟨by rfl, ?_⟩) ?_ ?_
  rotate_left
  · intro w'
    go_simp
    with_reducible rfl
  rotate_left
  · simp only [Act.put, List.setIfInBounds_toArray, List.set_cons_zero, List.set_cons_succ, i64_w, i32_w]
    rfl
  refine pure_ (i := 2) (N := some 20) (v := ?_) (a' := ?_) #[true, true, true, false, false, false, false, false, false, false, false, false, false, false, false, false, false, false, false, false, false, false, false] rfl rfl (by kernel_rfl) (fun _ _ _ h => h) (Or.inl ⟨by rfl, ?_⟩) ?_ ?_
  rotate_left
  · intro w'
    go_simp
    with_reducible rfl
  rotate_left
  · simp only [Act.put, List.setIfInBounds_toArray, List.set_cons_zero, List.set_cons_succ, i64_w, i32_w]
    rfl
  refine pure_ (i := 3) (N := some 21) (v := ?_) (a' := ?_) #[true, true, true, true, false, false, false, false, false, false, false, false, false, false, false, false, false, false, false, false, false, false, false] rfl rfl (by kernel_rfl) (fun _ _ _ h => h) (Or.inl ⟨by rfl, ?_⟩) ?_ ?_
  rotate_left
  · intro w'
    go_simp
    with_reducible rfl
  rotate_left
  · simp only [Act.put, List.setIfInBounds_toArray, List.set_cons_zero, List.set_cons_succ, i64_w, i32_w]
    rfl
  refine pure_ (i := 5) (N := some 23) (v := ?_) (a' := ?_) #[true, true, true, true, false, true, false, false, false, false, false, false, false, false, false, false, false, false, false, false, false, false, false] rfl rfl (by kernel_rfl) (fun _ _ _ h => h) (Or.inl ⟨by rfl, ?_⟩) ?_ ?_
  rotate_left
  · intro w'
    go_simp
    with_reducible rfl
  rotate_left
  · simp only [Act.put, List.setIfInBounds_toArray, List.set_cons_zero, List.set_cons_succ, i64_w, i32_w]
    rfl
  refine pure_ (i := 6) (N := some 24) (v := ?_) (a' := ?_) #[true, true, true, true, false, true, true, false, false, false, false, false, false, false, false, false, false, false, false, false, false, false, false] rfl rfl (by kernel_rfl) (fun _ _ _ h => h) (Or.inl ⟨by rfl, ?_⟩) ?_ ?_
  rotate_left
  · intro w'
    go_simp
    with_reducible rfl
  rotate_left
  · simp only [Act.put, List.setIfInBounds_toArray, List.set_cons_zero, List.set_cons_succ, i64_w, i32_w]
    rfl
  refine pure_ (i := 7) (N := some 25) (v := ?_) (a' := ?_) #[true, true, true, true, false, true, true, true, false, false, false, false, false, false, false, false, false, false, false, false, false, false, false] rfl rfl (by kernel_rfl) (fun _ _ _ h => h) (Or.inl ⟨by rfl, ?_⟩) ?_ ?_
  rotate_left
  · intro w'
    go_simp
    with_reducible rfl
  rotate_left
  · simp only [Act.put, List.setIfInBounds_toArray, List.set_cons_zero, List.set_cons_succ, i64_w, i32_w]
    rfl
  refine pure_ (i := 8) (N := some 26) (v := ?_) (a' := ?_) #[true, true, true, true, false, true, true, true, true, false, false, false, false, false, false, false, false, false, false, false, false, false, false] rfl rfl (by kernel_rfl) (fun _ _ _ h => h) (Or.inl ⟨by rfl, ?_⟩) ?_ ?_
  rotate_left
  · intro w'
    go_simp
    with_reducible rfl
  rotate_left
  · simp only [Act.put, List.setIfInBounds_toArray, List.set_cons_zero, List.set_cons_succ, i64_w, i32_w]
    rfl
  refine pure_ (i := 10) (N := some 28) (v := ?_) (a' := ?_) #[true, true, true, true, false, true, true, true, true, false, true, false, false, false, false, false, false, false, false, false, false, false, false] rfl rfl (by kernel_rfl) (fun _ _ _ h => h) (Or.inl ⟨by rfl, ?_⟩) ?_ ?_
  rotate_left
  · intro w'
    go_simp
    with_reducible rfl
  rotate_left
  · simp only [Act.put, List.setIfInBounds_toArray, List.set_cons_zero, List.set_cons_succ, i64_w, i32_w]
    rfl
  refine pure_ (i := 11) (N := some 29) (v := ?_) (a' := ?_) #[true, true, true, true, false, true, true, true, true, false, true, true, false, false, false, false, false, false, false, false, false, false, false] rfl rfl (by kernel_rfl) (fun _ _ _ h => h) (Or.inl ⟨by rfl, ?_⟩) ?_ ?_
  rotate_left
  · intro w'
    go_simp
    with_reducible rfl
  rotate_left
  · simp only [Act.put, List.setIfInBounds_toArray, List.set_cons_zero, List.set_cons_succ, i64_w, i32_w]
    rfl
  refine pure_ (i := 12) (N := some 30) (v := ?_) (a' := ?_) #[true, true, true, true, false, true, true, true, true, false, true, true, true, false, false, false, false, false, false, false, false, false, false] rfl rfl (by kernel_rfl) (fun _ _ _ h => h) (Or.inl ⟨by rfl, ?_⟩) ?_ ?_
  rotate_left
  · intro w'
    go_simp
    with_reducible rfl
  rotate_left
  · simp only [Act.put, List.setIfInBounds_toArray, List.set_cons_zero, List.set_cons_succ, i64_w, i32_w]
    rfl
  refine pure_ (i := 14) (N := some 32) (v := ?_) (a' := ?_) #[true, true, true, true, false, true, true, true, true, false, true, true, true, false, true, false, false, false, false, false, false, false, false] rfl rfl (by kernel_rfl) (fun _ _ _ h => h) (Or.inl ⟨by rfl, ?_⟩) ?_ ?_
  rotate_left
  · intro w'
    go_simp
    with_reducible rfl
  rotate_left
  · simp only [Act.put, List.setIfInBounds_toArray, List.set_cons_zero, List.set_cons_succ, i64_w, i32_w]
    rfl
  refine pure_ (i := 15) (N := some 33) (v := ?_) (a' := ?_) #[true, true, true, true, false, true, true, true, true, false, true, true, true, false, true, true, false, false, false, false, false, false, false] rfl rfl (by kernel_rfl) (fun _ _ _ h => h) (Or.inl ⟨by rfl, ?_⟩) ?_ ?_
  rotate_left
  · intro w'
    go_simp
    with_reducible rfl
  rotate_left
  · simp only [Act.put, List.setIfInBounds_toArray, List.set_cons_zero, List.set_cons_succ, i64_w, i32_w]
    rfl
  refine pure_ (i := 16) (N := some 34) (v := ?_) (a' := ?_) #[true, true, true, true, false, true, true, true, true, false, true, true, true, false, true, true, true, false, false, false, false, false, false] rfl rfl (by kernel_rfl) (fun _ _ _ h => h) (Or.inl ⟨by rfl, ?_⟩) ?_ ?_
  rotate_left
  · intro w'
    go_simp
    with_reducible rfl
  rotate_left
  · simp only [Act.put, List.setIfInBounds_toArray, List.set_cons_zero, List.set_cons_succ, i64_w, i32_w]
    rfl
  refine take_ (i := 4) (N := some 22) (v := ?_) (a' := ?_) #[true, true, true, true, true, true, true, true, true, false, true, true, true, false, true, true, true, false, false, false, false, false, false] rfl rfl (by kernel_rfl) (fun _ _ _ h => h) (Or.inl ⟨by rfl, ?_⟩) hHeld ?_ ?_
  rotate_left
  · rintro w' ⟨s0, s1, s2⟩
    go_simp
    with_reducible rfl
  rotate_left
  · simp only [Act.put, List.setIfInBounds_toArray, List.set_cons_zero, List.set_cons_succ, i64_w, i32_w]
    rfl
  refine take_ (i := 9) (N := some 27) (v := ?_) (a' := ?_) #[true, true, true, true, true, true, true, true, true, true, true, true, true, false, true, true, true, false, false, false, false, false, false] rfl rfl (by kernel_rfl) (fun _ _ _ h => h) (Or.inl ⟨by rfl, ?_⟩) hHeld ?_ ?_
  rotate_left
  · rintro w' ⟨s0, s1, s2⟩
    go_simp
    with_reducible rfl
  rotate_left
  · simp only [Act.put, List.setIfInBounds_toArray, List.set_cons_zero, List.set_cons_succ, i64_w, i32_w]
    rfl
  refine take_ (i := 13) (N := some 31) (v := ?_) (a' := ?_) #[true, true, true, true, true, true, true, true, true, true, true, true, true, true, true, true, true, false, false, false, false, false, false] rfl rfl (by kernel_rfl) (fun _ _ _ h => h) (Or.inl ⟨by rfl, ?_⟩) hHeld ?_ ?_
  rotate_left
  · rintro w' ⟨s0, s1, s2⟩
    go_simp
    with_reducible rfl
  rotate_left
  · simp only [Act.put, List.setIfInBounds_toArray, List.set_cons_zero, List.set_cons_succ, i64_w, i32_w]
    rfl
  refine pure_ (i := 17) (N := some 35) (v := ?_) (a' := ?_) #[true, true, true, true, true, true, true, true, true, true, true, true, true, true, true, true, true, true, false, false, false, false, false] rfl rfl (by kernel_rfl) (fun _ _ _ h => h) (Or.inl ⟨by rfl, ?_⟩) ?_ ?_
  rotate_left
  · intro w'
    go_simp
    with_reducible rfl
  rotate_left
  · simp only [Act.put, List.setIfInBounds_toArray, List.set_cons_zero, List.set_cons_succ, i64_w, i32_w]
    rfl
  refine one_ (i := 18) (N := some 36) #[true, true, true, true, true, true, true, true, true, true, true, true, true, true, true, true, true, true, true, false, false, false, false] rfl rfl (by kernel_rfl) (by decide) (fun K hK => ?_)
  refine value_ (w1 := ?_) (v := ?_) (by rfl) rfl ?_ ?_
  rotate_left 2
  · go_simp
    constructor
    · rfl
    · rfl
  refine hK.out _ _ ⟨(hab.cell (p := ⟨D.blk .g, 8, none⟩) hlt1).trans u0, (hab.cell (p := ⟨D.blk (.a i), 0, none⟩) hlt2).trans u1, (hab.cell (p := ⟨D.blk (.a i), 1, none⟩) hlt2).trans u2⟩ (fun hHeld => ?_)
  clear hK K
  refine norm_ (a' := ?_) ?_ ?_
  rotate_left
  · show Act.put _ (some 36) _ = _
    simp only [Act.put, List.setIfInBounds_toArray, List.set_cons_zero, List.set_cons_succ, i64_w, i32_w]
    rfl
  refine one_ (i := 19) (N := some 37) #[true, true, true, true, true, true, true, true, true, true, true, true, true, true, true, true, true, true, true, true, false, false, false] rfl rfl (by kernel_rfl) (by decide) (fun K hK => ?_)
  refine Kd.R_append_step k53 (w0 := w0) w0.heap.size (by rfl) (.tmp 22) (.tmp 36) 41 53 (.agg #[.int .i64 0, .int .i64 0, .int .i64 0, .int .i64 0, .int .i64 0, .int .i64 0]) 48 rfl Try.underlying41 evInfo rfl (by decide) (by decide) (.slice Ao S.events.length co) S.events ⟨(i : Int), S.tx i, S.try_ i, op, cell, num⟩ _ (fun b => ∀ j, okJ P j → b ≠ D.blk j) (fun _ => False) rfl rfl (k53_mkM w.drew w0.heap.size (fun _ => False) ⟨(i : Int), S.tx i, S.try_ i, op, cell, num⟩) (fun _ h => h.elim) (fun k hk j hj => by have : D.blk j < w.drew.heap.size := H.out.lt j hj; omega) O.out B.out hbz (by omega) ?_
  intro x1 wA hR6 hB6 hg6 hat6
  obtain ⟨A1, co1, eX, hco1, hro1⟩ := Kd.R_reads hR6
  rw [show (S.events ++ [S53.mk (i : Int) (S.tx i) (S.try_ i) op cell num]).length = S.events.length + 1 by simp] at eX
  subst eX
  clear hro1 hco1
  have hsm : ∀ j, okJ P j → wA.heap[D.blk j]? = w.drew.heap[D.blk j]? := fun j hj => hg6.block (D.blk j) (H.out.lt j hj) (fun e => O.out.1 (D.blk j) e.symm j hj rfl)
  have q0 : wA.cell? ⟨D.blk .g, 8, none⟩ = some (.slice Ao S.events.length co) := (cell_same (hsm .g trivial) 8).trans u0
  have q1 : wA.cell? ⟨D.blk (.a i), 0, none⟩ = some (.int .i64 (S.tx i)) := (cell_same (hsm (.a i) hi) 0).trans u1
  have q2 : wA.cell? ⟨D.blk (.a i), 1, none⟩ = some (.int .i64 (S.try_ i)) := (cell_same (hsm (.a i) hi) 1).trans u2
  have f10 := (Fn.move (H.out.at_ .g trivial) (hsm .g trivial)).thaw 8
  refine hK.out _ _ ⟨q0, q1, q2⟩ (fun hHeld => ?_)
  clear hK K
  refine norm_ (a' := ?_) ?_ ?_
  rotate_left
  · show Act.put _ (some 37) _ = _
    simp only [Act.put, List.setIfInBounds_toArray, List.set_cons_zero, List.set_cons_succ, i64_w, i32_w]
    rfl
  refine pure_ (i := 20) (N := some 38) (v := ?_) (a' := ?_) #[true, true, true, true, true, true, true, true, true, true, true, true, true, true, true, true, true, true, true, true, true, false, false] rfl rfl (by kernel_rfl) (fun _ _ _ h => h) (Or.inl ⟨by rfl, ?_⟩) ?_ ?_
  rotate_left
  · intro w'
    go_simp
    with_reducible rfl
  rotate_left
  · simp only [Act.put, List.setIfInBounds_toArray, List.set_cons_zero, List.set_cons_succ, i64_w, i32_w]
    rfl
  refine pure_ (i := 21) (N := some 39) (v := ?_) (a' := ?_) #[true, true, true, true, true, true, true, true, true, true, true, true, true, true, true, true, true, true, true, true, true, true, false] rfl rfl (by kernel_rfl) (fun _ _ _ h => h) (Or.inl ⟨by rfl, ?_⟩) ?_ ?_
  rotate_left
  · intro w'
    go_simp
    with_reducible rfl
  rotate_left
  · simp only [Act.put, List.setIfInBounds_toArray, List.set_cons_zero, List.set_cons_succ, i64_w, i32_w]
    rfl
  refine last_ (i := 22) (N := none) #[true, true, true, true, true, true, true, true, true, true, true, true, true, true, true, true, true, true, true, true, true, true, true] rfl rfl (by kernel_rfl) (by decide) (fun K hK => ?_)
  refine skip_ (w1 := ?_) (by rfl) rfl ?_ ?_
  rotate_left
  · go_simp
    rfl
  refine hK.out _ _ ?_
  clear hK K
  refine done_ (by kernel_rfl) ?_
  go_wp2_with fail
  go_end0
  have hfin := HD.out.ev_set (w' := wA) hR6 (by rw [eO]; exact hg6) hB6 (by rw [eO]; exact hat6)
  exact ⟨rfl, _, hfin.1, (FrL.below D (below_drew1 (Below.refl _ w))).trans hfin.2⟩
end Go.Proofs.Ytonhmkllfbagmaa.Tx
