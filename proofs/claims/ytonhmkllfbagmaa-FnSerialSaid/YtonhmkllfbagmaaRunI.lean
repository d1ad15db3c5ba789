/- Transactions: the reference's l19Begin. -/
import Derived.Test.YtonhmkllfbagmaaRunJ
import Derived.Test.YtonhmkllfbagmaaPFnExactTxFairx6
namespace Go.Proofs.Ytonhmkllfbagmaa.Tx
open Go.RowKit Go.Proofs.YtonhmkllfbagmaaW.PrintWords Go.Proofs.YtonhmkllfbagmaaW.PrintLast Go.Proofs.YtonhmkllfbagmaaW.PrintMore Go.Proofs.Ytonhmkllfbagmaa.PFnExactTxFair
set_option linter.unusedVariables false
set_option linter.unusedSimpArgs false
def st0 (C : List Int) : St := ⟨fun k => C.getD k 0, fun _ => 0, fun _ => -1, fun _ => 0, fun _ => 1, fun _ => false, fun _ => false, fun _ => 0, fun _ => 0, fun _ => 0, fun _ _ => 0, fun _ _ => false, fun _ _ => 0, 0, [], fun _ => 0⟩
theorem copy_f (C : List Int) (h : C.length ≤ 1000) : spec_l12Copy.f C = some C := by
  unfold spec_l12Copy.f
  rw [Option.bind_some, if_pos (by simp; omega), List.nil_append]
/-- The run's block while it is laid. -/
def bRow (AC : Option Addr) (cC nc : Nat) (man : Int) (AT : Option Addr) (n cT b5 c5 b9 c9 : Nat) (VO VT VD : Value) : Nat → Value
  | 0 => .slice AC nc cC
  | 1 => .int .i64 man
  | 2 => .slice AT n cT
  | 3 => .slice (some ⟨b5, 0, none⟩) nc c5
  | 4 => .slice (some ⟨b9, 0, none⟩) nc c9
  | 5 => VO
  | 6 => VT
  | 7 => .int .i64 0
  | 8 => .int .i64 0
  | 9 => .int .i64 0
  | 10 => .slice none 0 0
  | 11 => .slice none 0 0
  | _ => VD
/-- All but one block is as it was. -/
def Kp (g : Nat) (w w' : World) : Prop := w.heap.size ≤ w'.heap.size ∧ ∀ b, b < w.heap.size → b ≠ g → w'.heap[b]? = w.heap[b]?
theorem Kp.refl (g : Nat) (w : World) : Kp g w w := ⟨Nat.le_refl _, fun _ _ _ => rfl⟩
theorem Kp.trans {g : Nat} {w w1 w2 : World} (h : Kp g w w1) (k : Kp g w1 w2) : Kp g w w2 := ⟨Nat.le_trans h.1 k.1, fun b hb hn => (k.2 b (Nat.lt_of_lt_of_le hb h.1) hn).trans (h.2 b hb hn)⟩
theorem Kp.set (g k : Nat) (w : World) (v : Value) : Kp g w (w.setCell ⟨g, k, none⟩ v) := ⟨by simp [World.setCell], fun b _ hn => Below.heap_setCell w _ v b hn⟩
theorem Kp.fn {g : Nat} {w w1 : World} (h : Kp g w w1) {b n : Nat} {t : TypeId} {f : Nat → Value} (hf : Fn w b t n f) (hn : b ≠ g) : Fn w1 b t n f := hf.move (h.2 b hf.lt hn)
def blk0 (g b5 b9 b6 bt bd : Nat) : Ix → Nat
  | .g => g
  | .c => b5
  | .v => b9
  | .o => b6
  | .t => bt
  | .d => bd
  | _ => 0
theorem Run.start {w W : World} {AC AT : Option Addr} {cC nc n cT b5 c5 b9 c9 g b6 c6 bt ct bd cd : Nat} {man : Int} {C : List Int} {s : Nat → Sl × Sl × Sl} (hB : Below w.heap.size w W) (hne : b9 ≠ b5) (h5 : w.heap.size ≤ b5) (h9 : w.heap.size ≤ b9) (h5g : b5 < g) (h9g : b9 < g) (h6 : g < b6) (ht : b6 < bt) (hd : bt < bd)
    (fg : Fn W g 73 13 (bRow AC cC nc man AT n cT b5 c5 b9 c9 (.slice (some ⟨b6, 0, none⟩) nc c6) (.slice (some ⟨bt, 0, none⟩) n ct) (.slice (some ⟨bd, 0, none⟩) n cd))) (fc : Fn W b5 3 nc (fun k => .int .i64 (C.getD k 0))) (fv : Fn W b9 3 nc (fun _ => .int .i64 0)) (fo : Fn W b6 3 nc (fun _ => .int .i64 (-1)))
    (ft : Fn W bt 90 (n * 10) (fun k => t0Row (s (k / 10)).1 (s (k / 10)).2.1 (s (k / 10)).2.2 (k % 10))) (fd : Fn W bd 3 n (fun _ => .int .i64 0)) :
    Run ⟨nc, n, man, .slice AC nc cC, .slice AT n cT, c5, c9, c6, ct, cd⟩ w W ⟨blk0 g b5 b9 b6 bt bd, .slice none 0 0, .slice none 0 0, fun i => (s i).1, fun i => (s i).2.1, fun i => (s i).2.2⟩ (st0 C) := by
  have nb : ∀ {q : Prop} {i : Nat}, (i < n ∧ (st0 C).begun i = true) → q := fun h => by cases h.2
  refine ⟨⟨?_, ?_, ?_⟩, Kd.R_nil _ _ _ _ _, fun i hi hb => (by cases hb), hB⟩
  · intro j hj
    cases j with
    | g => exact fg.ext (fun k hk => by match k with | 0 | 1 | 2 | 3 | 4 | 5 | 6 | 7 | 8 | 9 | 10 | 11 => rfl | k + 12 => rfl)
    | c => exact fc
    | v => exact fv
    | o => exact fo
    | t => exact ft.ext (fun k hk => by
        show tRow _ _ (k / 10) (k % 10) = _
        have : k % 10 < 10 := by omega
        generalize k % 10 = q at this
        match q with
        | 0 | 1 | 2 | 3 | 4 | 5 | 6 | 7 | 8 | 9 => rfl
        | q + 10 => omega)
    | d => exact fd
    | r i => exact nb hj
    | w i => exact nb hj
    | k i => exact nb hj
  · intro j hj
    cases j with
    | r i => exact nb hj
    | w i => exact nb hj
    | k i => exact nb hj
    | _ => simp only [blk0]; omega
  · intro j l hj hl e
    cases j <;> cases l <;> first | rfl | exact nb hj | exact nb hl | (simp only [blk0] at e; omega)
set_option maxHeartbeats 8000000 in
set_option maxRecDepth 100000 in
theorem l19BeginC (w : World) (AC : Option Addr) (cC : Nat) (C : List Int) (man : Int) (AT : Option Addr) (n cT : Nat) (hC : (Kd.int .i64).C w AC C.length C) (hcC : C.length ≤ cC) (h1 : 0 < C.length) (h2 : C.length ≤ 1000) (hn : 0 < n) (hn2 : n ≤ 1000) :
    Calls Try.prog 38 #[.agg #[.slice AC C.length cC, .int .i64 man, .slice AT n cT]] w fun e w' => ∃ P D, e = .returned (.pointer (some ⟨D.blk .g, 0, none⟩)) ∧ P.nc = C.length ∧ P.n = n ∧ P.man = man ∧ P.vT = .slice AT n cT ∧ P.nc ≤ P.cC ∧ P.n ≤ P.cD ∧ Run P w w' D (st0 C) := by
  obtain ⟨nc, hnc⟩ : ∃ nc, C.length = nc := ⟨_, rfl⟩
  have HC := Lib.hid hC; have HNC := Lib.hid hnc
  rw [hnc] at h1 h2 hcC ⊢
  clear hC hnc
  go_enter Try.func38, Try.ntmps38
  go_wp2_with fail
  refine name_w fun E hE => ?_
  have BE := Lib.hid (show Below w.heap.size w E by rw [hE]; exact below_alloc (Below.refl _ _) _)
  have u0 : E.drew.cell? ⟨w.heap.size, 0, none⟩ = some (.slice AC nc cC) := by rw [hE]; exact (blk_cell (heap_alloc_new w _) 0).trans rfl
  have u1 : E.drew.cell? ⟨w.heap.size, 1, none⟩ = some (.int .i64 man) := by rw [hE]; exact (blk_cell (heap_alloc_new w _) 1).trans rfl
  have u2 : E.drew.cell? ⟨w.heap.size, 2, none⟩ = some (.slice AT n cT) := by rw [hE]; exact (blk_cell (heap_alloc_new w _) 2).trans rfl
  have hlb : w.heap.size < E.drew.heap.size := by rw [hE]; exact blk_lt (heap_alloc_new w _)
  clear hE
  have CE := Lib.hid (show (Kd.int .i64).C E.drew AC C.length C from Kd.C_below HC.out (below_drew1 BE.out))
  have hf := copy_f C (by have := HNC.out; omega)
  have cc := fun X (hX : Below E.drew.heap.size E.drew X) => spec_l12Copy.calls AC cC C C X (Kd.C_below CE.out hX) (by have := HNC.out; omega) hf
  rw [HNC.out] at cc
  have CC := Lib.hid cc
  clear cc hf
  have hlbE : ∀ X, Below E.drew.heap.size E.drew X → X.cell? ⟨w.heap.size, 0, none⟩ = some (.slice AC nc cC) ∧ X.cell? ⟨w.heap.size, 1, none⟩ = some (.int .i64 man) ∧ X.cell? ⟨w.heap.size, 2, none⟩ = some (.slice AT n cT) := fun X hX => ⟨(hX.cell (p := ⟨w.heap.size, 0, none⟩) hlb).trans u0, (hX.cell (p := ⟨w.heap.size, 1, none⟩) hlb).trans u1, (hX.cell (p := ⟨w.heap.size, 2, none⟩) hlb).trans u2⟩
  refine start_ (n := 11) (S := fun w' => w'.cell? ⟨w.heap.size, 0, none⟩ = some (.slice AC nc cC) ∧ w'.cell? ⟨w.heap.size, 1, none⟩ = some (.int .i64 man) ∧ w'.cell? ⟨w.heap.size, 2, none⟩ = some (.slice AT n cT)) (ds := []) #[false, false, false, false, false, false, false, false, false, false, false] (by kernel_rfl) rfl rfl ⟨u0, u1, u2⟩ (fun hHeld => ?_)
  refine pure_ (i := 1) (N := some 5) (v := ?_) (a' := ?_) #[false, true, false, false, false, false, false, false, false, false, false] rfl rfl (by kernel_rfl) (fun _ _ _ h => h) (Or.inl ⟨by rfl, ?_⟩) ?_ ?_
  rotate_left
  · intro w'
    go_simp
    with_reducible rfl
  rotate_left
  · simp only [Act.put, List.setIfInBounds_toArray, List.set_cons_zero, List.set_cons_succ, i64_w, i32_w]
    rfl
  refine pure_ (i := 4) (N := some 8) (v := ?_) (a' := ?_) #[false, true, false, false, true, false, false, false, false, false, false] rfl rfl (by kernel_rfl) (fun _ _ _ h => h) (Or.inl ⟨by rfl, ?_⟩) ?_ ?_
  rotate_left
  · intro w'
    go_simp
    with_reducible rfl
  rotate_left
  · simp only [Act.put, List.setIfInBounds_toArray, List.set_cons_zero, List.set_cons_succ, i64_w, i32_w]
    rfl
  refine take_ (i := 0) (N := some 4) (v := ?_) (a' := ?_) #[true, true, false, false, true, false, false, false, false, false, false] rfl rfl (by kernel_rfl) (fun _ _ _ h => h) (Or.inl ⟨by rfl, ?_⟩) hHeld ?_ ?_
  rotate_left
  · rintro w' ⟨s0, s1, s2⟩
    go_simp
    with_reducible rfl
  rotate_left
  · simp only [Act.put, List.setIfInBounds_toArray, List.set_cons_zero, List.set_cons_succ, i64_w, i32_w]
    rfl
  refine take_ (i := 2) (N := some 6) (v := ?_) (a' := ?_) #[true, true, true, false, true, false, false, false, false, false, false] rfl rfl (by kernel_rfl) (fun _ _ _ h => h) (Or.inl ⟨by rfl, ?_⟩) hHeld ?_ ?_
  rotate_left
  · rintro w' ⟨s0, s1, s2⟩
    go_simp
    with_reducible rfl
  rotate_left
  · simp only [Act.put, List.setIfInBounds_toArray, List.set_cons_zero, List.set_cons_succ, i64_w, i32_w]
    rfl
  refine take_ (i := 5) (N := some 9) (v := ?_) (a' := ?_) #[true, true, true, false, true, true, false, false, false, false, false] rfl rfl (by kernel_rfl) (fun _ _ _ h => h) (Or.inl ⟨by rfl, ?_⟩) hHeld ?_ ?_
  rotate_left
  · rintro w' ⟨s0, s1, s2⟩
    go_simp
    with_reducible rfl
  rotate_left
  · simp only [Act.put, List.setIfInBounds_toArray, List.set_cons_zero, List.set_cons_succ, i64_w, i32_w]
    rfl
  refine pure_ (i := 6) (N := some 10) (v := ?_) (a' := ?_) #[true, true, true, false, true, true, true, false, false, false, false] rfl rfl (by kernel_rfl) (fun _ _ _ h => h) (Or.inl ⟨by rfl, ?_⟩) ?_ ?_
  rotate_left
  · intro w'
    go_simp
    with_reducible rfl
  rotate_left
  · simp only [Act.put, List.setIfInBounds_toArray, List.set_cons_zero, List.set_cons_succ, i64_w, i32_w]
    rfl
  refine join_ (σ := Value × Value) 3 #[true, true, true, true, true, true, true, true, false, false, false] (fun s => [(7, s.1), (11, s.2)]) (fun s w' => Below E.drew.heap.size E.drew w' ∧ (Kd.int .i64).R 3 w' E.drew.heap.size (fun _ => True) s.1 C ∧ (Kd.int .i64).R 3 w' E.drew.heap.size (fun b => some b ≠ s.1.ownBlock) s.2 (List.replicate nc 0)) ?_ ?_
  rotate_left
  · intro hCont
    refine two_ (i := 3) (j := 7) (Ni := some 7) (Nj := some 11) #[true, true, true, true, true, true, true, false, false, false, false] #[true, true, true, false, true, true, true, true, false, false, false] rfl rfl rfl rfl (by kernel_rfl) (by decide) (by decide) (fun K hK => ?_) (fun K hK => ?_)
    · skip
      refine goes_ Try.func35 (by kernel_rfl) rfl #[.slice AC nc cC] (by rfl) rfl rfl (by simp only [List.map_toArray, List.map_cons, List.map_nil]; rfl) ?_
      with_reducible refine (CC.out _ (Below.refl E.drew.heap.size E.drew)).mono ?_
      rintro e5 w5 ⟨v5, rfl, hR5, hB5⟩
      refine ⟨_, rfl, ?_⟩
      refine hK.out _ _ ⟨(hlbE _ hB5).1, (hlbE _ hB5).2.1, (hlbE _ hB5).2.2⟩ (fun hHeld => ?_)
      clear hK K
      refine norm_ (a' := ?_) ?_ ?_
      rotate_left
      · show Act.put _ (some 7) _ = _
        simp only [Act.put, List.setIfInBounds_toArray, List.set_cons_zero, List.set_cons_succ, i64_w, i32_w]
        rfl
      refine one_ (i := 7) (N := some 11) #[true, true, true, true, true, true, true, true, false, false, false] rfl rfl (by kernel_rfl) (by decide) (fun K hK => ?_)
      refine Kd.R_make_step (Kd.int .i64) (w0 := E.drew) E.drew.heap.size 3 (by rfl) (N := 11) rfl 22 _ _ rfl (nc : Int) rfl rfl Try.underlying22 (.int .i64 0) 8 info3 rfl (by decide) (by omega) 0 (ok := fun b => w5.heap.size ≤ b) (okp := fun _ => False) rfl (fun _ hk => hk.elim) (Nat.le_refl _) (by omega) (by rw [Int.toNat_natCast]; omega) hB5 (hB5).size ?_
      intro v9 w9 hR9 hB9 hg9 hat9
      rw [Int.toNat_natCast] at hR9
      refine hK.out _ _ ⟨(hlbE _ hB9).1, (hlbE _ hB9).2.1, (hlbE _ hB9).2.2⟩ (fun hHeld => ?_)
      clear hK K
      refine norm_ (a' := ?_) ?_ ?_
      rotate_left
      · show Act.put _ (some 11) _ = _
        simp only [Act.put, List.setIfInBounds_toArray, List.set_cons_zero, List.set_cons_succ, i64_w, i32_w]
        rfl
      exact norm_ (by simp only [putAll, Act.put, List.setIfInBounds_toArray, List.set_cons_zero, List.set_cons_succ]) (hCont (v5, v9) _ ⟨hB9, Kd.R_lower (Kd.R_step hR5 (fun b _ hlt => hg9.block b hlt (by simp))) (Nat.le_refl _), Kd.R_mono hR9 (fun b hb e => by have := ((Kd.R_bound hR5).1 b e.symm).2.2.1; omega)⟩)
    · skip
      refine Kd.R_make_step (Kd.int .i64) (w0 := E.drew) E.drew.heap.size 3 (by rfl) (N := 11) rfl 22 _ _ rfl (nc : Int) rfl rfl Try.underlying22 (.int .i64 0) 8 info3 rfl (by decide) (by omega) 0 (ok := fun b => E.drew.heap.size ≤ b) (okp := fun _ => False) rfl (fun _ hk => hk.elim) (Nat.le_refl _) (by omega) (by rw [Int.toNat_natCast]; omega) (Below.refl E.drew.heap.size E.drew) ((Below.refl E.drew.heap.size E.drew)).size ?_
      intro v9 w9 hR9 hB9 hg9 hat9
      rw [Int.toNat_natCast] at hR9
      refine hK.out _ _ ⟨(hlbE _ hB9).1, (hlbE _ hB9).2.1, (hlbE _ hB9).2.2⟩ (fun hHeld => ?_)
      clear hK K
      refine norm_ (a' := ?_) ?_ ?_
      rotate_left
      · show Act.put _ (some 11) _ = _
        simp only [Act.put, List.setIfInBounds_toArray, List.set_cons_zero, List.set_cons_succ, i64_w, i32_w]
        rfl
      refine one_ (i := 3) (N := some 7) #[true, true, true, true, true, true, true, true, false, false, false] rfl rfl (by kernel_rfl) (by decide) (fun K hK => ?_)
      refine goes_ Try.func35 (by kernel_rfl) rfl #[.slice AC nc cC] (by rfl) rfl rfl (by simp only [List.map_toArray, List.map_cons, List.map_nil]; rfl) ?_
      with_reducible refine (CC.out _ hB9).mono ?_
      rintro e5 w5 ⟨v5, rfl, hR5, hB5⟩
      refine ⟨_, rfl, ?_⟩
      refine hK.out _ _ ⟨(hlbE _ (below_step hB9 hB5)).1, (hlbE _ (below_step hB9 hB5)).2.1, (hlbE _ (below_step hB9 hB5)).2.2⟩ (fun hHeld => ?_)
      clear hK K
      refine norm_ (a' := ?_) ?_ ?_
      rotate_left
      · show Act.put _ (some 7) _ = _
        simp only [Act.put, List.setIfInBounds_toArray, List.set_cons_zero, List.set_cons_succ, i64_w, i32_w]
        rfl
      exact norm_ (by simp only [putAll, Act.put, List.setIfInBounds_toArray, List.set_cons_zero, List.set_cons_succ]) (hCont (v5, v9) _ ⟨below_step hB9 hB5, Kd.R_lower hR5 hB9.size, Kd.R_mono (Kd.R_below (Kd.R_bound hR9) hB5) (fun b hb e => by have := ((Kd.R_bound hR5).1 b e.symm).2.1; have := hb.2.2.1; omega)⟩)
  rintro ⟨v5, v9⟩ wX ⟨hBX, hR5, hR9⟩
  simp only at hR5 hR9
  obtain ⟨b5, c5, e5, hc5, -, hb5, hf5⟩ := fn_int hR5 (by rw [HNC.out]; exact h1)
  obtain ⟨b9, c9, e9, hc9, hne9, hb9, hf9⟩ := fn_int hR9 (by rw [List.length_replicate]; exact h1)
  subst e5 e9
  rw [HNC.out] at hc5 hf5 ⊢
  rw [List.length_replicate] at hc9 hf9 ⊢
  have hne : b9 ≠ b5 := fun e => hne9 (by rw [e]; rfl)
  have hF5 := Lib.hid hf5
  have hF9 := Lib.hid (hf9.ext (g := fun _ => .int .i64 0) (fun k hk => by rw [List.getD_eq_getElem?_getD, List.getElem?_replicate, if_pos hk]; rfl))
  clear hR5 hR9 hne9 hf5 hf9
  have hHeld := hlbE _ hBX
  refine norm_ (a' := ?_) ?_ ?_
  rotate_left
  · simp only [putAll, Act.put, List.setIfInBounds_toArray, List.set_cons_zero, List.set_cons_succ]
    rfl
  refine pure_ (i := 8) (N := some 12) (v := ?_) (a' := ?_) #[true, true, true, true, true, true, true, true, true, false, false] rfl rfl (by kernel_rfl) (fun _ _ _ h => h) (Or.inl ⟨by rfl, ?_⟩) ?_ ?_
  rotate_left
  · intro w'
    go_simp
    with_reducible rfl
  rotate_left
  · simp only [Act.put, List.setIfInBounds_toArray, List.set_cons_zero, List.set_cons_succ, i64_w, i32_w]
    rfl
  refine one_ (i := 9) (N := some 13) #[true, true, true, true, true, true, true, true, true, true, false] rfl rfl (by kernel_rfl) (by decide) (fun K hK => ?_)
  refine value_ (w1 := ?_) (v := ?_) (by rfl) rfl ?_ ?_
  rotate_left 2
  · go_simp
    constructor
    · rfl
    · rfl
  refine hK.out _ _ ⟨(hlbE _ (below_step hBX (below_alloc (Below.refl _ _) _))).1, (hlbE _ (below_step hBX (below_alloc (Below.refl _ _) _))).2.1, (hlbE _ (below_step hBX (below_alloc (Below.refl _ _) _))).2.2⟩ (fun hHeld => ?_)
  clear hK K
  refine norm_ (a' := ?_) ?_ ?_
  rotate_left
  · show Act.put _ (some 13) _ = _
    simp only [Act.put, List.setIfInBounds_toArray, List.set_cons_zero, List.set_cons_succ, i64_w, i32_w]
    rfl
  refine pure_ (i := 10) (N := some 3) (v := ?_) (a' := ?_) #[true, true, true, true, true, true, true, true, true, true, true] rfl rfl (by kernel_rfl) (fun _ _ _ h => h) (Or.inl ⟨by rfl, ?_⟩) ?_ ?_
  rotate_left
  · intro w'
    go_simp
    with_reducible rfl
  rotate_left
  · simp only [Act.put, List.setIfInBounds_toArray, List.set_cons_zero, List.set_cons_succ, i64_w, i32_w]
    rfl
  refine done_ (by kernel_rfl) ?_
  clear hHeld
  obtain ⟨W0, hW0⟩ : ∃ W0, wX.alloc (.cells #[.slice AC nc cC, .int .i64 man, .slice AT n cT, .slice (some ⟨b5, 0, none⟩) nc c5, .slice (some ⟨b9, 0, none⟩) nc c9, .slice none 0 0, .slice none 0 0, .int .i64 0, .int .i64 0, .int .i64 0, .slice none 0 0, .slice none 0 0, .slice none 0 0] 73) = W0 := ⟨_, rfl⟩
  rw [hW0]
  have g0 := hF5.out.lt; have g1 := hF9.out.lt
  obtain ⟨g, hg⟩ : ∃ g, wX.heap.size = g := ⟨_, rfl⟩
  have hbx := hBX.size
  have G0 := Lib.hid (show Fn W0 g 73 13 (bRow AC cC nc man AT n cT b5 c5 b9 c9 (.slice none 0 0) (.slice none 0 0) (.slice none 0 0)) by
    rw [← hW0, ← hg]
    refine Fn.new wX _ 73 13 _ (by simp) (fun k hk => ?_)
    match k with
    | 0 | 1 | 2 | 3 | 4 | 5 | 6 | 7 | 8 | 9 | 10 | 11 | 12 => rfl
    | k + 13 => omega)
  have F5 := Lib.hid (show Fn W0 b5 3 nc (fun k => .int .i64 (C.getD k 0)) by rw [← hW0]; exact hF5.out.below (below_alloc (Below.refl _ _) _))
  have F9 := Lib.hid (show Fn W0 b9 3 nc (fun _ => .int .i64 0) by rw [← hW0]; exact hF9.out.below (below_alloc (Below.refl _ _) _))
  have BW := Lib.hid (show Below w.heap.size w W0 by rw [← hW0]; exact below_alloc (below_step (below_drew1 BE.out) hBX) _)
  have PB := Lib.hid (show W0.cell? ⟨w.heap.size, 0, none⟩ = some (.slice AC nc cC) ∧ W0.cell? ⟨w.heap.size, 1, none⟩ = some (.int .i64 man) ∧ W0.cell? ⟨w.heap.size, 2, none⟩ = some (.slice AT n cT) by rw [← hW0]; exact hlbE _ (below_step hBX (below_alloc (Below.refl _ _) _)))
  have hlg : w.heap.size < g := by omega
  have h5g : b5 < g := by omega
  have h9g : b9 < g := by omega
  have h5w : w.heap.size < b5 := by omega
  have h9w : w.heap.size < b9 := by omega
  try rw [hg]
  clear hW0 hg hlbE hBX u0 u1 u2 hlb hF5 hF9 CC CE BE g0 g1 hbx hb5 hb9
  obtain ⟨pb0, pb1, pb2⟩ := PB.out
  have hgW0 := G0.out.lt
  go_wp2_with fail
  go_loopw [17] (fun iv wr => ∃ (x : Nat) (V : Value), x ≤ nc ∧ iv = .int .i64 (x : Int) ∧ Fn wr g 73 13 (bRow AC cC nc man AT n cT b5 c5 b9 c9 V (.slice none 0 0) (.slice none 0 0)) ∧ (Kd.int .i64).R 3 wr w.heap.size (fun b => W0.heap.size ≤ b) V (List.replicate x (-1 : Int)) ∧ Kp g W0 wr ∧ Below w.heap.size w wr) (fun iv _ => nc - (intOf iv).toNat)
  case atStart => exact ⟨0, .slice none 0 0, Nat.zero_le _, rfl, G0.out, Kd.R_nil _ _ _ _ _, Kp.refl g W0, BW.out⟩
  case round =>
    obtain ⟨x, V, hx, rfl, hF, hR, hK, hB⟩ := hrel
    have F := Lib.hid hF; have R := Lib.hid hR; have K := Lib.hid hK; have B := Lib.hid hB
    have hgl := hF.lt
    have hKs := hK.1
    by_cases hlt : x < nc
    · have q0 := decide_eq_true (show (x : Int) < (nc : Int) by omega)
      have p1 : IntKind.wrap .i64 ((x : Int) + 1) = (x : Int) + 1 := by rw [i64_w]; unfold wrap64; omega
      obtain ⟨A, c, eV, hc, hro⟩ := Kd.R_reads hR
      rw [List.length_replicate] at eV
      have l5 : wr.cell? ⟨g, 5, none⟩ = some (.slice A x c) := by rw [← eV]; exact hF.cell 5 (by decide)
      subst eV
      have hle : (List.replicate x ((-1 : Int)) ++ [(-1 : Int)]).length = x + 1 := by simp
      clear hro hF hR hB hc hK pb0 pb1 pb2
      go_wp2_with ((with_reducible refine gate_builtin (b := .append) (xs := #[.tmp 23, .tmp 24]) rfl ?_); at_builtin; refine Kd.R_append (Kd.int .i64) (w0 := w) w.heap.size rfl (.tmp 23) (.tmp 24) 22 3 (.int .i64 0) 8 rfl Try.underlying22 info3 rfl (by decide) (by decide) (.slice A x c) (List.replicate x ((-1 : Int))) ((-1 : Int)) [.int .i64 (-1)] (fun b => W0.heap.size ≤ b) (fun _ => False) rfl rfl rfl (fun _ h => h.elim) (fun k hk => by omega) R.out B.out B.out.size (by rw [List.length_replicate]; omega) ?_; intro v1 w1 hR1 hB1 hg1 hat1; have hF1 := F.out.move (hg1.block g hgl (fun e => by have := R.out.1 g e.symm; omega)); have f5 := hF1.thaw 5; have m5 : w1.cell? ⟨g, 5, none⟩ = some (.slice A x c) := hF1.cell 5 (by decide); have hK1 : Kp g W0 w1 := ⟨Nat.le_trans hKs hg1.size, fun b hb hn => (hg1.block b (by omega) (fun e => by have := R.out.1 b e.symm; omega)).trans (K.out.2 b hb hn)⟩; obtain ⟨A1, c1, e1, hc1, hro1⟩ := Kd.R_reads hR1; rw [hle] at e1; subst e1; clear hro1 hc1 hg1 hat1)
      have nF := Lib.hid (hF1.set 5 (by decide) (.slice A1 (x + 1) c1) (g := bRow AC cC nc man AT n cT b5 c5 b9 c9 (.slice A1 (x + 1) c1) (.slice none 0 0) (.slice none 0 0)) rfl (fun m hm hne => by match m with | 0 | 1 | 2 | 3 | 4 | 6 | 7 | 8 | 9 | 10 | 11 | 12 => rfl | 5 => exact absurd rfl hne | m + 13 => omega))
      have nR := Lib.hid (show (Kd.int .i64).R 3 (w1.setCell ⟨g, 5, none⟩ (.slice A1 (x + 1) c1)) w.heap.size (fun b => W0.heap.size ≤ b) (.slice A1 (x + 1) c1) (List.replicate (x + 1) ((-1 : Int))) by
        rw [show List.replicate (x + 1) ((-1 : Int)) = List.replicate x ((-1 : Int)) ++ [(-1 : Int)] from List.replicate_succ']
        exact Kd.R_step hR1 (fun b hb hlt => Below.heap_setCell w1 _ _ b (by show b ≠ g; omega)))
      have nB := Lib.hid (hB1.setCell (p := ⟨g, 5, none⟩) (Nat.le_of_lt hlg) (.slice A1 (x + 1) c1))
      have nK := Lib.hid (hK1.trans (Kp.set g 5 w1 (.slice A1 (x + 1) c1)))
      go_roundw
      case measure => simp [intOf]; omega
      case rel => exact ⟨x + 1, _, hlt, rfl, nF.out, nR.out, nK.out, nB.out⟩
    · have q0 := decide_eq_false (show ¬ (x : Int) < (nc : Int) by omega)
      obtain rfl : nc = x := by omega
      obtain ⟨b6, c6, rfl, hc6, hge6, hb6, hf6⟩ := fn_int hR (by rw [List.length_replicate]; exact h1)
      rw [List.length_replicate] at hc6 hf6
      have F6 := Lib.hid (hf6.ext (g := fun _ => .int .i64 (-1)) (fun k hk => by rw [List.getD_eq_getElem?_getD, List.getElem?_replicate, if_pos hk]; rfl))
      have G1 := Lib.hid (show Fn wr g 73 13 (bRow AC cC nc man AT n cT b5 c5 b9 c9 (.slice (some ⟨b6, 0, none⟩) nc c6) (.slice none 0 0) (.slice none 0 0)) by rw [List.length_replicate] at hF; exact hF)
      have hlbW : w.heap.size < W0.heap.size := by omega
      have r2 := (cell_same (hK.2 w.heap.size hlbW (by omega)) 2).trans pb2
      have F5r := Lib.hid (hK.fn F5.out (by omega)); have F9r := Lib.hid (hK.fn F9.out (by omega))
      have h6lt := hf6.lt
      have hlbr : w.heap.size < wr.heap.size := by omega
      clear hf6 hF hR F R q0 pb0 pb1 pb2 F5 F9 hlt
      obtain ⟨W1, hW1⟩ : ∃ W1, wr = W1 := ⟨_, rfl⟩
      have BW1 := Lib.hid hB
      clear hB hK
      rw [hW1] at G1 BW1 r2 F5r F9r h6lt hlbr F6 hgl hKs ⊢
      clear hW1 K B
      go_wp2_with fail
      go_loopw [32] (fun iv wr => ∃ (x : Nat) (V : Value), x ≤ n ∧ iv = .int .i64 (x : Int) ∧ Fn wr g 73 13 (bRow AC cC nc man AT n cT b5 c5 b9 c9 (.slice (some ⟨b6, 0, none⟩) nc c6) V (.slice none 0 0)) ∧ k90.R 90 wr w.heap.size (fun b => W1.heap.size ≤ b) V (List.replicate x tr0) ∧ Kp g W1 wr ∧ Below w.heap.size w wr) (fun iv _ => n - (intOf iv).toNat)
      case atStart => exact ⟨0, .slice none 0 0, Nat.zero_le _, rfl, G1.out, Kd.R_nil _ _ _ _ _, Kp.refl g W1, BW1.out⟩
      case round =>
        obtain ⟨x, V, hx, rfl, hF, hR, hK, hB⟩ := hrel
        have F := Lib.hid hF; have R := Lib.hid hR; have K := Lib.hid hK; have B := Lib.hid hB
        have hgl := hF.lt
        have hKs := hK.1
        by_cases hlt : x < n
        · have q0 := decide_eq_true (show (x : Int) < (n : Int) by omega)
          have p1 : IntKind.wrap .i64 ((x : Int) + 1) = (x : Int) + 1 := by rw [i64_w]; unfold wrap64; omega
          obtain ⟨A, c, eV, hc, hro⟩ := Kd.R_reads hR
          rw [List.length_replicate] at eV
          have l5 : wr.cell? ⟨g, 6, none⟩ = some (.slice A x c) := by rw [← eV]; exact hF.cell 6 (by decide)
          subst eV
          have hle : (List.replicate x (tr0) ++ [tr0]).length = x + 1 := by simp
          clear hro hF hR hB hc hK
          go_wp2_with ((with_reducible refine gate_builtin (b := .append) (xs := #[.tmp 38, .tmp 40]) rfl ?_); at_builtin; refine Kd.R_append k90 (w0 := w) w.heap.size rfl (.tmp 38) (.tmp 40) 71 90 (.agg #[.int .i64 0, .int .i64 0, .bool false, .bool false, .int .i64 0, .int .i64 0, .int .i64 0, .slice none 0 0, .slice none 0 0, .slice none 0 0]) 120 rfl Try.underlying71 info90 rfl (by decide) (by decide) (.slice A x c) (List.replicate x (tr0)) (tr0) [.int .i64 0, .int .i64 1, .bool false, .bool false, .int .i64 0, .int .i64 0, .int .i64 0, .slice none 0 0, .slice none 0 0, .slice none 0 0] (fun b => W1.heap.size ≤ b) (fun _ => False) rfl rfl (tr0_M wr w.heap.size (fun _ => False)) (fun _ h => h.elim) (fun k hk => by omega) R.out B.out B.out.size (by rw [List.length_replicate]; omega) ?_; intro v1 w1 hR1 hB1 hg1 hat1; have hF1 := F.out.move (hg1.block g hgl (fun e => by have := R.out.1 g e.symm; omega)); have f5 := hF1.thaw 6; have m5 : w1.cell? ⟨g, 6, none⟩ = some (.slice A x c) := hF1.cell 6 (by decide); have hK1 : Kp g W1 w1 := ⟨Nat.le_trans hKs hg1.size, fun b hb hn => (hg1.block b (by omega) (fun e => by have := R.out.1 b e.symm; omega)).trans (K.out.2 b hb hn)⟩; obtain ⟨A1, c1, e1, hc1, hro1⟩ := Kd.R_reads hR1; rw [hle] at e1; subst e1; clear hro1 hc1 hg1 hat1)
          have nF := Lib.hid (hF1.set 6 (by decide) (.slice A1 (x + 1) c1) (g := bRow AC cC nc man AT n cT b5 c5 b9 c9 (.slice (some ⟨b6, 0, none⟩) nc c6) (.slice A1 (x + 1) c1) (.slice none 0 0)) rfl (fun m hm hne => by match m with | 0 | 1 | 2 | 3 | 4 | 5 | 7 | 8 | 9 | 10 | 11 | 12 => rfl | 6 => exact absurd rfl hne | m + 13 => omega))
          have nR := Lib.hid (show k90.R 90 (w1.setCell ⟨g, 6, none⟩ (.slice A1 (x + 1) c1)) w.heap.size (fun b => W1.heap.size ≤ b) (.slice A1 (x + 1) c1) (List.replicate (x + 1) (tr0)) by
            rw [show List.replicate (x + 1) (tr0) = List.replicate x (tr0) ++ [tr0] from List.replicate_succ']
            exact Kd.R_step hR1 (fun b hb hlt => Below.heap_setCell w1 _ _ b (by show b ≠ g; omega)))
          have nB := Lib.hid (hB1.setCell (p := ⟨g, 6, none⟩) (Nat.le_of_lt hlg) (.slice A1 (x + 1) c1))
          have nK := Lib.hid (hK1.trans (Kp.set g 6 w1 (.slice A1 (x + 1) c1)))
          go_roundw
          case measure => simp [intOf]; omega
          case rel => exact ⟨x + 1, _, hlt, rfl, nF.out, nR.out, nK.out, nB.out⟩
        · have q0 := decide_eq_false (show ¬ (x : Int) < (n : Int) by omega)
          obtain rfl : n = x := by omega
          obtain ⟨bt, ct, s, rfl, hget, hbt, hft⟩ := fn_tries hR hn
          have FT := Lib.hid hft
          have G2 := Lib.hid (show Fn wr g 73 13 (bRow AC cC nc man AT n cT b5 c5 b9 c9 (.slice (some ⟨b6, 0, none⟩) nc c6) (.slice (some ⟨bt, 0, none⟩) n ct) (.slice none 0 0)) from hF)
          have r3 := (cell_same (hK.2 w.heap.size hlbr (by omega)) 2).trans r2
          have hk5 := F5r.out.lt; have hk9 := F9r.out.lt
          have F5s := Lib.hid (hK.fn F5r.out (by omega)); have F9s := Lib.hid (hK.fn F9r.out (by omega)); have F6s := Lib.hid (hK.fn F6.out (by omega))
          have htlt := hft.lt
          have hlb3 : w.heap.size < wr.heap.size := by omega
          clear hft hF hR F R q0 r2 F5r F9r hlt G1 F6 G0 PB
          obtain ⟨W2, hW2⟩ : ∃ W2, wr = W2 := ⟨_, rfl⟩
          have BW2 := Lib.hid hB
          clear hB hK
          rw [hW2] at G2 BW2 r3 F5s F9s F6s htlt hlb3 FT hgl hKs ⊢
          clear hW2 K B BW1 BW
          go_wp2_with (refine Kd.R_make (Kd.int .i64) (w0 := w) w.heap.size 3 rfl (N := 49) rfl 22 _ _ rfl (n : Int) rfl rfl Try.underlying22 (.int .i64 0) 8 info3 rfl (by decide) (by omega) 0 (ok := fun b => W2.heap.size ≤ b) (okp := fun _ => False) rfl (fun _ hk => hk.elim) (Nat.le_refl _) (by omega) (by omega) BW2.out BW2.out.size ?_; intro v3 w3 hR3 hB3 hg3 hat3; have hF3 := G2.out.move (hg3.block g hgl (by simp)); have f12 := hF3.thaw 12; have m12 : w3.cell? ⟨g, 12, none⟩ = some (.slice none 0 0) := hF3.cell 12 (by decide); obtain ⟨bd, cd, e3, hcd, hgd, hged, hfd⟩ := fn_int hR3 (by rw [List.length_replicate]; omega); rw [List.length_replicate] at hcd hfd e3; rw [Int.toNat_natCast] at hcd hfd e3; subst e3)
          go_ret
          refine ⟨⟨nc, n, man, .slice AC nc cC, .slice AT n cT, c5, c9, c6, ct, cd⟩, _, rfl, rfl, rfl, rfl, rfl, hc5, hcd, Run.start (W := w3.setCell ⟨g, 12, none⟩ (.slice (some ⟨bd, 0, none⟩) n cd)) (g := g) (b5 := b5) (b9 := b9) (b6 := b6) (bt := bt) (bd := bd) (s := s) (C := C) (man := man) (AC := AC) (AT := AT) (cC := cC) (cT := cT) ?_ hne (by omega) (by omega) h5g h9g (by omega) (by omega) (by omega) ?_ ?_ ?_ ?_ ?_ ?_⟩
          · exact hB3.setCell (p := ⟨g, 12, none⟩) (Nat.le_of_lt hlg) _
          · exact hF3.set 12 (by decide) _ rfl (fun m hm hne => by match m with | 0 | 1 | 2 | 3 | 4 | 5 | 6 | 7 | 8 | 9 | 10 | 11 => rfl | 12 => exact absurd rfl hne | m + 13 => omega)
          · exact (F5s.out.move (hg3.block b5 (by omega) (by simp))).far (by show b5 ≠ g; omega) _
          · exact (F9s.out.move (hg3.block b9 (by omega) (by simp))).far (by show b9 ≠ g; omega) _
          · exact (F6s.out.move (hg3.block b6 (by omega) (by simp))).far (by show b6 ≠ g; omega) _
          · exact (FT.out.move (hg3.block bt htlt (by simp))).far (by show bt ≠ g; omega) _
          · exact (hfd.ext (g := fun _ => .int .i64 0) (fun k hk => by rw [List.getD_eq_getElem?_getD, List.getElem?_replicate, if_pos hk]; rfl)).far (by show bd ≠ g; omega) _
end Go.Proofs.Ytonhmkllfbagmaa.Tx
