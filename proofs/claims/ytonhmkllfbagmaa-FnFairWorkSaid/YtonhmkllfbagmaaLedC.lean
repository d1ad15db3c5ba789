/- Transactions: the attempt's again. -/
import Derived.Test.YtonhmkllfbagmaaLedB
namespace Go.Proofs.Ytonhmkllfbagmaa.Tx
open Go.RowKit Go.Proofs.YtonhmkllfbagmaaW.PrintWords Go.Proofs.YtonhmkllfbagmaaW.PrintLast Go.Proofs.YtonhmkllfbagmaaW.PrintMore Go.Proofs.Ytonhmkllfbagmaa.PFnExactTxFair
set_option linter.unusedVariables false
set_option linter.unusedSimpArgs false
/-- What again leaves. -/
def Again (w : World) (b : Nat) (f : Nat → Value) (w' : World) : Prop := ∃ bs bk, w.heap.size ≤ bs ∧ w.heap.size ≤ bk ∧ bs ≠ bk ∧ Mp w' bs (fun _ => none) ∧ Mp w' bk (fun _ => none) ∧
      Fn w' b 100 8 (fun m => if m = 2 then .int .i64 0 else if m = 6 then .map (some bs) else if m = 7 then .map (some bk) else f m) ∧ w.heap.size ≤ w'.heap.size ∧ (∀ c, c < w.heap.size → c ≠ b → w'.heap[c]? = w.heap[c]?) ∧ (∀ base : Nat, base ≤ b → ∀ w0, Below base w0 w → base ≤ w.heap.size → Below base w0 w')
theorem two_maps (w : World) : Mp ((w.alloc (.map #[] 0)).alloc (.map #[] 0)) w.heap.size (fun _ => none) ∧ Mp ((w.alloc (.map #[] 0)).alloc (.map #[] 0)) (w.heap.size + 1) (fun _ => none) ∧ w.heap.size + 1 < ((w.alloc (.map #[] 0)).alloc (.map #[] 0)).heap.size := by
  refine ⟨⟨0, (IM.MapIs.new w).alloc _⟩, ?_, by simp⟩
  have := IM.MapIs.new (w.alloc (.map #[] 0))
  have e : (w.alloc (.map #[] 0)).heap.size = w.heap.size + 1 := by simp
  rw [e] at this
  exact ⟨0, this⟩
set_option maxHeartbeats 8000000 in
set_option maxRecDepth 100000 in
theorem againC (w : World) (b : Nat) (f : Nat → Value) (h : Fn w b 100 8 f) :
    Calls Try.prog 62 #[.pointer (some ⟨b, 0, none⟩)] w fun e w' => e = .returned (.tuple #[]) ∧ Again w b f w' := by
  have hmm := @run_makeMap Try.prog
  have hlt := h.lt
  have hB2 : Below w.heap.size w ((w.alloc (.map #[] 0)).alloc (.map #[] 0)) := below_alloc (below_alloc (Below.refl _ _) _) _
  have h2 := h.below hB2
  have c0 := h2.cell 2 (by decide); have c6 := h2.cell 6 (by decide); have c7 := h2.cell 7 (by decide)
  have z := h2.thaw
  have d0 := h.cell 2 (by decide)
  have zd := h.thaw
  have hs := h.set 2 (by decide) (.int .i64 0) (g := fun m => if m = 2 then .int .i64 0 else f m) (if_pos rfl) (fun m _ hm => if_neg hm)
  have hszs : (w.setCell ⟨b, 2, none⟩ (.int .i64 0)).heap.size = w.heap.size := by simp [World.setCell]
  have hBs : Below (w.setCell ⟨b, 2, none⟩ (.int .i64 0)).heap.size (w.setCell ⟨b, 2, none⟩ (.int .i64 0)) (((w.setCell ⟨b, 2, none⟩ (.int .i64 0)).alloc (.map #[] 0)).alloc (.map #[] 0)) := below_alloc (below_alloc (Below.refl _ _) _) _
  have hs2 := hs.below hBs
  have e6 := hs2.cell 6 (by decide); have e7 := hs2.cell 7 (by decide)
  have ze := hs2.thaw
  simp only [show ¬ (6 : Nat) = 2 by decide, show ¬ (7 : Nat) = 2 by decide, if_false] at e6 e7
  have hs6 := hs.set 6 (by decide) (.map (some w.heap.size)) (g := fun m => if m = 2 then .int .i64 0 else if m = 6 then .map (some w.heap.size) else f m) rfl (fun m _ hm => by simp only [if_neg hm])
  have hBs6 : Below ((w.setCell ⟨b, 2, none⟩ (.int .i64 0)).setCell ⟨b, 6, none⟩ (.map (some w.heap.size))).heap.size ((w.setCell ⟨b, 2, none⟩ (.int .i64 0)).setCell ⟨b, 6, none⟩ (.map (some w.heap.size))) ((((w.setCell ⟨b, 2, none⟩ (.int .i64 0)).setCell ⟨b, 6, none⟩ (.map (some w.heap.size))).alloc (.map #[] 0)).alloc (.map #[] 0)) := below_alloc (below_alloc (Below.refl _ _) _) _
  have h6 := hs6.below hBs6
  have k7 := h6.cell 7 (by decide)
  have zk := h6.thaw
  simp only [show ¬ (7 : Nat) = 2 by decide, show ¬ (7 : Nat) = 6 by decide, if_false] at k7
  have HS6 := Lib.hid hs6
  clear h h2 hs hs2 hB2 hBs hs6 hBs6 h6
  go_enter Try.func62, Try.ntmps62
  go_wp2_with fail
  go_end0
  have hs7 := HS6.out.set 7 (by decide) (.map (some (w.heap.size + 1))) (g := fun m => if m = 2 then .int .i64 0 else if m = 6 then .map (some w.heap.size) else if m = 7 then .map (some (w.heap.size + 1)) else f m) rfl (fun m _ hm => by simp only [if_neg hm])
  have hsm : ∀ c, c ≠ b → (((w.setCell ⟨b, 2, none⟩ (.int .i64 0)).setCell ⟨b, 6, none⟩ (.map (some w.heap.size))).setCell ⟨b, 7, none⟩ (.map (some (w.heap.size + 1)))).heap[c]? = w.heap[c]? := fun c hc => (Below.heap_setCell _ _ _ c hc).trans ((Below.heap_setCell _ _ _ c hc).trans (Below.heap_setCell _ _ _ c hc))
  have hbl : ∀ base : Nat, base ≤ b → ∀ w0, Below base w0 w → Below base w0 (((w.setCell ⟨b, 2, none⟩ (.int .i64 0)).setCell ⟨b, 6, none⟩ (.map (some w.heap.size))).setCell ⟨b, 7, none⟩ (.map (some (w.heap.size + 1)))) := fun base h1 w0 hB => ((hB.setCell (p := ⟨b, 2, none⟩) h1 _).setCell (p := ⟨b, 6, none⟩) h1 _).setCell (p := ⟨b, 7, none⟩) h1 _
  have hsz : (((w.setCell ⟨b, 2, none⟩ (.int .i64 0)).setCell ⟨b, 6, none⟩ (.map (some w.heap.size))).setCell ⟨b, 7, none⟩ (.map (some (w.heap.size + 1)))).heap.size = w.heap.size := by simp [World.setCell]
  obtain ⟨W7, hW7⟩ : ∃ W7, (((w.setCell ⟨b, 2, none⟩ (.int .i64 0)).setCell ⟨b, 6, none⟩ (.map (some w.heap.size))).setCell ⟨b, 7, none⟩ (.map (some (w.heap.size + 1)))) = W7 := ⟨_, rfl⟩
  rw [hW7] at hs7 hsm hbl hsz ⊢
  have hB7 : Below W7.heap.size W7 ((W7.alloc (.map #[] 0)).alloc (.map #[] 0)) := below_alloc (below_alloc (Below.refl _ _) _) _
  have tm := two_maps W7
  rw [hsz] at tm
  refine ⟨rfl, w.heap.size, w.heap.size + 1, Nat.le_refl _, Nat.le_succ _, by omega, tm.1, tm.2.1, hs7.below hB7, by omega, fun c hc hne => (hB7.block c (by omega)).trans (hsm c hne), fun base h1 w0 hB h3 => ?_⟩
  exact ((hbl base h1 w0 hB).alloc (by omega) _).alloc (by simp; omega) _
/-- The blocks that are never laid anew. -/
def KeepD (D D' : LDyn) : Prop := D'.blk .g = D.blk .g ∧ ∀ i, D'.blk (.a i) = D.blk (.a i)
theorem KeepD.refl (D : LDyn) : KeepD D D := ⟨rfl, fun _ => rfl⟩
theorem KeepD.trans {D D1 D2 : LDyn} (h : KeepD D D1) (k : KeepD D1 D2) : KeepD D D2 := ⟨k.1.trans h.1, fun i => (k.2 i).trans (h.2 i)⟩
section
variable {P : LPar} {w0 w w' : World} {D : LDyn} {S : St}
/-- One store into an attempt. -/
theorem Led.setA (h : Led P w0 w D S) (i : Nat) (hi : i < P.n) (f : Nat) (hf : f < 8) (v : Value) (D' : LDyn) (S' : St) (hb : D'.blk = D.blk) (hV : D'.V = D.V) (hE : S'.events = S.events) (h1 : aJ D' S' i f = v) (h2 : ∀ m, m < 8 → m ≠ f → aJ D' S' i m = aJ D S i m)
    (hN : ∀ j, okJ P j → j ≠ .a i → sameJ P D S D' S' j) (hsw : ∀ i, i < P.n → S'.started i = true → D'.st i = S'.start i ∧ D'.wt i = S'.weight i) : Led P w0 (w.setCell ⟨D.blk (.a i), f, none⟩ v) D' S' ∧ FrL P w (w.setCell ⟨D.blk (.a i), f, none⟩ v) D D' := by
  refine h.cell (.a i) hi f v hb hV hE ?_ hN hsw
  show Fn _ (D'.blk (.a i)) 100 8 (aJ D' S' i)
  rw [hb]
  exact Fn.set (h.at_ (.a i) hi) f hf v h1 (fun m hm hne => h2 m hm hne)
theorem seen_off (nc : Nat) (S : St) (i : Nat) (h : S.begun i = false) : seenF nc S i = fun _ => none := by
  funext c; unfold seenF; rw [if_neg (fun hh => by rw [h] at hh; exact absurd hh.1 (by decide))]
theorem kept_off (nc : Nat) (S : St) (i : Nat) (h : S.begun i = false) : keptF nc S i = fun _ => none := by
  funext c; unfold keptF; rw [if_neg (fun hh => by rw [h] at hh; exact absurd hh.1 (by decide))]
def offB (S : St) (i : Nat) : St := { S with begun := up S.begun i false }
theorem Led.again (h : Led P w0 w D S) (i : Nat) (hi : i < P.n) (ha : Again w (D.blk (.a i)) (aJ D S i) w') : ∃ D', KeepD D D' ∧ Led P w0 w' D' (offB S i) ∧ FrL P w w' D D' := by
  obtain ⟨bs, bk, h1, h2, h3, ms, mk, hF, hs, hw, hB⟩ := ha
  have hbi : (offB S i).begun i = false := up_self _ _ _
  have hbo : ∀ l, l ≠ i → (offB S i).begun l = S.begun l := fun l hl => up_ne _ _ _ _ hl
  refine ⟨{ D with blk := fun j => if j = .s i then bs else if j = .k i then bk else D.blk j }, ⟨by simp, fun l => by simp⟩, h.turn (fun j => j = .a i ∨ j = .s i ∨ j = .k i) (hB w0.heap.size (h.ge (.a i) hi) w0 h.below h.below.size) hs (fun b hb hn => hw b hb (hn (.a i) hi (.inl rfl))) rfl rfl ?_ ?_ ?_ h.sw⟩
  · rintro j hj (rfl | rfl | rfl)
    · refine ⟨?_, .inl (by simp)⟩
      show Fn w' _ 100 8 (aJ _ (offB S i) i)
      simp only [reduceCtorEq, if_false]
      refine hF.ext (fun m hm => ?_)
      match m with
      | 0 | 1 | 3 | 4 | 5 => rfl
      | 2 => show Value.int .i64 (opA (offB S i) i) = _; unfold opA; rw [hbi]; rfl
      | 6 => simp [aJ]
      | 7 => simp [aJ]
      | m + 8 => omega
    · refine ⟨?_, .inr (by simpa using h1)⟩
      show Mp w' _ (seenF P.nc (offB S i) i)
      rw [seen_off _ _ _ hbi]
      simpa using ms
    · refine ⟨?_, .inr (by simpa using h2)⟩
      show Mp w' _ (keptF P.nc (offB S i) i)
      rw [kept_off _ _ _ hbi]
      simpa using mk
  · rintro j l hj hl (rfl | rfl | rfl) (rfl | rfl | rfl) hlt e <;> simp at e hlt ⊢
    · have := h.lt (.a i) hi; omega
    · have := h.lt (.a i) hi; omega
    · have := h.lt (.a i) hi; omega
    · exact absurd e h3
    · have := h.lt (.a i) hi; omega
    · exact absurd e.symm h3
  · intro j hj hn
    simp only [not_or] at hn
    refine ⟨by simp [hn.2.1, hn.2.2], ?_⟩
    cases j with
    | g =>
      exact fun m hm => by
        show gJ P _ (offB S i) m = gJ P D S m
        match m with
        | 0 | 1 | 2 | 7 => rfl
        | 3 | 4 | 5 | 6 => simp [gJ]
        | m + 8 => rfl
    | c => exact fun _ _ => rfl
    | v => exact fun _ _ => rfl
    | o => exact fun _ _ => rfl
    | p => exact fun m hm => by show Value.pointer _ = Value.pointer _; simp
    | a l =>
      have hl : l ≠ i := fun e => hn.1 (by rw [e])
      exact fun m hm => by
        show aJ _ (offB S i) l m = aJ D S l m
        match m with
        | 0 | 1 | 3 | 4 | 5 => rfl
        | 2 => show Value.int .i64 (opA (offB S i) l) = Value.int .i64 (opA S l); unfold opA; rw [hbo l hl]; rfl
        | 6 => simp [aJ, hl]
        | m + 7 => simp [aJ, hl]
    | s l =>
      have hl : l ≠ i := fun e => hn.2.1 (by rw [e])
      show seenF P.nc (offB S i) l = seenF P.nc S l
      unfold seenF; rw [hbo l hl]; rfl
    | k l =>
      have hl : l ≠ i := fun e => hn.2.2 (by rw [e])
      show keptF P.nc (offB S i) l = keptF P.nc S l
      unfold keptF; rw [hbo l hl]; rfl
theorem Led.setTry (h : Led P w0 w D S) (i : Nat) (hi : i < P.n) (x : Int) : Led P w0 (w.setCell ⟨D.blk (.a i), 1, none⟩ (.int .i64 x)) D { S with try_ := up S.try_ i x } ∧ FrL P w (w.setCell ⟨D.blk (.a i), 1, none⟩ (.int .i64 x)) D D := by
  refine h.setA i hi 1 (by decide) _ D _ rfl rfl rfl ?_ ?_ ?_ h.sw
  · show Value.int .i64 (up S.try_ i x i) = _; rw [up_self]
  · intro m hm hne
    match m with
    | 0 | 2 | 3 | 4 | 5 | 6 => rfl
    | 1 => exact absurd rfl hne
    | m + 7 => rfl
  · intro j hj hne
    cases j <;> first | rfl | exact fun _ _ => rfl | skip
    rename_i l
    have hl : l ≠ i := fun e => hne (by rw [e])
    intro m hm
    match m with
    | 0 | 2 | 3 | 4 | 5 | 6 => rfl
    | 1 => show Value.int .i64 (up S.try_ i x l) = _; rw [up_ne _ _ _ _ hl]; rfl
    | m + 7 => rfl
end
set_option maxHeartbeats 8000000 in
set_option maxRecDepth 100000 in
theorem giveUpL (P : LPar) (w0 w : World) (D : LDyn) (S : St) (i : Nat) (h : Led P w0 w D S) (hi : i < P.n) (hn : P.n ≤ 1000) (hnc : P.nc ≤ 1000) (hl : S.events.length ≤ 99000) :
    Calls Try.prog 63 #[.pointer (some ⟨D.blk .g, 0, none⟩), .int .i64 (i : Int)] w fun e w' => e = .returned (.tuple #[]) ∧ ∃ D', KeepD D D' ∧ Led P w0 w' D' (giveUp S i) ∧ FrL P w w' D D' := by
  have hin := eq_true (show (i : Int) < (P.n : Int) by omega)
  have cS := sayL P w0 w D S i 4 0 0 h hi hn (by omega)
  go_enter Try.func63, Try.ntmps63
  go_wp2_with fail
  refine cS.mono ?_
  rintro e w1 ⟨rfl, V, h1, k1⟩
  clear cS h
  go_wp2_with fail
  refine (freeL P w0 w1 { D with V := V } _ i h1 hnc).mono ?_
  rintro e w2 ⟨rfl, h2, k2⟩
  have g6 := h2.g 6 (by decide)
  simp only [gJ] at g6
  have pi := h2.p i hi
  have a1 := h2.a i hi 1 (by decide)
  simp only [aJ] at a1
  have z1 := h2.thawA i hi 1
  have p1 : IntKind.wrap .i64 ((free (event S i 4 0 0) i).try_ i + 1) = inc (S.try_ i) := by rw [i64_w]; rfl
  have h3 := h2.setTry i hi (inc (S.try_ i))
  have b6 := h3.1.g 6 (by decide)
  simp only [gJ] at b6
  have bp := h3.1.p i hi
  have H3 := Lib.hid h3; have K12 := Lib.hid (k1.trans k2)
  clear h1 k1 h2 k2 h3
  go_wp2_with fail
  refine (againC _ _ _ (H3.out.1.at_ (.a i) hi)).mono ?_
  rintro e w4 ⟨rfl, ha⟩
  obtain ⟨D4, kd, h4, k4⟩ := H3.out.1.again i hi ha
  go_wp2_with fail
  go_end0
  exact ⟨rfl, D4, kd, h4, (K12.out.trans H3.out.2).trans k4⟩
end Go.Proofs.Ytonhmkllfbagmaa.Tx
