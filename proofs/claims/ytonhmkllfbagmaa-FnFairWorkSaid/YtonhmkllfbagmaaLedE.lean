/- Transactions: the ledger's read. -/
import Derived.Test.YtonhmkllfbagmaaLedD
namespace Go.Proofs.Ytonhmkllfbagmaa.Tx
open Go.RowKit Go.Proofs.YtonhmkllfbagmaaW.PrintWords Go.Proofs.YtonhmkllfbagmaaW.PrintLast Go.Proofs.YtonhmkllfbagmaaW.PrintMore Go.Proofs.Ytonhmkllfbagmaa.PFnExactTxFair
set_option linter.unusedVariables false
set_option linter.unusedSimpArgs false
section
variable {P : LPar} {w0 w w' : World} {D : LDyn} {S : St}
theorem up2_at {α : Type} (f : Nat → Nat → α) (i c : Nat) (v : α) : up f i (up (f i) c v) i c = v := by rw [up_self, up_self]
theorem up2_in {α : Type} (f : Nat → Nat → α) (i c m : Nat) (v : α) (h : m ≠ c) : up f i (up (f i) c v) i m = f i m := by rw [up_self, up_ne _ _ _ _ h]
theorem up2_out {α : Type} (f : Nat → Nat → α) (i c l : Nat) (v : α) (h : l ≠ i) : up f i (up (f i) c v) l = f l := up_ne _ _ _ _ h
theorem Led.putS (h : Led P w0 w D S) (i : Nat) (hi : i < P.n) (hb : S.begun i = true) (c : Nat) (hc : c < P.nc) (v : Int) (hv : 0 ≤ v) (hM : Mp w' (D.blk (.s i)) (IM.upd (seenF P.nc S i) (c : Int) (.int .i64 v))) (hg : w.grownBy w' (some (D.blk (.s i)))) :
    Led P w0 w' D { S with read := up S.read i (up (S.read i) c v) } ∧ FrL P w w' D D := by
  refine h.turn (fun j => j = .s i) (h.below.grown hg h.below.size (fun k hk => by injection hk with hk; rw [← hk]; exact h.ge (.s i) hi)) hg.size (fun b hb hn => hg.block b hb (fun e => hn (.s i) hi rfl (by injection e))) rfl rfl ?_ (fun j l _ _ e1 e2 _ _ => e1.trans e2.symm) ?_ h.sw
  · rintro j hj rfl
    refine ⟨?_, .inl rfl⟩
    show Mp w' _ (seenF P.nc { S with read := up S.read i (up (S.read i) c v) } i)
    have e : seenF P.nc { S with read := up S.read i (up (S.read i) c v) } i = IM.upd (seenF P.nc S i) (c : Int) (.int .i64 v) := by
      funext x
      unfold seenF IM.upd
      by_cases ex : x = (c : Int)
      · subst ex
        rw [if_pos rfl, if_pos ⟨hb, by omega, by omega, by show 0 ≤ up S.read i (up (S.read i) c v) i (Int.toNat (c : Int)); rw [Int.toNat_natCast, up2_at]; exact hv⟩]
        show some (Value.int .i64 (up S.read i (up (S.read i) c v) i (Int.toNat (c : Int)))) = _
        rw [Int.toNat_natCast, up2_at]
      · rw [if_neg ex]
        by_cases h0 : 0 ≤ x
        · have : x.toNat ≠ c := by omega
          show (if S.begun i = true ∧ 0 ≤ x ∧ x < (P.nc : Int) ∧ 0 ≤ up S.read i (up (S.read i) c v) i x.toNat then some (Value.int .i64 (up S.read i (up (S.read i) c v) i x.toNat)) else none) = _
          rw [up2_in _ _ _ _ _ this]
        · exact (if_neg (fun hh => h0 hh.2.1)).trans (if_neg (fun hh => h0 hh.2.1)).symm
    rw [e]; exact hM
  · intro j hj hn
    refine ⟨rfl, ?_⟩
    cases j <;> first | rfl | exact fun _ _ => rfl | skip
    rename_i l
    have hl : l ≠ i := fun e => hn (by rw [e])
    show seenF P.nc { S with read := up S.read i (up (S.read i) c v) } l = seenF P.nc S l
    unfold seenF
    show (fun x => if S.begun l = true ∧ 0 ≤ x ∧ x < (P.nc : Int) ∧ 0 ≤ up S.read i (up (S.read i) c v) l x.toNat then some (Value.int .i64 (up S.read i (up (S.read i) c v) l x.toNat)) else none) = _
    rw [up2_out _ _ _ _ _ hl]
theorem Led.putK (h : Led P w0 w D S) (i : Nat) (hi : i < P.n) (hb : S.begun i = true) (c : Nat) (hc : c < P.nc) (v : Int) (hM : Mp w' (D.blk (.k i)) (IM.upd (keptF P.nc S i) (c : Int) (.int .i64 v))) (hg : w.grownBy w' (some (D.blk (.k i)))) :
    Led P w0 w' D (put_ S i c v) ∧ FrL P w w' D D := by
  refine h.turn (fun j => j = .k i) (h.below.grown hg h.below.size (fun k hk => by injection hk with hk; rw [← hk]; exact h.ge (.k i) hi)) hg.size (fun b hb hn => hg.block b hb (fun e => hn (.k i) hi rfl (by injection e))) rfl rfl ?_ (fun j l _ _ e1 e2 _ _ => e1.trans e2.symm) ?_ h.sw
  · rintro j hj rfl
    refine ⟨?_, .inl rfl⟩
    show Mp w' _ (keptF P.nc (put_ S i c v) i)
    have e : keptF P.nc (put_ S i c v) i = IM.upd (keptF P.nc S i) (c : Int) (.int .i64 v) := by
      funext x
      unfold keptF IM.upd
      by_cases ex : x = (c : Int)
      · subst ex
        rw [if_pos rfl, if_pos ⟨hb, by omega, by omega, by show up S.wrote i (up (S.wrote i) c true) i (Int.toNat (c : Int)) = true; rw [Int.toNat_natCast, up2_at]⟩]
        show some (Value.int .i64 (up S.kept i (up (S.kept i) c v) i (Int.toNat (c : Int)))) = _
        rw [Int.toNat_natCast, up2_at]
      · rw [if_neg ex]
        by_cases h0 : 0 ≤ x
        · have : x.toNat ≠ c := by omega
          show (if S.begun i = true ∧ 0 ≤ x ∧ x < (P.nc : Int) ∧ up S.wrote i (up (S.wrote i) c true) i x.toNat = true then some (Value.int .i64 (up S.kept i (up (S.kept i) c v) i x.toNat)) else none) = _
          rw [up2_in _ _ _ _ _ this, up2_in _ _ _ _ _ this]
        · exact (if_neg (fun hh => h0 hh.2.1)).trans (if_neg (fun hh => h0 hh.2.1)).symm
    rw [e]; exact hM
  · intro j hj hn
    refine ⟨rfl, ?_⟩
    cases j <;> first | rfl | exact fun _ _ => rfl | skip
    rename_i l
    have hl : l ≠ i := fun e => hn (by rw [e])
    show keptF P.nc (put_ S i c v) l = keptF P.nc S l
    unfold keptF
    show (fun x => if S.begun l = true ∧ 0 ≤ x ∧ x < (P.nc : Int) ∧ up S.wrote i (up (S.wrote i) c true) l x.toNat = true then some (Value.int .i64 (up S.kept i (up (S.kept i) c v) l x.toNat)) else none) = _
    rw [up2_out _ _ _ _ _ hl, up2_out _ _ _ _ _ hl]
end
theorem kept_at (nc : Nat) (S : St) (i c : Nat) (hb : S.begun i = true) (hc : c < nc) : keptF nc S i (c : Int) = if S.wrote i c = true then some (.int .i64 (S.kept i c)) else none := by
  unfold keptF
  rw [Int.toNat_natCast]
  by_cases e : S.wrote i c = true
  · rw [if_pos ⟨hb, by omega, by omega, e⟩, if_pos e]
  · rw [if_neg (fun hh => e hh.2.2.2), if_neg e]
set_option maxHeartbeats 8000000 in
set_option maxRecDepth 100000 in
theorem readL (P : LPar) (w0 w : World) (D : LDyn) (S : St) (i c : Nat) (h : Led P w0 w D S) (hi : i < P.n) (hb : S.begun i = true) (hc : c < P.nc) (hv : 0 ≤ S.vers c) :
    Calls Try.prog 67 #[.pointer (some ⟨D.blk .g, 0, none⟩), .pointer (some ⟨D.blk (.a i), 0, none⟩), .int .i64 (c : Int)] w fun e w' => e = .returned (.int .i64 (see S i c).1) ∧ Led P w0 w' D (see S i c).2 ∧ FrL P w w' D D := by
  have hcn := eq_true (show (c : Int) < (P.nc : Int) by omega)
  have g4 := h.g 4 (by decide); have g3 := h.g 3 (by decide)
  simp only [gJ] at g4 g3
  have a7 := h.a i hi 7 (by decide); have a6 := h.a i hi 6 (by decide)
  simp only [aJ] at a7 a6
  have v1 := h.v c hc; have c1 := h.c c hc
  obtain ⟨nk, hk⟩ := h.k i hi
  obtain ⟨ns, hs⟩ := h.s i hi
  have kf := kept_at P.nc S i c hb hc
  have HK := Lib.hid hk; have HS := Lib.hid hs; have H := Lib.hid h
  clear hk hs h
  rcases hw : S.wrote i c with _ | _
  · have e : see S i c = (S.cells c, { S with read := up S.read i (up (S.read i) c (S.vers c)) }) := by unfold see; rw [if_neg (by rw [hw]; decide)]
    rw [e]
    rw [hw] at kf
    simp only [Bool.false_eq_true, if_false] at kf
    obtain ⟨w1, hup, hM1, hg1⟩ := (IM.MapIs.drew HS.out).update (P := Try.prog) Try.underlying98 Try.underlying3 (c : Int) (.int .i64 (S.vers c))
    have HD := Lib.hid (H.out.step (below_drew1 (Below.refl _ w)))
    have hp := HD.out.putS i hi hb c hc (S.vers c) hv ⟨_, hM1⟩ hg1
    have HP := Lib.hid hp
    have b3 := hp.1.g 3 (by decide)
    simp only [gJ] at b3
    have bc := hp.1.c c hc
    clear hp hM1 hg1
    go_enter Try.func67, Try.ntmps67
    go_wp2_with (at_lookup; refine IM.wp_lookup_ok _ rfl _ _ 98 rfl 3 3 Try.underlying98 Try.underlying3 (Try.zeroValue3 _) (D.blk (.k i)) nk _ rfl HK.out (c : Int) rfl ?_; rw [kf]; simp only [Option.getD_none, Option.isSome_none])
    refine start_ (n := 13) (S := fun w' => w'.cell? ⟨D.blk (.a i), 6, none⟩ = some (.map (some (D.blk (.s i)))) ∧ w'.cell? ⟨D.blk .g, 4, none⟩ = some (.slice (some ⟨D.blk .v, 0, none⟩) P.nc P.cV) ∧ w'.cell? ⟨D.blk .v, c, none⟩ = some (.int .i64 (S.vers c))) (ds := [12]) #[false, false, false, false, false, false, false, false, false, false, false, false, false] (by kernel_rfl) rfl rfl ⟨a6, g4, v1⟩ (fun hHeld => ?_)
    refine pure_ (i := 0) (N := some 20) (v := ?_) (a' := ?_) #[true, false, false, false, false, false, false, false, false, false, false, false, false] rfl rfl (by kernel_rfl) (fun _ _ _ h => h) (Or.inl ⟨by rfl, ?_⟩) ?_ ?_
    rotate_left
    · intro w'
      go_simp
      with_reducible rfl
    rotate_left
    · simp only [Act.put, List.setIfInBounds_toArray, List.set_cons_zero, List.set_cons_succ, i64_w, i32_w]
      rfl
    refine pure_ (i := 1) (N := some 21) (v := ?_) (a' := ?_) #[true, true, false, false, false, false, false, false, false, false, false, false, false] rfl rfl (by kernel_rfl) (fun _ _ _ h => h) (Or.inl ⟨by rfl, ?_⟩) ?_ ?_
    rotate_left
    · intro w'
      go_simp
      with_reducible rfl
    rotate_left
    · simp only [Act.put, List.setIfInBounds_toArray, List.set_cons_zero, List.set_cons_succ, i64_w, i32_w]
      rfl
    refine pure_ (i := 2) (N := some 22) (v := ?_) (a' := ?_) #[true, true, true, false, false, false, false, false, false, false, false, false, false] rfl rfl (by kernel_rfl) (fun _ _ _ h => h) (Or.inl ⟨by rfl, ?_⟩) ?_ ?_
    rotate_left
    · intro w'
      go_simp
      with_reducible rfl
    rotate_left
    · simp only [Act.put, List.setIfInBounds_toArray, List.set_cons_zero, List.set_cons_succ, i64_w, i32_w]
      rfl
    refine pure_ (i := 4) (N := some 24) (v := ?_) (a' := ?_) #[true, true, true, false, true, false, false, false, false, false, false, false, false] rfl rfl (by kernel_rfl) (fun _ _ _ h => h) (Or.inl ⟨by rfl, ?_⟩) ?_ ?_
    rotate_left
    · intro w'
      go_simp
      with_reducible rfl
    rotate_left
    · simp only [Act.put, List.setIfInBounds_toArray, List.set_cons_zero, List.set_cons_succ, i64_w, i32_w]
      rfl
    refine pure_ (i := 5) (N := some 25) (v := ?_) (a' := ?_) #[true, true, true, false, true, true, false, false, false, false, false, false, false] rfl rfl (by kernel_rfl) (fun _ _ _ h => h) (Or.inl ⟨by rfl, ?_⟩) ?_ ?_
    rotate_left
    · intro w'
      go_simp
      with_reducible rfl
    rotate_left
    · simp only [Act.put, List.setIfInBounds_toArray, List.set_cons_zero, List.set_cons_succ, i64_w, i32_w]
      rfl
    refine pure_ (i := 6) (N := some 26) (v := ?_) (a' := ?_) #[true, true, true, false, true, true, true, false, false, false, false, false, false] rfl rfl (by kernel_rfl) (fun _ _ _ h => h) (Or.inl ⟨by rfl, ?_⟩) ?_ ?_
    rotate_left
    · intro w'
      go_simp
      with_reducible rfl
    rotate_left
    · simp only [Act.put, List.setIfInBounds_toArray, List.set_cons_zero, List.set_cons_succ, i64_w, i32_w]
      rfl
    refine pure_ (i := 7) (N := some 27) (v := ?_) (a' := ?_) #[true, true, true, false, true, true, true, true, false, false, false, false, false] rfl rfl (by kernel_rfl) (fun _ _ _ h => h) (Or.inl ⟨by rfl, ?_⟩) ?_ ?_
    rotate_left
    · intro w'
      go_simp
      with_reducible rfl
    rotate_left
    · simp only [Act.put, List.setIfInBounds_toArray, List.set_cons_zero, List.set_cons_succ, i64_w, i32_w]
      rfl
    refine pure_ (i := 9) (N := some 29) (v := ?_) (a' := ?_) #[true, true, true, false, true, true, true, true, false, true, false, false, false] rfl rfl (by kernel_rfl) (fun _ _ _ h => h) (Or.inl ⟨by rfl, ?_⟩) ?_ ?_
    rotate_left
    · intro w'
      go_simp
      with_reducible rfl
    rotate_left
    · simp only [Act.put, List.setIfInBounds_toArray, List.set_cons_zero, List.set_cons_succ, i64_w, i32_w]
      rfl
    refine take_ (i := 3) (N := some 23) (v := ?_) (a' := ?_) #[true, true, true, true, true, true, true, true, false, true, false, false, false] rfl rfl (by kernel_rfl) (fun _ _ _ h => h) (Or.inl ⟨by rfl, ?_⟩) hHeld ?_ ?_
    rotate_left
    · rintro w' ⟨s0, s1, s2⟩
      go_simp
      with_reducible rfl
    rotate_left
    · simp only [Act.put, List.setIfInBounds_toArray, List.set_cons_zero, List.set_cons_succ, i64_w, i32_w]
      rfl
    refine take_ (i := 8) (N := some 28) (v := ?_) (a' := ?_) #[true, true, true, true, true, true, true, true, true, true, false, false, false] rfl rfl (by kernel_rfl) (fun _ _ _ h => h) (Or.inl ⟨by rfl, ?_⟩) hHeld ?_ ?_
    rotate_left
    · rintro w' ⟨s0, s1, s2⟩
      go_simp
      with_reducible rfl
    rotate_left
    · simp only [Act.put, List.setIfInBounds_toArray, List.set_cons_zero, List.set_cons_succ, i64_w, i32_w]
      rfl
    refine pure_ (i := 10) (N := some 30) (v := ?_) (a' := ?_) #[true, true, true, true, true, true, true, true, true, true, true, false, false] rfl rfl (by kernel_rfl) (fun _ _ _ h => h) (Or.inl ⟨by rfl, ?_⟩) ?_ ?_
    rotate_left
    · intro w'
      go_simp
      with_reducible rfl
    rotate_left
    · simp only [Act.put, List.setIfInBounds_toArray, List.set_cons_zero, List.set_cons_succ, i64_w, i32_w]
      rfl
    refine take_ (i := 11) (N := some 31) (v := ?_) (a' := ?_) #[true, true, true, true, true, true, true, true, true, true, true, true, false] rfl rfl (by kernel_rfl) (fun _ _ _ h => h) (Or.inl ⟨by rfl, ?_⟩) hHeld ?_ ?_
    rotate_left
    · rintro w' ⟨s0, s1, s2⟩
      go_simp
      with_reducible rfl
    rotate_left
    · simp only [Act.put, List.setIfInBounds_toArray, List.set_cons_zero, List.set_cons_succ, i64_w, i32_w]
      rfl
    refine last_ (i := 12) (N := none) #[true, true, true, true, true, true, true, true, true, true, true, true, true] rfl rfl (by kernel_rfl) (by decide) (fun K hK => ?_)
    refine skip_ (w1 := ?_) (by rfl) rfl ?_ ?_
    rotate_left
    · go_simp
      rfl
    refine hK.out _ _ ?_
    clear hK K
    refine done_ (by kernel_rfl) ?_
    go_wp2_with fail
    go_ret
    exact ⟨rfl, HP.out.1, (FrL.below D (below_drew1 (Below.refl _ w))).trans HP.out.2⟩
  · have e : see S i c = (S.kept i c, S) := by unfold see; rw [if_pos hw]
    rw [e]
    rw [hw] at kf
    simp only [if_true] at kf
    go_enter Try.func67, Try.ntmps67
    go_wp2_with (first | (at_lookup; refine IM.wp_lookup_ok _ rfl _ _ 98 rfl 3 3 Try.underlying98 Try.underlying3 (Try.zeroValue3 _) (D.blk (.k i)) nk _ rfl HK.out (c : Int) rfl ?_; rw [kf]; simp only [Option.getD_some, Option.isSome_some]))
    go_ret
    exact ⟨rfl, H.out, FrL.refl P w D⟩
end Go.Proofs.Ytonhmkllfbagmaa.Tx
