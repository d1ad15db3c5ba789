/- Tokens: a number's lexeme, the program's. -/
import Derived.Test.YtgiaogocdihhhaaDoorTokJ
import Derived.Test.YtgiaogocdihhhaaDoorTokN
namespace Go.Proofs.YtgiaogocdihhhaaDoor.Tex
open Go.RowKit Go.Proofs.YtgiaogocdihhhaaDoorW.PrintWords Go.Proofs.YtgiaogocdihhhaaDoorW.PrintLast Go.Proofs.YtgiaogocdihhhaaDoorW.PrintMore Go.Proofs.YtgiaogocdihhhaaDoor.PFnExactTokens
set_option linter.unusedVariables false
set_option linter.unusedSimpArgs false

theorem dig_byte (s : ByteArray) (a : Int) (h0 : 0 ≤ a) (h : digB (rE s a) = true) : a < (s.size : Int) ∧ bt s a = rE s a ∧ 48 ≤ bt s a ∧ bt s a ≤ 57 ∧ nI s a = 1 := by
  have ha := run_in s digB digB_end a h
  unfold digB at h
  rw [decide_eq_true_eq] at h
  have e : rE s a = rI s a := by unfold rE; rw [if_pos ha]
  have hb := low_of_rune s a (rI s a) h0 ha (by omega) (by omega) rfl
  have hl := rune_low s a h0 ha (bv s a.toNat) (by have := bt_bI s a h0; omega) rfl
  exact ⟨ha, by omega, by omega, by omega, hl.2⟩
theorem run_dig (s : ByteArray) : ∀ n a l c, 0 ≤ a → a ≤ (s.size : Int) → ∀ i, a ≤ i → i < (run s digB n a l c).1 → 48 ≤ bt s i ∧ bt s i ≤ 57
  | 0, a, l, c, h0, h1, i, hi, hj => by unfold run at hj; simp only at hj; omega
  | n + 1, a, l, c, h0, h1, i, hi, hj => by
    unfold run at hj
    split at hj
    · rename_i hh
      obtain ⟨ha, hb, hb1, hb2, hn⟩ := dig_byte s a h0 hh
      by_cases hia : i = a
      · subst hia; exact ⟨hb1, hb2⟩
      · exact run_dig s n (a + nI s a) _ _ (by omega) (by omega) i (by omega) hj
    · simp only at hj; omega
theorem run_dig1 (s : ByteArray) (n : Nat) (a l c : Int) (h0 : 0 ≤ a) (h : digB (rE s a) = true) (hn : s.size < n + a.toNat) : a + 1 ≤ (run s digB n a l c).1 := by
  obtain ⟨ha, hb, hb1, hb2, hn1⟩ := dig_byte s a h0 h
  obtain ⟨k, rfl⟩ : ∃ k, n = k + 1 := ⟨n - 1, by omega⟩
  unfold run
  rw [if_pos h]
  have := run_mono s digB digB_end k (a + nI s a) (lin s a l) (col s a c) (by omega) (by omega)
  omega
theorem digs_sub (s : ByteArray) (a e : Int) (h0 : 0 ≤ a) (he : e ≤ (s.size : Int)) (h : ∀ i, a ≤ i → i < e → 48 ≤ bt s i ∧ bt s i ≤ 57) : Digs (s.extract a.toNat e.toNat) := by
  intro i hi hj
  have hz : (s.extract a.toNat e.toNat).size = e.toNat - a.toNat := by rw [ByteArray.size_extract]; omega
  have hb := bt_sub s a.toNat e.toNat i.toNat (by omega) (by omega)
  rw [show ((i.toNat : Nat) : Int) = i by omega, show ((a.toNat + i.toNat : Nat) : Int) = a + i by omega] at hb
  rw [hb]
  exact h (a + i) (by omega) (by omega)
/-- What is wrong with a number from a to e: a code and a place. -/
def numE (s : ByteArray) (a e : Int) : Int × Int := if 18 < e - a then (9, a) else if 1 < e - a ∧ bt s a = 48 then (4, a) else if letB (rE s e) = true then (4, e) else (0, 0)
set_option maxHeartbeats 8000000 in
set_option maxRecDepth 100000 in
theorem lexNum (b : Nat) (s : ByteArray) (a l c m : Int) (w : World) (hB : Sc w b s a l c) (h0 : 0 ≤ a) (h : a < (s.size : Int)) (hL : letB (rI s a) = false) (hD : digB (rI s a) = true) (hs : s.size ≤ 1073741824) (hm : 1 ≤ m ∧ m ≤ 1073741824) (hl : 0 ≤ l ∧ l ≤ m + a) (hc : 0 ≤ c ∧ c ≤ m + a) (hT : Tabs w) (hb2 : 2 ≤ b) (n : Nat) (hn : s.size < n + a.toNat) (R : Int × Int × Int) (hR : run s digB n a l c = R) :
    Calls Tryd.prog 32 #[.pointer (some ⟨b, 0, none⟩)] w fun e w' => (((numE s a R.1).1 = 0 ∧ e = .returned (.tuple #[tokV 2 (s.extract a.toNat R.1.toNat) (numV (s.extract a.toNat R.1.toNat)) a l c, .int .i64 0, .int .i64 0]) ∧ Sc w' b s R.1 R.2.1 R.2.2) ∨ ((numE s a R.1).1 ≠ 0 ∧ e = .returned (.tuple #[tok0, .int .i64 (numE s a R.1).1, .int .i64 (numE s a R.1).2]))) ∧ Upd b w w' := by
  have HR := Lib.hid hR
  have eRa : rE s a = rI s a := by unfold rE; rw [if_pos h]
  have HR1 := Lib.hid (show a + 1 ≤ R.1 by rw [← hR]; exact run_dig1 s n a l c h0 (by rw [eRa]; exact hD) hn)
  have HDG := Lib.hid (show ∀ i, a ≤ i → i < R.1 → 48 ≤ bt s i ∧ bt s i ≤ 57 by rw [← hR]; exact run_dig s n a l c h0 (by omega))
  clear hR eRa
  have hbb := hB.lt
  have HT := Lib.hid hT
  have g1 := hB.cell 1; have g2 := hB.cell 2; have g3 := hB.cell 3
  simp only [List.getElem?_toArray, List.getElem?_cons_succ, List.getElem?_cons_zero] at g1 g2 g3
  have S := Lib.hid hB
  clear hT hB
  have hzb : w.heap.size ≠ b := by omega
  have hkb : w.heap.size + 1 ≠ b := by omega
  go_enter Tryd.func32, Tryd.ntmps32
  go_wp2_with fail
  refine nm_w fun E hE => ?_
  have hEb : Below w.heap.size w E := by rw [hE]; exact (Below.refl _ w).alloc (Nat.le_refl _) _
  have S2 := Lib.hid (S.out.below hEb)
  have hEs : E.heap.size = w.heap.size + 1 := by rw [hE]; simp
  have Z := Lib.hid (show Blk E w.heap.size 35 (tokC 0 ⟨#[]⟩ 0 0 0 0) by rw [hE]; exact heap_alloc_new w _)
  clear hE
  replace g1 := (hEb.cell (p := ⟨b, 1, none⟩) hbb).trans g1
  replace g2 := (hEb.cell (p := ⟨b, 2, none⟩) hbb).trans g2
  replace g3 := (hEb.cell (p := ⟨b, 3, none⟩) hbb).trans g3
  go_region
  clear g1 g2 g3
  obtain ⟨E2, hE2⟩ : ∃ E2, (E.alloc (.cells #[.int .i64 0, .string ⟨#[]⟩, .int .i64 0, .int .i64 a, .int .i64 l, .int .i64 c] 35)).drew = E2 := ⟨_, rfl⟩
  rw [hE2]
  have hE2b : Below E.heap.size E E2 := by rw [← hE2]; exact ((Below.refl _ E).alloc (Nat.le_refl _) _).drew
  have K := Lib.hid (show Blk E2 (w.heap.size + 1) 35 (tokC 0 ⟨#[]⟩ 0 a l c) by rw [← hE2, ← hEs]; exact heap_alloc_new E _)
  clear hE2
  have S3 := Lib.hid (S2.out.below hE2b); have Z2 := Lib.hid (Z.out.below hE2b); have U := Lib.hid (Upd.of_below (below_step hEb hE2b) (Nat.le_of_lt hbb))
  clear S S2 Z hEb hE2b hEs
  have S := S3; have Z := Z2; clear S3 Z2
  have eR : rE s a = rI s a := by unfold rE; rw [if_pos h]
  go_wp2_with fail
  refine (runeC b s a l c _ S.out (by omega) (by omega) (U.out.tabs hb2 HT.out) (Nat.le_trans hb2 (Nat.le_of_lt S.out.lt))).mono ?_
  rintro e v1 ⟨rfl, hb⟩
  rw [eR]
  have S2 := Lib.hid (S.out.below hb); have Z2 := Lib.hid (Z.out.below hb); have K2 := Lib.hid (K.out.below hb)
  have U2 := Lib.hid (U.out.trans (Upd.of_below hb (Nat.le_of_lt S.out.lt)))
  clear S Z K U hb
  have S := S2; have Z := Z2; have K := K2; have U := U2; clear S2 Z2 K2 U2
  go_wp2_with fail
  refine (letterC (rI s a) _).mono ?_
  rintro e v1 ⟨rfl, hb⟩
  rw [hL]
  have S2 := Lib.hid (S.out.below hb); have Z2 := Lib.hid (Z.out.below hb); have K2 := Lib.hid (K.out.below hb)
  have U2 := Lib.hid (U.out.trans (Upd.of_below hb (Nat.le_of_lt S.out.lt)))
  clear S Z K U hb
  have S := S2; have Z := Z2; have K := K2; have U := U2; clear S2 Z2 K2 U2
  go_wp2_with fail
  refine (digitC (rI s a) _).mono ?_
  rintro e v1 ⟨rfl, hb⟩
  rw [hD]
  have S2 := Lib.hid (S.out.below hb); have Z2 := Lib.hid (Z.out.below hb); have K2 := Lib.hid (K.out.below hb)
  have U2 := Lib.hid (U.out.trans (Upd.of_below hb (Nat.le_of_lt S.out.lt)))
  clear S Z K U hb
  have S := S2; have Z := Z2; have K := K2; have U := U2; clear S2 Z2 K2 U2
  clear eR hL hD
  go_wp2_with fail
  go_loopw [150] (fun q wr => ∃ (n : Nat) (x y z : Int), a ≤ x ∧ x ≤ (s.size : Int) ∧ s.size < n + x.toNat ∧ (0 ≤ y ∧ y ≤ m + x) ∧ (0 ≤ z ∧ z ≤ m + x) ∧ Sc wr b s x y z ∧ Blk wr w.heap.size 35 (tokC 0 ⟨#[]⟩ 0 0 0 0) ∧ Blk wr (w.heap.size + 1) 35 (tokC 0 ⟨#[]⟩ 0 a l c) ∧ Upd b w wr ∧ run s digB n x y z = R) (fun _ wr => s.size - posOf b wr)
  case atStart => exact ⟨n, a, l, c, Int.le_refl _, by omega, hn, hl, hc, S.out, Z.out, K.out, U.out, HR.out⟩
  case round =>
    clear S Z K U HR
    obtain ⟨n, x, y, z, hx0, hxs, hn, hy, hz, hS, hZ, hK, hU, hR⟩ := hrel
    have S := Lib.hid hS; have Z := Lib.hid hZ; have K := Lib.hid hK; have U := Lib.hid hU; have HR := Lib.hid hR; have pos0 := Lib.hid (posOf_sc hS)
    clear hS hZ hK hU hR
    obtain ⟨k, rfl⟩ : ∃ k, n = k + 1 := ⟨n - 1, by omega⟩
    have HRX := Lib.hid (show run s digB (k + 1) x y z = if digB (rE s x) = true then run s digB k (x + nI s x) (lin s x y) (col s x z) else (x, y, z) from rfl)
    rcases hD2 : digB (rE s x) with _ | _
    · have HF := Lib.hid ((HRX.out.trans (if_neg (show ¬ digB (rE s x) = true by rw [hD2]; decide))).symm.trans HR.out)
      clear HRX HR
      go_wp2_with fail
      refine (runeC b s x y z _ S.out (by omega) (by omega) (U.out.tabs hb2 HT.out) (Nat.le_trans hb2 (Nat.le_of_lt S.out.lt))).mono ?_
      rintro e v1 ⟨rfl, hb⟩
      have S2 := Lib.hid (S.out.below hb); have Z2 := Lib.hid (Z.out.below hb); have K2 := Lib.hid (K.out.below hb)
      have U2 := Lib.hid (U.out.trans (Upd.of_below hb (Nat.le_of_lt S.out.lt)))
      clear S Z K U hb
      have S := S2; have Z := Z2; have K := K2; have U := U2; clear S2 Z2 K2 U2
      go_wp2_with fail
      refine (digitC (rE s x) _).mono ?_
      rintro e v1 ⟨rfl, hb⟩
      rw [hD2]
      have S2 := Lib.hid (S.out.below hb); have Z2 := Lib.hid (Z.out.below hb); have K2 := Lib.hid (K.out.below hb)
      have U2 := Lib.hid (U.out.trans (Upd.of_below hb (Nat.le_of_lt S.out.lt)))
      clear S Z K U hb
      have S := S2; have Z := Z2; have K := K2; have U := U2; clear S2 Z2 K2 U2
      go_wp2_with fail
      refine nm_w fun WW hWW => ?_
      rw [← hWW] at S Z K U
      clear hWW
      have g0 := S.out.cell 0; have g1 := S.out.cell 1
      simp only [List.getElem?_toArray, List.getElem?_cons_succ, List.getElem?_cons_zero] at g0 g1
      obtain ⟨k0, k1, k2, k3, k4, k5⟩ := tok_cells K.out
      have z0 := tok_thaw Z.out; have q0 := tok_cells Z.out; have kt := tok_thaw K.out
      obtain ⟨y0, y1, y2, y3, y4, y5⟩ := z0; obtain ⟨p0, p1, p2, p3, p4, p5⟩ := q0; obtain ⟨f0, f1, f2, f3, f4, f5⟩ := kt
      have hax := eq_true hx0; have hxx := eq_true hxs; have h00 := eq_true h0
      go_region
      clear g0 g1
      clear k0 k1 k2 k3 k4 k5 y0 y1 y2 y3 y4 y5 p0 p1 p2 p3 p4 p5 f0 f1 f2 f3 f4 f5
      obtain ⟨V2, hV2⟩ : ∃ V2, ((WW.setCell ⟨w.heap.size + 1, 0, none⟩ (.int .i64 2)).setCell ⟨w.heap.size + 1, 1, none⟩ (.string (s.extract a.toNat x.toNat))).drew = V2 := ⟨_, rfl⟩
      rw [hV2]
      have hst : Below w.heap.size WW V2 := by rw [← hV2]; exact (((Below.refl w.heap.size WW).setCell (p := ⟨w.heap.size + 1, 0, none⟩) (show w.heap.size ≤ w.heap.size + 1 by omega) _).setCell (p := ⟨w.heap.size + 1, 1, none⟩) (show w.heap.size ≤ w.heap.size + 1 by omega) _).drew
      have S2 := Lib.hid (S.out.low hst hbb); have U2 := Lib.hid (U.out.grow hst (Nat.le_of_lt hbb)); have Z2 := Lib.hid (show Blk V2 w.heap.size 35 (tokC 0 ⟨#[]⟩ 0 0 0 0) by rw [← hV2]; exact (Z.out.far (by omega)).far (by omega)); have K2 := Lib.hid (show Blk V2 (w.heap.size + 1) 35 (tokC 2 (s.extract a.toNat x.toNat) 0 a l c) by rw [← hV2]; exact (K.out.set 0 _).set 1 _)
      clear S Z K U hst hV2
      have S := S2; have Z := Z2; have K := K2; have U := U2; clear S2 Z2 K2 U2
      have hx1 : a + 1 ≤ x := by have := HR1.out; rw [← HF.out] at this; exact this
      have hdg : ∀ i, a ≤ i → i < x → 48 ≤ bt s i ∧ bt s i ≤ 57 := by have := HDG.out; rw [← HF.out] at this; exact this
      have hz : ((s.extract a.toNat x.toNat).size : Int) = x - a := by rw [ByteArray.size_extract]; omega
      have hDG := digs_sub s a x h0 hxs hdg
      have hb0 : bt (s.extract a.toNat x.toNat) 0 = bt s a := by have := bt_sub s a.toNat x.toNat 0 (by omega) (by omega); rw [show ((0 : Nat) : Int) = 0 from rfl, show ((a.toNat + 0 : Nat) : Int) = a by omega] at this; exact this
      obtain ⟨T, hTT⟩ : ∃ T, s.extract a.toNat x.toNat = T := ⟨_, rfl⟩
      rw [hTT] at hz K hDG hb0
      have HTT := Lib.hid hTT
      clear hTT hdg
      have xb := bt_at T 0
      rw [hb0] at xb
      obtain ⟨B, hB0⟩ : ∃ B, bt s a = B := ⟨_, rfl⟩
      rw [hB0] at xb
      have xb0 : ∀ h : 0 < T.size, (((T[0]'h).toNat : Nat) : Int) = B := fun h => xb h
      clear xb
      have HDG9 := Lib.hid hDG; have HB0 := Lib.hid hb0
      clear hDG hb0
      obtain ⟨k0, k1, k2, k3, k4, k5⟩ := tok_cells K.out
      have z0 := tok_thaw Z.out; have q0 := tok_cells Z.out; have kt := tok_thaw K.out
      obtain ⟨y0, y1, y2, y3, y4, y5⟩ := z0; obtain ⟨p0, p1, p2, p3, p4, p5⟩ := q0; obtain ⟨f0, f1, f2, f3, f4, f5⟩ := kt
      by_cases h18 : (18 : Int) < (T.size : Int)
      · have q := decide_eq_true h18
        have hE : numE s a x = (9, a) := by unfold numE; rw [if_pos (by omega)]
        have HE := Lib.hid hE
        clear hE
        go_wp2_with (go_at_call 55; refine (fail55 _ _ _).mono ?_; rintro e v2 ⟨rfl, hb⟩; have Z9 := Z.out.below hb; obtain ⟨p0, p1, p2, p3, p4, p5⟩ := tok_cells Z9; obtain ⟨y0, y1, y2, y3, y4, y5⟩ := tok_thaw Z9)
        ((try simp only [Exit.inBlock, Exit.then]); refine bodyPost_ret (ret35 rfl _ _ _ _ _ _ _ _ _ rfl (blk6 Z9)) rfl ?_)
        rw [← HF.out]
        refine ⟨.inr ⟨by show (numE s a x).1 ≠ 0; rw [HE.out]; show (9 : Int) ≠ 0; decide, by show _ = Ending.returned (.tuple #[tok0, .int .i64 (numE s a x).1, .int .i64 (numE s a x).2]); rw [HE.out]; rfl⟩, ?_⟩
        exact (U.out.trans (Upd.of_below hb (Nat.le_of_lt S.out.lt))).grow (six (Nat.le_refl _) _ _ _ _ _ _) (Nat.le_of_lt hbb)
      · have q := decide_eq_false h18
        by_cases h1 : (1 : Int) < (T.size : Int)
        · have q1 := decide_eq_true h1; have hp := eq_true (show (0 : Int) < (T.size : Int) by omega); have hp2 := eq_true (show 0 < T.size by omega)
          rcases k48 : (B == 48) with _ | _
          · have hB48 : ¬ B = 48 := by simpa using k48
            skip
            rcases hlt : letB (rE s x) with _ | _
            · have hE : numE s a x = (0, 0) := by unfold numE; rw [if_neg (by omega), if_neg (fun hh => hB48 (by rw [← hB0]; exact hh.2)), if_neg (by rw [hlt]; decide)]
              have HE := Lib.hid hE; have hsz18 : T.size ≤ 18 := by omega
              have hsz1 : 1 ≤ T.size := by omega
              have hcN := fun V => numC T V HDG9.out hsz1 hsz18 (by have := HB0.out; first | (left; omega) | (right; rw [this]; rw [← hB0] at *; omega) | (right; omega))
              clear hE
              go_wp2_with fail
              clear k0 k1 k2 k3 k4 k5 y0 y1 y2 y3 y4 y5 p0 p1 p2 p3 p4 p5 f0 f1 f2 f3 f4 f5
              refine (runeC b s x y z _ S.out (by omega) (by omega) (U.out.tabs hb2 HT.out) (Nat.le_trans hb2 (Nat.le_of_lt S.out.lt))).mono ?_
              rintro e v1 ⟨rfl, hb⟩
              have S2 := Lib.hid (S.out.below hb); have Z2 := Lib.hid (Z.out.below hb); have K2 := Lib.hid (K.out.below hb)
              have U2 := Lib.hid (U.out.trans (Upd.of_below hb (Nat.le_of_lt S.out.lt)))
              clear S Z K U hb
              have S := S2; have Z := Z2; have K := K2; have U := U2; clear S2 Z2 K2 U2
              go_wp2_with fail
              refine (letterC (rE s x) _).mono ?_
              rintro e v1 ⟨rfl, hb⟩
              rw [hlt]
              have S2 := Lib.hid (S.out.below hb); have Z2 := Lib.hid (Z.out.below hb); have K2 := Lib.hid (K.out.below hb)
              have U2 := Lib.hid (U.out.trans (Upd.of_below hb (Nat.le_of_lt S.out.lt)))
              clear S Z K U hb
              have S := S2; have Z := Z2; have K := K2; have U := U2; clear S2 Z2 K2 U2
              obtain ⟨k0, k1, k2, k3, k4, k5⟩ := tok_cells K.out
              have z0 := tok_thaw Z.out; have q0 := tok_cells Z.out; have kt := tok_thaw K.out
              obtain ⟨y0, y1, y2, y3, y4, y5⟩ := z0; obtain ⟨p0, p1, p2, p3, p4, p5⟩ := q0; obtain ⟨f0, f1, f2, f3, f4, f5⟩ := kt
              go_wp2_with fail
              refine (hcN _).mono ?_
              rintro e v1 ⟨rfl, hb⟩
              clear k0 k1 k2 k3 k4 k5 y0 y1 y2 y3 y4 y5 p0 p1 p2 p3 p4 p5 f0 f1 f2 f3 f4 f5
              have S2 := Lib.hid (S.out.below hb); have Z2 := Lib.hid (Z.out.below hb); have K2 := Lib.hid (K.out.below hb)
              have U2 := Lib.hid (U.out.trans (Upd.of_below hb (Nat.le_of_lt S.out.lt)))
              clear S Z K U hb
              have S := S2; have Z := Z2; have K := K2; have U := U2; clear S2 Z2 K2 U2
              obtain ⟨k0, k1, k2, k3, k4, k5⟩ := tok_cells K.out
              have z0 := tok_thaw Z.out; have q0 := tok_cells Z.out; have kt := tok_thaw K.out
              obtain ⟨y0, y1, y2, y3, y4, y5⟩ := z0; obtain ⟨p0, p1, p2, p3, p4, p5⟩ := q0; obtain ⟨f0, f1, f2, f3, f4, f5⟩ := kt
              go_wp2_with fail
              ((try simp only [Exit.inBlock, Exit.then]); refine bodyPost_ret (ret35 rfl _ _ _ _ _ _ _ _ _ rfl (blk6 (Z.out.far (by omega)))) rfl ?_)
              have hst : Below w.heap.size v1 (v1.setCell ⟨w.heap.size + 1, 2, none⟩ (.int .i64 (numV T))) := (Below.refl w.heap.size v1).setCell (p := ⟨w.heap.size + 1, 2, none⟩) (show w.heap.size ≤ w.heap.size + 1 by omega) _
              rw [← HF.out]
              refine ⟨.inl ⟨by show (numE s a x).1 = 0; rw [HE.out], by show Ending.returned (.tuple #[tokV 2 T (numV T) a l c, .int .i64 0, .int .i64 0]) = Ending.returned (.tuple #[tokV 2 (s.extract a.toNat x.toNat) (numV (s.extract a.toNat x.toNat)) a l c, .int .i64 0, .int .i64 0]); rw [HTT.out], S.out.low (hst.trans (six (Nat.le_refl _) _ _ _ _ _ _)) hbb⟩, ?_⟩
              exact U.out.grow (hst.trans (six (Nat.le_refl _) _ _ _ _ _ _)) (Nat.le_of_lt hbb)
            · have hE : numE s a x = (4, x) := by unfold numE; rw [if_neg (by omega), if_neg (fun hh => hB48 (by rw [← hB0]; exact hh.2)), if_pos hlt]
              have HE := Lib.hid hE
              clear hE
              go_wp2_with fail
              clear k0 k1 k2 k3 k4 k5 y0 y1 y2 y3 y4 y5 p0 p1 p2 p3 p4 p5 f0 f1 f2 f3 f4 f5
              refine (runeC b s x y z _ S.out (by omega) (by omega) (U.out.tabs hb2 HT.out) (Nat.le_trans hb2 (Nat.le_of_lt S.out.lt))).mono ?_
              rintro e v1 ⟨rfl, hb⟩
              have S2 := Lib.hid (S.out.below hb); have Z2 := Lib.hid (Z.out.below hb); have K2 := Lib.hid (K.out.below hb)
              have U2 := Lib.hid (U.out.trans (Upd.of_below hb (Nat.le_of_lt S.out.lt)))
              clear S Z K U hb
              have S := S2; have Z := Z2; have K := K2; have U := U2; clear S2 Z2 K2 U2
              go_wp2_with fail
              refine (letterC (rE s x) _).mono ?_
              rintro e v1 ⟨rfl, hb⟩
              rw [hlt]
              have S2 := Lib.hid (S.out.below hb); have Z2 := Lib.hid (Z.out.below hb); have K2 := Lib.hid (K.out.below hb)
              have U2 := Lib.hid (U.out.trans (Upd.of_below hb (Nat.le_of_lt S.out.lt)))
              clear S Z K U hb
              have S := S2; have Z := Z2; have K := K2; have U := U2; clear S2 Z2 K2 U2
              have g1 := S.out.cell 1
              simp only [List.getElem?_toArray, List.getElem?_cons_succ, List.getElem?_cons_zero] at g1
              go_wp2_with (go_at_call 55; refine (fail55 _ _ _).mono ?_; rintro e v2 ⟨rfl, hb⟩; have Z9 := Z.out.below hb; obtain ⟨p0, p1, p2, p3, p4, p5⟩ := tok_cells Z9; obtain ⟨y0, y1, y2, y3, y4, y5⟩ := tok_thaw Z9)
              ((try simp only [Exit.inBlock, Exit.then]); refine bodyPost_ret (ret35 rfl _ _ _ _ _ _ _ _ _ rfl (blk6 Z9)) rfl ?_)
              rw [← HF.out]
              refine ⟨.inr ⟨by show (numE s a x).1 ≠ 0; rw [HE.out]; show (4 : Int) ≠ 0; decide, by show _ = Ending.returned (.tuple #[tok0, .int .i64 (numE s a x).1, .int .i64 (numE s a x).2]); rw [HE.out]; rfl⟩, ?_⟩
              exact (U.out.trans (Upd.of_below hb (Nat.le_of_lt S.out.lt))).grow (six (Nat.le_refl _) _ _ _ _ _ _) (Nat.le_of_lt hbb)
          · have hE : numE s a x = (4, a) := by unfold numE; rw [if_neg (by omega), if_pos ⟨by omega, by rw [hB0]; simpa using k48⟩]
            have HE := Lib.hid hE
            clear hE
            go_wp2_with (go_at_call 55; refine (fail55 _ _ _).mono ?_; rintro e v2 ⟨rfl, hb⟩; have Z9 := Z.out.below hb; obtain ⟨p0, p1, p2, p3, p4, p5⟩ := tok_cells Z9; obtain ⟨y0, y1, y2, y3, y4, y5⟩ := tok_thaw Z9)
            ((try simp only [Exit.inBlock, Exit.then]); refine bodyPost_ret (ret35 rfl _ _ _ _ _ _ _ _ _ rfl (blk6 Z9)) rfl ?_)
            rw [← HF.out]
            refine ⟨.inr ⟨by show (numE s a x).1 ≠ 0; rw [HE.out]; show (4 : Int) ≠ 0; decide, by show _ = Ending.returned (.tuple #[tok0, .int .i64 (numE s a x).1, .int .i64 (numE s a x).2]); rw [HE.out]; rfl⟩, ?_⟩
            exact (U.out.trans (Upd.of_below hb (Nat.le_of_lt S.out.lt))).grow (six (Nat.le_refl _) _ _ _ _ _ _) (Nat.le_of_lt hbb)
        · have q1 := decide_eq_false h1
          rcases hlt : letB (rE s x) with _ | _
          · have hE : numE s a x = (0, 0) := by unfold numE; rw [if_neg (by omega), if_neg (fun hh => by omega), if_neg (by rw [hlt]; decide)]
            have HE := Lib.hid hE; have hsz18 : T.size ≤ 18 := by omega
            have hsz1 : 1 ≤ T.size := by omega
            have hcN := fun V => numC T V HDG9.out hsz1 hsz18 (by have := HB0.out; first | (left; omega) | (right; rw [this]; rw [← hB0] at *; omega) | (right; omega))
            clear hE
            go_wp2_with fail
            clear k0 k1 k2 k3 k4 k5 y0 y1 y2 y3 y4 y5 p0 p1 p2 p3 p4 p5 f0 f1 f2 f3 f4 f5
            refine (runeC b s x y z _ S.out (by omega) (by omega) (U.out.tabs hb2 HT.out) (Nat.le_trans hb2 (Nat.le_of_lt S.out.lt))).mono ?_
            rintro e v1 ⟨rfl, hb⟩
            have S2 := Lib.hid (S.out.below hb); have Z2 := Lib.hid (Z.out.below hb); have K2 := Lib.hid (K.out.below hb)
            have U2 := Lib.hid (U.out.trans (Upd.of_below hb (Nat.le_of_lt S.out.lt)))
            clear S Z K U hb
            have S := S2; have Z := Z2; have K := K2; have U := U2; clear S2 Z2 K2 U2
            go_wp2_with fail
            refine (letterC (rE s x) _).mono ?_
            rintro e v1 ⟨rfl, hb⟩
            rw [hlt]
            have S2 := Lib.hid (S.out.below hb); have Z2 := Lib.hid (Z.out.below hb); have K2 := Lib.hid (K.out.below hb)
            have U2 := Lib.hid (U.out.trans (Upd.of_below hb (Nat.le_of_lt S.out.lt)))
            clear S Z K U hb
            have S := S2; have Z := Z2; have K := K2; have U := U2; clear S2 Z2 K2 U2
            obtain ⟨k0, k1, k2, k3, k4, k5⟩ := tok_cells K.out
            have z0 := tok_thaw Z.out; have q0 := tok_cells Z.out; have kt := tok_thaw K.out
            obtain ⟨y0, y1, y2, y3, y4, y5⟩ := z0; obtain ⟨p0, p1, p2, p3, p4, p5⟩ := q0; obtain ⟨f0, f1, f2, f3, f4, f5⟩ := kt
            go_wp2_with fail
            refine (hcN _).mono ?_
            rintro e v1 ⟨rfl, hb⟩
            clear k0 k1 k2 k3 k4 k5 y0 y1 y2 y3 y4 y5 p0 p1 p2 p3 p4 p5 f0 f1 f2 f3 f4 f5
            have S2 := Lib.hid (S.out.below hb); have Z2 := Lib.hid (Z.out.below hb); have K2 := Lib.hid (K.out.below hb)
            have U2 := Lib.hid (U.out.trans (Upd.of_below hb (Nat.le_of_lt S.out.lt)))
            clear S Z K U hb
            have S := S2; have Z := Z2; have K := K2; have U := U2; clear S2 Z2 K2 U2
            obtain ⟨k0, k1, k2, k3, k4, k5⟩ := tok_cells K.out
            have z0 := tok_thaw Z.out; have q0 := tok_cells Z.out; have kt := tok_thaw K.out
            obtain ⟨y0, y1, y2, y3, y4, y5⟩ := z0; obtain ⟨p0, p1, p2, p3, p4, p5⟩ := q0; obtain ⟨f0, f1, f2, f3, f4, f5⟩ := kt
            go_wp2_with fail
            ((try simp only [Exit.inBlock, Exit.then]); refine bodyPost_ret (ret35 rfl _ _ _ _ _ _ _ _ _ rfl (blk6 (Z.out.far (by omega)))) rfl ?_)
            have hst : Below w.heap.size v1 (v1.setCell ⟨w.heap.size + 1, 2, none⟩ (.int .i64 (numV T))) := (Below.refl w.heap.size v1).setCell (p := ⟨w.heap.size + 1, 2, none⟩) (show w.heap.size ≤ w.heap.size + 1 by omega) _
            rw [← HF.out]
            refine ⟨.inl ⟨by show (numE s a x).1 = 0; rw [HE.out], by show Ending.returned (.tuple #[tokV 2 T (numV T) a l c, .int .i64 0, .int .i64 0]) = Ending.returned (.tuple #[tokV 2 (s.extract a.toNat x.toNat) (numV (s.extract a.toNat x.toNat)) a l c, .int .i64 0, .int .i64 0]); rw [HTT.out], S.out.low (hst.trans (six (Nat.le_refl _) _ _ _ _ _ _)) hbb⟩, ?_⟩
            exact U.out.grow (hst.trans (six (Nat.le_refl _) _ _ _ _ _ _)) (Nat.le_of_lt hbb)
          · have hE : numE s a x = (4, x) := by unfold numE; rw [if_neg (by omega), if_neg (fun hh => by omega), if_pos hlt]
            have HE := Lib.hid hE
            clear hE
            go_wp2_with fail
            clear k0 k1 k2 k3 k4 k5 y0 y1 y2 y3 y4 y5 p0 p1 p2 p3 p4 p5 f0 f1 f2 f3 f4 f5
            refine (runeC b s x y z _ S.out (by omega) (by omega) (U.out.tabs hb2 HT.out) (Nat.le_trans hb2 (Nat.le_of_lt S.out.lt))).mono ?_
            rintro e v1 ⟨rfl, hb⟩
            have S2 := Lib.hid (S.out.below hb); have Z2 := Lib.hid (Z.out.below hb); have K2 := Lib.hid (K.out.below hb)
            have U2 := Lib.hid (U.out.trans (Upd.of_below hb (Nat.le_of_lt S.out.lt)))
            clear S Z K U hb
            have S := S2; have Z := Z2; have K := K2; have U := U2; clear S2 Z2 K2 U2
            go_wp2_with fail
            refine (letterC (rE s x) _).mono ?_
            rintro e v1 ⟨rfl, hb⟩
            rw [hlt]
            have S2 := Lib.hid (S.out.below hb); have Z2 := Lib.hid (Z.out.below hb); have K2 := Lib.hid (K.out.below hb)
            have U2 := Lib.hid (U.out.trans (Upd.of_below hb (Nat.le_of_lt S.out.lt)))
            clear S Z K U hb
            have S := S2; have Z := Z2; have K := K2; have U := U2; clear S2 Z2 K2 U2
            have g1 := S.out.cell 1
            simp only [List.getElem?_toArray, List.getElem?_cons_succ, List.getElem?_cons_zero] at g1
            go_wp2_with (go_at_call 55; refine (fail55 _ _ _).mono ?_; rintro e v2 ⟨rfl, hb⟩; have Z9 := Z.out.below hb; obtain ⟨p0, p1, p2, p3, p4, p5⟩ := tok_cells Z9; obtain ⟨y0, y1, y2, y3, y4, y5⟩ := tok_thaw Z9)
            ((try simp only [Exit.inBlock, Exit.then]); refine bodyPost_ret (ret35 rfl _ _ _ _ _ _ _ _ _ rfl (blk6 Z9)) rfl ?_)
            rw [← HF.out]
            refine ⟨.inr ⟨by show (numE s a x).1 ≠ 0; rw [HE.out]; show (4 : Int) ≠ 0; decide, by show _ = Ending.returned (.tuple #[tok0, .int .i64 (numE s a x).1, .int .i64 (numE s a x).2]); rw [HE.out]; rfl⟩, ?_⟩
            exact (U.out.trans (Upd.of_below hb (Nat.le_of_lt S.out.lt))).grow (six (Nat.le_refl _) _ _ _ _ _ _) (Nat.le_of_lt hbb)
    · have hw := hD2
      have hlt := run_in s digB digB_end x hw
      have hrange := rI_range s x (by omega) hlt
      have HY := Lib.hid (lin_le s x y m (by omega) hlt hy); have HZ := Lib.hid (col_le s x z m (by omega) hlt hm.1 hz)
      have HF := Lib.hid ((HRX.out.trans (if_pos hw)).symm.trans HR.out)
      clear HRX HR
      go_wp2_with fail
      refine (runeC b s x y z _ S.out (by omega) (by omega) (U.out.tabs hb2 HT.out) (Nat.le_trans hb2 (Nat.le_of_lt S.out.lt))).mono ?_
      rintro e v1 ⟨rfl, hb⟩
      have S2 := Lib.hid (S.out.below hb); have Z2 := Lib.hid (Z.out.below hb); have K2 := Lib.hid (K.out.below hb)
      have U2 := Lib.hid (U.out.trans (Upd.of_below hb (Nat.le_of_lt S.out.lt)))
      clear S Z K U hb
      have S := S2; have Z := Z2; have K := K2; have U := U2; clear S2 Z2 K2 U2
      go_wp2_with fail
      refine (digitC (rE s x) _).mono ?_
      rintro e v1 ⟨rfl, hb⟩
      rw [hD2]
      have S2 := Lib.hid (S.out.below hb); have Z2 := Lib.hid (Z.out.below hb); have K2 := Lib.hid (K.out.below hb)
      have U2 := Lib.hid (U.out.trans (Upd.of_below hb (Nat.le_of_lt S.out.lt)))
      clear S Z K U hb
      have S := S2; have Z := Z2; have K := K2; have U := U2; clear S2 Z2 K2 U2
      go_wp2_with fail
      refine (onC b s x y z _ S.out (by omega) hlt (by omega) ⟨hy.1, by omega⟩ ⟨hz.1, by omega⟩ (U.out.tabs hb2 HT.out) (Nat.le_trans hb2 (Nat.le_of_lt S.out.lt))).mono ?_
      rintro e w9 ⟨rfl, hS9, hU9⟩
      have S2 := Lib.hid hS9; have Z2 := Lib.hid (Z.out.upd hU9 hzb); have K2 := Lib.hid (K.out.upd hU9 hkb); have U2 := Lib.hid (U.out.trans hU9)
      clear S Z K U hS9 hU9
      have S := S2; have Z := Z2; have K := K2; have U := U2; clear S2 Z2 K2 U2
      go_wp2_with fail
      go_roundw
      case measure => rw [posOf_sc S.out, pos0.out]; omega
      case rel => exact ⟨k, x + nI s x, lin s x y, col s x z, by omega, by omega, by omega, HY.out, HZ.out, S.out, Z.out, K.out, U.out, HF.out⟩
end Go.Proofs.YtgiaogocdihhhaaDoor.Tex
