/- Tokens: a sign's lexeme, the program's. -/
import Derived.Test.YtgiaogocdihhhaaDoorTokI
namespace Go.Proofs.YtgiaogocdihhhaaDoor.Tex
open Go.RowKit Go.Proofs.YtgiaogocdihhhaaDoorW.PrintWords Go.Proofs.YtgiaogocdihhhaaDoorW.PrintLast Go.Proofs.YtgiaogocdihhhaaDoorW.PrintMore Go.Proofs.YtgiaogocdihhhaaDoor.PFnExactTokens
set_option linter.unusedVariables false
set_option linter.unusedSimpArgs false

theorem bt_list (u : ByteArray) (x y : UInt8) (t : List UInt8) (h : u.data.toList = x :: y :: t) : 2 ≤ u.size ∧ bt u 0 = (x.toNat : Int) ∧ bt u 1 = (y.toNat : Int) := by
  have hz : u.data.size = u.size := rfl
  have hl := congrArg List.length h
  rw [Array.length_toList, hz] at hl
  simp only [List.length_cons] at hl
  have e0 : u[0]'(by omega) = x := by
    show u.data[0]'(by omega) = x
    have := congrArg (fun l => l[0]?) h
    simp only [Array.getElem?_toList, List.getElem?_cons_zero] at this
    rw [Array.getElem?_eq_getElem (by omega)] at this
    exact Option.some.inj this
  have e1 : u[1]'(by omega) = y := by
    show u.data[1]'(by omega) = y
    have := congrArg (fun l => l[1]?) h
    simp only [Array.getElem?_toList, List.getElem?_cons_succ, List.getElem?_cons_zero] at this
    rw [Array.getElem?_eq_getElem (by omega)] at this
    exact Option.some.inj this
  refine ⟨by omega, ?_, ?_⟩
  · unfold bt
    rw [dif_pos (show (0 : Int).toNat < u.size by simp; omega)]
    show ((u[0]'(by omega)).toNat : Int) = _
    rw [e0]
  · unfold bt
    rw [dif_pos (show (1 : Int).toNat < u.size by simp; omega)]
    show ((u[1]'(by omega)).toNat : Int) = _
    rw [e1]
theorem pre2 (s : ByteArray) (a : Int) (x y : UInt8) (h0 : 0 ≤ a) (h : Lib.hasPrefix (s.extract a.toNat s.size).data.toList [x, y] = true) : a + 1 < (s.size : Int) ∧ bt s a = (x.toNat : Int) ∧ bt s (a + 1) = (y.toNat : Int) := by
  unfold Lib.hasPrefix at h
  obtain ⟨t, ht⟩ := List.isPrefixOf_iff_prefix.1 h
  obtain ⟨h1, h2, h3⟩ := bt_list _ x y t ht.symm
  have hz : (s.extract a.toNat s.size).size = s.size - a.toNat := by rw [ByteArray.size_extract]; omega
  have b0 := bt_sub s a.toNat s.size 0 (by omega) (Nat.le_refl _)
  have b1 := bt_sub s a.toNat s.size 1 (by omega) (Nat.le_refl _)
  rw [show ((0 : Nat) : Int) = 0 from rfl, h2, show ((a.toNat + 0 : Nat) : Int) = a by omega] at b0
  rw [show ((1 : Nat) : Int) = 1 from rfl, h3, show ((a.toNat + 1 : Nat) : Int) = a + 1 by omega] at b1
  exact ⟨by omega, b0.symm, b1.symm⟩
def sgW (s : ByteArray) (a : Int) : Int := if twoB s a = true then 2 else if oneB (bt s a) = true then 1 else 0
theorem two_bytes (s : ByteArray) (a : Int) (h0 : 0 ≤ a) (h : twoB s a = true) : a + 1 < (s.size : Int) ∧ (bt s a = 61 ∨ bt s a = 33 ∨ bt s a = 60) ∧ bt s (a + 1) = 61 := by
  unfold twoB at h
  rw [Bool.or_eq_true, Bool.or_eq_true] at h
  rcases h with (h | h) | h
  · have := pre2 s a 61 61 h0 h; exact ⟨this.1, .inl this.2.1, this.2.2⟩
  · have := pre2 s a 33 61 h0 h; exact ⟨this.1, .inr (.inl this.2.1), this.2.2⟩
  · have := pre2 s a 60 61 h0 h; exact ⟨this.1, .inr (.inr this.2.1), this.2.2⟩
theorem one_byte (v : Int) (h : oneB v = true) : 0 ≤ v ∧ v < 128 ∧ v ≠ 10 := by
  unfold oneB at h
  simp only [Bool.or_eq_true, beq_iff_eq] at h
  omega
theorem rune_byte (s : ByteArray) (a : Int) (h0 : 0 ≤ a) (h : a < (s.size : Int)) (hb : bt s a < 128) : rI s a = bt s a := by
  have e := bt_bI s a h0
  have hl := rune_low s a h0 h (bv s a.toNat) (by omega) rfl
  rw [hl.1, e]
set_option maxHeartbeats 8000000 in
set_option maxRecDepth 100000 in
theorem lexSign (b : Nat) (s : ByteArray) (a l c m : Int) (w : World) (hB : Sc w b s a l c) (h0 : 0 ≤ a) (h : a < (s.size : Int)) (hL : letB (rI s a) = false) (hD : digB (rI s a) = false) (hN : rI s a ≠ 34) (hs : s.size ≤ 1073741824) (hm : 1 ≤ m ∧ m ≤ 1073741824) (hl : 0 ≤ l ∧ l ≤ m + a) (hc : 0 ≤ c ∧ c ≤ m + a) (hT : Tabs w) (hb2 : 2 ≤ b) :
    Calls Tryd.prog 32 #[.pointer (some ⟨b, 0, none⟩)] w fun e w' => ((0 < sgW s a ∧ e = .returned (.tuple #[tokV 4 (s.extract a.toNat (a + sgW s a).toNat) 0 a l c, .int .i64 0, .int .i64 0]) ∧ Sc w' b s (a + sgW s a) l (c + sgW s a)) ∨ (sgW s a = 0 ∧ e = .returned (.tuple #[tok0, .int .i64 4, .int .i64 a]))) ∧ Upd b w w' := by
  have hr127 : 127 < rI s a → oneB (bt s a) = false := by intro hh; cases q : oneB (bt s a) with | false => rfl | true => exact absurd (rune_byte s a h0 h (one_byte _ q).2.1) (by have := one_byte _ q; omega)
  have hW : ∃ W, sgW s a = W := ⟨_, rfl⟩
  obtain ⟨W, hW⟩ := hW
  rw [hW]
  have hTW := two_bytes s a h0
  have hON := one_byte (bt s a)
  have hp1 : ∀ V, Calls Tryd.prog 54 #[.string (s.extract a.toNat s.size), .string ⟨#[61, 61]⟩] V fun e w' => e = .returned (.bool (Lib.hasPrefix (s.extract a.toNat s.size).data.toList [61, 61])) ∧ w' = V := fun V => Tryd.strings_HasPrefix _ _ V
  have hp2 : ∀ V, Calls Tryd.prog 54 #[.string (s.extract a.toNat s.size), .string ⟨#[33, 61]⟩] V fun e w' => e = .returned (.bool (Lib.hasPrefix (s.extract a.toNat s.size).data.toList [33, 61])) ∧ w' = V := fun V => Tryd.strings_HasPrefix _ _ V
  have hp3 : ∀ V, Calls Tryd.prog 54 #[.string (s.extract a.toNat s.size), .string ⟨#[60, 61]⟩] V fun e w' => e = .returned (.bool (Lib.hasPrefix (s.extract a.toNat s.size).data.toList [60, 61])) ∧ w' = V := fun V => Tryd.strings_HasPrefix _ _ V
  have hcon := fun V => containsC s a V h0 h
  have h2W : twoB s a = true → W = 2 := by intro hh; rw [← hW]; unfold sgW; rw [if_pos hh]
  have h1W : twoB s a = false → oneB (bt s a) = true → W = 1 := by intro hh h1; rw [← hW]; unfold sgW; rw [hh, h1]; rfl
  have h0W : twoB s a = false → oneB (bt s a) = false → W = 0 := by intro hh h1; rw [← hW]; unfold sgW; rw [hh, h1]; rfl
  have htw : twoB s a = (Lib.hasPrefix (s.extract a.toNat s.size).data.toList [61, 61] || Lib.hasPrefix (s.extract a.toNat s.size).data.toList [33, 61] || Lib.hasPrefix (s.extract a.toNat s.size).data.toList [60, 61]) := rfl
  obtain ⟨P1, hP1⟩ : ∃ P, Lib.hasPrefix (s.extract a.toNat s.size).data.toList [61, 61] = P := ⟨_, rfl⟩
  obtain ⟨P2, hP2⟩ : ∃ P, Lib.hasPrefix (s.extract a.toNat s.size).data.toList [33, 61] = P := ⟨_, rfl⟩
  obtain ⟨P3, hP3⟩ : ∃ P, Lib.hasPrefix (s.extract a.toNat s.size).data.toList [60, 61] = P := ⟨_, rfl⟩
  rw [hP1] at hp1 htw
  rw [hP2] at hp2 htw
  rw [hP3] at hp3 htw
  obtain ⟨C1, hC1⟩ : ∃ C, oneB (bt s a) = C := ⟨_, rfl⟩
  rw [hC1] at hcon h1W h0W hON
  have HR127 := Lib.hid (fun hh => (hC1.symm.trans (hr127 hh) : C1 = false))
  clear hP1 hP2 hP3 hC1 hr127
  have H2W := Lib.hid h2W; have H1W := Lib.hid h1W; have H0W := Lib.hid h0W; have HTW := Lib.hid hTW; have HON := Lib.hid hON; have HTB := Lib.hid htw
  clear h2W h1W h0W hTW hON htw hW
  have hbb := hB.lt
  have HT := Lib.hid hT
  have g1 := hB.cell 1; have g2 := hB.cell 2; have g3 := hB.cell 3
  simp only [List.getElem?_toArray, List.getElem?_cons_succ, List.getElem?_cons_zero] at g1 g2 g3
  have S := Lib.hid hB
  clear hT hB
  have hzb : w.heap.size ≠ b := by omega
  have hkb : w.heap.size + 1 ≠ b := by omega
  go_enter Tryd.func32, Tryd.ntmps32
  go_wp2_with fail
  refine nm_w fun E hE => ?_
  have hEb : Below w.heap.size w E := by rw [hE]; exact (Below.refl _ w).alloc (Nat.le_refl _) _
  have S2 := Lib.hid (S.out.below hEb)
  have hEs : E.heap.size = w.heap.size + 1 := by rw [hE]; simp
  have Z := Lib.hid (show Blk E w.heap.size 35 (tokC 0 ⟨#[]⟩ 0 0 0 0) by rw [hE]; exact heap_alloc_new w _)
  clear hE
  replace g1 := (hEb.cell (p := ⟨b, 1, none⟩) hbb).trans g1
  replace g2 := (hEb.cell (p := ⟨b, 2, none⟩) hbb).trans g2
  replace g3 := (hEb.cell (p := ⟨b, 3, none⟩) hbb).trans g3
  go_region
  clear g1 g2 g3
  obtain ⟨E2, hE2⟩ : ∃ E2, (E.alloc (.cells #[.int .i64 0, .string ⟨#[]⟩, .int .i64 0, .int .i64 a, .int .i64 l, .int .i64 c] 35)).drew = E2 := ⟨_, rfl⟩
  rw [hE2]
  have hE2b : Below E.heap.size E E2 := by rw [← hE2]; exact ((Below.refl _ E).alloc (Nat.le_refl _) _).drew
  have K := Lib.hid (show Blk E2 (w.heap.size + 1) 35 (tokC 0 ⟨#[]⟩ 0 a l c) by rw [← hE2, ← hEs]; exact heap_alloc_new E _)
  clear hE2
  have S3 := Lib.hid (S2.out.below hE2b); have Z2 := Lib.hid (Z.out.below hE2b); have U := Lib.hid (Upd.of_below (below_step hEb hE2b) (Nat.le_of_lt hbb))
  clear S S2 Z hEb hE2b hEs
  have S := S3; have Z := Z2; clear S3 Z2
  have eR : rE s a = rI s a := by unfold rE; rw [if_pos h]
  go_wp2_with fail
  refine (runeC b s a l c _ S.out (by omega) (by omega) (U.out.tabs hb2 HT.out) (Nat.le_trans hb2 (Nat.le_of_lt S.out.lt))).mono ?_
  rintro e v1 ⟨rfl, hb⟩
  rw [eR]
  have S2 := Lib.hid (S.out.below hb); have Z2 := Lib.hid (Z.out.below hb); have K2 := Lib.hid (K.out.below hb)
  have U2 := Lib.hid (U.out.trans (Upd.of_below hb (Nat.le_of_lt S.out.lt)))
  clear S Z K U hb
  have S := S2; have Z := Z2; have K := K2; have U := U2; clear S2 Z2 K2 U2
  have hNb : (rI s a == 34) = false := by simpa using hN
  obtain ⟨r, hrr⟩ : ∃ r, rI s a = r := ⟨_, rfl⟩
  rw [hrr] at hL hD hNb HR127
  rw [hrr]
  clear eR hN hrr
  go_wp2_with fail
  refine (letterC r _).mono ?_
  rintro e v1 ⟨rfl, hb⟩
  rw [hL]
  have S2 := Lib.hid (S.out.below hb); have Z2 := Lib.hid (Z.out.below hb); have K2 := Lib.hid (K.out.below hb)
  have U2 := Lib.hid (U.out.trans (Upd.of_below hb (Nat.le_of_lt S.out.lt)))
  clear S Z K U hb
  have S := S2; have Z := Z2; have K := K2; have U := U2; clear S2 Z2 K2 U2
  go_wp2_with fail
  refine (digitC r _).mono ?_
  rintro e v1 ⟨rfl, hb⟩
  rw [hD]
  have S2 := Lib.hid (S.out.below hb); have Z2 := Lib.hid (Z.out.below hb); have K2 := Lib.hid (K.out.below hb)
  have U2 := Lib.hid (U.out.trans (Upd.of_below hb (Nat.le_of_lt S.out.lt)))
  clear S Z K U hb
  have S := S2; have Z := Z2; have K := K2; have U := U2; clear S2 Z2 K2 U2
  have g0 := S.out.cell 0; have g1 := S.out.cell 1
  simp only [List.getElem?_toArray, List.getElem?_cons_succ, List.getElem?_cons_zero] at g0 g1
  have b1 := eq_true h0; have b2 : (a ≤ (s.size : Int)) = True := eq_true (by omega); have b3 := eq_true (Int.le_refl (s.size : Int))
  rcases P1 with _ | _
  · rcases P2 with _ | _
    · rcases P3 with _ | _
      · rcases C1 with _ | _
        · have HZ0 := Lib.hid (H0W.out (by rw [HTB.out]; rfl) rfl)
          have p9 : IntKind.wrap .i64 (a + 1) = a + 1 := i64_ok (by omega) (by omega)
          have b4 : (a ≤ a + 1) = True := eq_true (by omega); have b5 : (a + 1 ≤ (s.size : Int)) = True := eq_true (by omega)
          go_wp2_with fail
          go_quiet (first | (go_at_call 54; with_reducible exact Calls.quiet_of_same (hp1 _)) | (go_at_call 54; with_reducible exact Calls.quiet_of_same (hp2 _)) | (go_at_call 54; with_reducible exact Calls.quiet_of_same (hp3 _)))
          go_wp2_with fail
          refine nm_w fun W2 hW2 => ?_
          have hb : Below v1.heap.size v1 W2 := by rw [hW2]; exact pw_below_drewN (Below.refl _ _) _
          clear hW2 g0 g1
          have S2 := Lib.hid (S.out.below hb); have Z2 := Lib.hid (Z.out.below hb); have K2 := Lib.hid (K.out.below hb)
          have U2 := Lib.hid (U.out.trans (Upd.of_below hb (Nat.le_of_lt S.out.lt)))
          clear S Z K U hb
          have S := S2; have Z := Z2; have K := K2; have U := U2; clear S2 Z2 K2 U2
          have g0 := S.out.cell 0; have g1 := S.out.cell 1
          simp only [List.getElem?_toArray, List.getElem?_cons_succ, List.getElem?_cons_zero] at g0 g1
          by_cases h127 : 127 < r
          · have q := decide_eq_true h127
            go_quiet (fail)
            skip
            have hb : Below W2.heap.size W2 (W2.drewN nq) := pw_below_drewN (Below.refl _ _) _
            clear g0
            have S2 := Lib.hid (S.out.below hb); have Z2 := Lib.hid (Z.out.below hb); have K2 := Lib.hid (K.out.below hb)
            have U2 := Lib.hid (U.out.trans (Upd.of_below hb (Nat.le_of_lt S.out.lt)))
            clear S Z K U hb
            have S := S2; have Z := Z2; have K := K2; have U := U2; clear S2 Z2 K2 U2
            have g1 := S.out.cell 1
            simp only [List.getElem?_toArray, List.getElem?_cons_succ, List.getElem?_cons_zero] at g1
            go_wp2_with (go_at_call 55; refine (fail55 _ _ _).mono ?_; rintro e v2 ⟨rfl, hb⟩; have Z9 := Z.out.below hb; obtain ⟨p0, p1, p2, p3, p4, p5⟩ := tok_cells Z9; obtain ⟨y0, y1, y2, y3, y4, y5⟩ := tok_thaw Z9)
            ((try simp only [Exit.inBlock, Exit.then]); refine bodyPost_ret (ret35 rfl _ _ _ _ _ _ _ _ _ rfl (blk6 Z9)) rfl ?_)
            refine ⟨.inr ⟨HZ0.out, rfl⟩, ?_⟩
            exact (U.out.trans (Upd.of_below hb (Nat.le_of_lt S.out.lt))).grow (six (Nat.le_refl _) _ _ _ _ _ _) (Nat.le_of_lt hbb)
          · have q := decide_eq_false h127
            go_quiet ((go_at_call 60; exact Calls.quiet_of_same (hcon _)))
            skip
            have hb : Below W2.heap.size W2 (W2.drewN nq) := pw_below_drewN (Below.refl _ _) _
            clear g0
            have S2 := Lib.hid (S.out.below hb); have Z2 := Lib.hid (Z.out.below hb); have K2 := Lib.hid (K.out.below hb)
            have U2 := Lib.hid (U.out.trans (Upd.of_below hb (Nat.le_of_lt S.out.lt)))
            clear S Z K U hb
            have S := S2; have Z := Z2; have K := K2; have U := U2; clear S2 Z2 K2 U2
            have g1 := S.out.cell 1
            simp only [List.getElem?_toArray, List.getElem?_cons_succ, List.getElem?_cons_zero] at g1
            go_wp2_with (go_at_call 55; refine (fail55 _ _ _).mono ?_; rintro e v2 ⟨rfl, hb⟩; have Z9 := Z.out.below hb; obtain ⟨p0, p1, p2, p3, p4, p5⟩ := tok_cells Z9; obtain ⟨y0, y1, y2, y3, y4, y5⟩ := tok_thaw Z9)
            ((try simp only [Exit.inBlock, Exit.then]); refine bodyPost_ret (ret35 rfl _ _ _ _ _ _ _ _ _ rfl (blk6 Z9)) rfl ?_)
            refine ⟨.inr ⟨HZ0.out, rfl⟩, ?_⟩
            exact (U.out.trans (Upd.of_below hb (Nat.le_of_lt S.out.lt))).grow (six (Nat.le_refl _) _ _ _ _ _ _) (Nat.le_of_lt hbb)
        · have HWW := Lib.hid (H1W.out (by rw [HTB.out]; rfl) rfl)
          have p9 : IntKind.wrap .i64 (a + 1) = a + 1 := i64_ok (by omega) (by omega)
          have b4 : (a ≤ a + 1) = True := eq_true (by omega); have b5 : (a + 1 ≤ (s.size : Int)) = True := eq_true (by omega)
          have q : decide (127 < r) = false := by cases qq : decide (127 < r) with | false => rfl | true => (have := HR127.out (of_decide_eq_true qq); cases this)
          go_wp2_with fail
          go_quiet (first | (go_at_call 54; with_reducible exact Calls.quiet_of_same (hp1 _)) | (go_at_call 54; with_reducible exact Calls.quiet_of_same (hp2 _)) | (go_at_call 54; with_reducible exact Calls.quiet_of_same (hp3 _)))
          go_wp2_with fail
          refine nm_w fun W2 hW2 => ?_
          have hb : Below v1.heap.size v1 W2 := by rw [hW2]; exact pw_below_drewN (Below.refl _ _) _
          clear hW2 g0 g1
          have S2 := Lib.hid (S.out.below hb); have Z2 := Lib.hid (Z.out.below hb); have K2 := Lib.hid (K.out.below hb)
          have U2 := Lib.hid (U.out.trans (Upd.of_below hb (Nat.le_of_lt S.out.lt)))
          clear S Z K U hb
          have S := S2; have Z := Z2; have K := K2; have U := U2; clear S2 Z2 K2 U2
          have g0 := S.out.cell 0; have g1 := S.out.cell 1
          simp only [List.getElem?_toArray, List.getElem?_cons_succ, List.getElem?_cons_zero] at g0 g1
          go_quiet ((go_at_call 60; exact Calls.quiet_of_same (hcon _)))
          have hb : Below W2.heap.size W2 (W2.drewN nq) := pw_below_drewN (Below.refl _ _) _
          clear g0 g1
          have S2 := Lib.hid (S.out.below hb); have Z2 := Lib.hid (Z.out.below hb); have K2 := Lib.hid (K.out.below hb)
          have U2 := Lib.hid (U.out.trans (Upd.of_below hb (Nat.le_of_lt S.out.lt)))
          clear S Z K U hb
          have S := S2; have Z := Z2; have K := K2; have U := U2; clear S2 Z2 K2 U2
          go_wp2_with fail
          have hq : ∀ i : Int, 0 ≤ i → i < 1 → a + i < (s.size : Int) ∧ bt s (a + i) < 128 ∧ bt s (a + i) ≠ 10 := by
            intro i i0 i1
            obtain rfl : i = 0 := by omega
            rw [Int.add_zero]
            obtain ⟨o1, o2, o3⟩ := HON.out (by first | rfl | trivial)
            exact ⟨by omega, by omega, by omega⟩
          go_loopw [91] (fun iv wr => ∃ i : Int, iv = .int .i64 i ∧ 0 ≤ i ∧ i ≤ 1 ∧ Sc wr b s (a + i) l (c + i) ∧ Blk wr w.heap.size 35 (tokC 0 ⟨#[]⟩ 0 0 0 0) ∧ Blk wr (w.heap.size + 1) 35 (tokC 0 ⟨#[]⟩ 0 a l c) ∧ Upd b w wr) (fun iv _ => (1 - intOf iv).toNat)
          case atStart => exact ⟨0, rfl, by omega, by omega, by rw [Int.add_zero, Int.add_zero]; exact S.out, Z.out, K.out, U.out⟩
          case round =>
            clear S Z K U
            obtain ⟨i, rfl, hi0, hiw, hS, hZ, hK, hU⟩ := hrel
            have S := Lib.hid hS; have Z := Lib.hid hZ; have K := Lib.hid hK; have U := Lib.hid hU
            clear hS hZ hK hU
            by_cases hlt : i < 1
            · obtain ⟨q1, q2, q3⟩ := hq i hi0 hlt
              have fa := ascii_at s (a + i) l (c + i) (by omega) q1 q2 q3
              go_wp2_with fail
              refine (onC b s (a + i) l (c + i) _ S.out (by omega) q1 (by omega) ⟨by omega, by omega⟩ ⟨by omega, by omega⟩ (U.out.tabs hb2 HT.out) (Nat.le_trans hb2 (Nat.le_of_lt S.out.lt))).mono ?_
              rintro e w9 ⟨rfl, hS9, hU9⟩
              rw [fa.2.1, fa.2.2.1, fa.2.2.2] at hS9
              have S2 := Lib.hid hS9; have Z2 := Lib.hid (Z.out.upd hU9 hzb); have K2 := Lib.hid (K.out.upd hU9 hkb); have U2 := Lib.hid (U.out.trans hU9)
              clear S Z K U hS9 hU9
              have S := S2; have Z := Z2; have K := K2; have U := U2; clear S2 Z2 K2 U2
              go_wp2_with fail
              go_roundw
              case measure => simp [intOf]; omega
              case rel => exact ⟨i + 1, rfl, by omega, by omega, by rw [show a + (i + 1) = a + i + 1 by omega, show c + (i + 1) = c + i + 1 by omega]; exact S.out, Z.out, K.out, U.out⟩
            · obtain rfl : i = 1 := by omega
              clear hq
              go_wp2_with fail
              refine nm_w fun WW hWW => ?_
              rw [← hWW] at S Z K U
              clear hWW
              have g0 := S.out.cell 0; have g1 := S.out.cell 1
              simp only [List.getElem?_toArray, List.getElem?_cons_succ, List.getElem?_cons_zero] at g0 g1
              obtain ⟨k0, k1, k2, k3, k4, k5⟩ := tok_cells K.out
              have z0 := tok_thaw Z.out; have q0 := tok_cells Z.out; have kt := tok_thaw K.out
              obtain ⟨y0, y1, y2, y3, y4, y5⟩ := z0; obtain ⟨p0, p1, p2, p3, p4, p5⟩ := q0; obtain ⟨f0, f1, f2, f3, f4, f5⟩ := kt
              have hax : (a ≤ a + 1) = True := eq_true (by omega)
              have hxx : (a + 1 ≤ (s.size : Int)) = True := eq_true (by omega)
              have h00 := eq_true h0
              go_region
              clear g0 g1
              clear k0 k1 k2 k3 k4 k5 y0 y1 y2 y3 y4 y5 p0 p1 p2 p3 p4 p5 f0 f1 f2 f3 f4 f5
              obtain ⟨V2, hV2⟩ : ∃ V2, ((WW.setCell ⟨w.heap.size + 1, 0, none⟩ (.int .i64 4)).setCell ⟨w.heap.size + 1, 1, none⟩ (.string (s.extract a.toNat (a + 1).toNat))).drew = V2 := ⟨_, rfl⟩
              rw [hV2]
              have hst : Below w.heap.size WW V2 := by rw [← hV2]; exact (((Below.refl w.heap.size WW).setCell (p := ⟨w.heap.size + 1, 0, none⟩) (show w.heap.size ≤ w.heap.size + 1 by omega) _).setCell (p := ⟨w.heap.size + 1, 1, none⟩) (show w.heap.size ≤ w.heap.size + 1 by omega) _).drew
              have S2 := Lib.hid (S.out.low hst hbb); have U2 := Lib.hid (U.out.grow hst (Nat.le_of_lt hbb)); have Z2 := Lib.hid (show Blk V2 w.heap.size 35 (tokC 0 ⟨#[]⟩ 0 0 0 0) by rw [← hV2]; exact (Z.out.far (by omega)).far (by omega)); have K2 := Lib.hid (show Blk V2 (w.heap.size + 1) 35 (tokC 4 (s.extract a.toNat (a + 1).toNat) 0 a l c) by rw [← hV2]; exact (K.out.set 0 _).set 1 _)
              clear S Z K U hst hV2
              have S := S2; have Z := Z2; have K := K2; have U := U2; clear S2 Z2 K2 U2
              obtain ⟨T, hTT⟩ : ∃ T, s.extract a.toNat (a + 1).toNat = T := ⟨_, rfl⟩
              rw [hTT] at K
              have HTT := Lib.hid hTT
              clear hTT
              obtain ⟨k0, k1, k2, k3, k4, k5⟩ := tok_cells K.out
              have z0 := tok_thaw Z.out; have q0 := tok_cells Z.out; have kt := tok_thaw K.out
              obtain ⟨y0, y1, y2, y3, y4, y5⟩ := z0; obtain ⟨p0, p1, p2, p3, p4, p5⟩ := q0; obtain ⟨f0, f1, f2, f3, f4, f5⟩ := kt
              go_wp2_with fail
              ((try simp only [Exit.inBlock, Exit.then]); refine bodyPost_ret (ret35 rfl _ _ _ _ _ _ _ _ _ rfl (blk6 Z.out)) rfl ?_)
              refine ⟨.inl ⟨by rw [HWW.out]; omega, by rw [HWW.out, HTT.out]; rfl, by rw [HWW.out]; exact S.out.low (six (Nat.le_refl _) _ _ _ _ _ _) hbb⟩, ?_⟩
              exact U.out.grow (six (Nat.le_refl _) _ _ _ _ _ _) (Nat.le_of_lt hbb)
      · have HWW := Lib.hid (H2W.out (by rw [HTB.out]; rfl))
        go_wp2_with fail
        go_quiet (first | (go_at_call 54; with_reducible exact Calls.quiet_of_same (hp1 _)) | (go_at_call 54; with_reducible exact Calls.quiet_of_same (hp2 _)) | (go_at_call 54; with_reducible exact Calls.quiet_of_same (hp3 _)))
        have hb : Below v1.heap.size v1 (v1.drewN nq) := pw_below_drewN (Below.refl _ _) _
        clear g0 g1
        have S2 := Lib.hid (S.out.below hb); have Z2 := Lib.hid (Z.out.below hb); have K2 := Lib.hid (K.out.below hb)
        have U2 := Lib.hid (U.out.trans (Upd.of_below hb (Nat.le_of_lt S.out.lt)))
        clear S Z K U hb
        have S := S2; have Z := Z2; have K := K2; have U := U2; clear S2 Z2 K2 U2
        have hsz2 : a + 2 ≤ (s.size : Int) := by have := (HTW.out (by rw [HTB.out]; rfl)).1; omega
        go_wp2_with fail
        have hq : ∀ i : Int, 0 ≤ i → i < 2 → a + i < (s.size : Int) ∧ bt s (a + i) < 128 ∧ bt s (a + i) ≠ 10 := by
          intro i i0 i1
          obtain ⟨t1, t2, t3⟩ := HTW.out (by rw [HTB.out]; rfl)
          by_cases hi : i = 0
          · subst hi; rw [Int.add_zero]; exact ⟨by omega, by omega, by omega⟩
          · obtain rfl : i = 1 := by omega
            exact ⟨by omega, by omega, by omega⟩
        go_loopw [91] (fun iv wr => ∃ i : Int, iv = .int .i64 i ∧ 0 ≤ i ∧ i ≤ 2 ∧ Sc wr b s (a + i) l (c + i) ∧ Blk wr w.heap.size 35 (tokC 0 ⟨#[]⟩ 0 0 0 0) ∧ Blk wr (w.heap.size + 1) 35 (tokC 0 ⟨#[]⟩ 0 a l c) ∧ Upd b w wr) (fun iv _ => (2 - intOf iv).toNat)
        case atStart => exact ⟨0, rfl, by omega, by omega, by rw [Int.add_zero, Int.add_zero]; exact S.out, Z.out, K.out, U.out⟩
        case round =>
          clear S Z K U
          obtain ⟨i, rfl, hi0, hiw, hS, hZ, hK, hU⟩ := hrel
          have S := Lib.hid hS; have Z := Lib.hid hZ; have K := Lib.hid hK; have U := Lib.hid hU
          clear hS hZ hK hU
          by_cases hlt : i < 2
          · obtain ⟨q1, q2, q3⟩ := hq i hi0 hlt
            have fa := ascii_at s (a + i) l (c + i) (by omega) q1 q2 q3
            go_wp2_with fail
            refine (onC b s (a + i) l (c + i) _ S.out (by omega) q1 (by omega) ⟨by omega, by omega⟩ ⟨by omega, by omega⟩ (U.out.tabs hb2 HT.out) (Nat.le_trans hb2 (Nat.le_of_lt S.out.lt))).mono ?_
            rintro e w9 ⟨rfl, hS9, hU9⟩
            rw [fa.2.1, fa.2.2.1, fa.2.2.2] at hS9
            have S2 := Lib.hid hS9; have Z2 := Lib.hid (Z.out.upd hU9 hzb); have K2 := Lib.hid (K.out.upd hU9 hkb); have U2 := Lib.hid (U.out.trans hU9)
            clear S Z K U hS9 hU9
            have S := S2; have Z := Z2; have K := K2; have U := U2; clear S2 Z2 K2 U2
            go_wp2_with fail
            go_roundw
            case measure => simp [intOf]; omega
            case rel => exact ⟨i + 1, rfl, by omega, by omega, by rw [show a + (i + 1) = a + i + 1 by omega, show c + (i + 1) = c + i + 1 by omega]; exact S.out, Z.out, K.out, U.out⟩
          · obtain rfl : i = 2 := by omega
            clear hq
            go_wp2_with fail
            refine nm_w fun WW hWW => ?_
            rw [← hWW] at S Z K U
            clear hWW
            have g0 := S.out.cell 0; have g1 := S.out.cell 1
            simp only [List.getElem?_toArray, List.getElem?_cons_succ, List.getElem?_cons_zero] at g0 g1
            obtain ⟨k0, k1, k2, k3, k4, k5⟩ := tok_cells K.out
            have z0 := tok_thaw Z.out; have q0 := tok_cells Z.out; have kt := tok_thaw K.out
            obtain ⟨y0, y1, y2, y3, y4, y5⟩ := z0; obtain ⟨p0, p1, p2, p3, p4, p5⟩ := q0; obtain ⟨f0, f1, f2, f3, f4, f5⟩ := kt
            have hax : (a ≤ a + 2) = True := eq_true (by omega)
            have hxx : (a + 2 ≤ (s.size : Int)) = True := eq_true (by omega)
            have h00 := eq_true h0
            go_region
            clear g0 g1
            clear k0 k1 k2 k3 k4 k5 y0 y1 y2 y3 y4 y5 p0 p1 p2 p3 p4 p5 f0 f1 f2 f3 f4 f5
            obtain ⟨V2, hV2⟩ : ∃ V2, ((WW.setCell ⟨w.heap.size + 1, 0, none⟩ (.int .i64 4)).setCell ⟨w.heap.size + 1, 1, none⟩ (.string (s.extract a.toNat (a + 2).toNat))).drew = V2 := ⟨_, rfl⟩
            rw [hV2]
            have hst : Below w.heap.size WW V2 := by rw [← hV2]; exact (((Below.refl w.heap.size WW).setCell (p := ⟨w.heap.size + 1, 0, none⟩) (show w.heap.size ≤ w.heap.size + 1 by omega) _).setCell (p := ⟨w.heap.size + 1, 1, none⟩) (show w.heap.size ≤ w.heap.size + 1 by omega) _).drew
            have S2 := Lib.hid (S.out.low hst hbb); have U2 := Lib.hid (U.out.grow hst (Nat.le_of_lt hbb)); have Z2 := Lib.hid (show Blk V2 w.heap.size 35 (tokC 0 ⟨#[]⟩ 0 0 0 0) by rw [← hV2]; exact (Z.out.far (by omega)).far (by omega)); have K2 := Lib.hid (show Blk V2 (w.heap.size + 1) 35 (tokC 4 (s.extract a.toNat (a + 2).toNat) 0 a l c) by rw [← hV2]; exact (K.out.set 0 _).set 1 _)
            clear S Z K U hst hV2
            have S := S2; have Z := Z2; have K := K2; have U := U2; clear S2 Z2 K2 U2
            obtain ⟨T, hTT⟩ : ∃ T, s.extract a.toNat (a + 2).toNat = T := ⟨_, rfl⟩
            rw [hTT] at K
            have HTT := Lib.hid hTT
            clear hTT
            obtain ⟨k0, k1, k2, k3, k4, k5⟩ := tok_cells K.out
            have z0 := tok_thaw Z.out; have q0 := tok_cells Z.out; have kt := tok_thaw K.out
            obtain ⟨y0, y1, y2, y3, y4, y5⟩ := z0; obtain ⟨p0, p1, p2, p3, p4, p5⟩ := q0; obtain ⟨f0, f1, f2, f3, f4, f5⟩ := kt
            go_wp2_with fail
            ((try simp only [Exit.inBlock, Exit.then]); refine bodyPost_ret (ret35 rfl _ _ _ _ _ _ _ _ _ rfl (blk6 Z.out)) rfl ?_)
            refine ⟨.inl ⟨by rw [HWW.out]; omega, by rw [HWW.out, HTT.out]; rfl, by rw [HWW.out]; exact S.out.low (six (Nat.le_refl _) _ _ _ _ _ _) hbb⟩, ?_⟩
            exact U.out.grow (six (Nat.le_refl _) _ _ _ _ _ _) (Nat.le_of_lt hbb)
    · have HWW := Lib.hid (H2W.out (by rw [HTB.out]; rfl))
      go_wp2_with fail
      go_quiet (first | (go_at_call 54; with_reducible exact Calls.quiet_of_same (hp1 _)) | (go_at_call 54; with_reducible exact Calls.quiet_of_same (hp2 _)) | (go_at_call 54; with_reducible exact Calls.quiet_of_same (hp3 _)))
      have hb : Below v1.heap.size v1 (v1.drewN nq) := pw_below_drewN (Below.refl _ _) _
      clear g0 g1
      have S2 := Lib.hid (S.out.below hb); have Z2 := Lib.hid (Z.out.below hb); have K2 := Lib.hid (K.out.below hb)
      have U2 := Lib.hid (U.out.trans (Upd.of_below hb (Nat.le_of_lt S.out.lt)))
      clear S Z K U hb
      have S := S2; have Z := Z2; have K := K2; have U := U2; clear S2 Z2 K2 U2
      have hsz2 : a + 2 ≤ (s.size : Int) := by have := (HTW.out (by rw [HTB.out]; rfl)).1; omega
      go_wp2_with fail
      have hq : ∀ i : Int, 0 ≤ i → i < 2 → a + i < (s.size : Int) ∧ bt s (a + i) < 128 ∧ bt s (a + i) ≠ 10 := by
        intro i i0 i1
        obtain ⟨t1, t2, t3⟩ := HTW.out (by rw [HTB.out]; rfl)
        by_cases hi : i = 0
        · subst hi; rw [Int.add_zero]; exact ⟨by omega, by omega, by omega⟩
        · obtain rfl : i = 1 := by omega
          exact ⟨by omega, by omega, by omega⟩
      go_loopw [91] (fun iv wr => ∃ i : Int, iv = .int .i64 i ∧ 0 ≤ i ∧ i ≤ 2 ∧ Sc wr b s (a + i) l (c + i) ∧ Blk wr w.heap.size 35 (tokC 0 ⟨#[]⟩ 0 0 0 0) ∧ Blk wr (w.heap.size + 1) 35 (tokC 0 ⟨#[]⟩ 0 a l c) ∧ Upd b w wr) (fun iv _ => (2 - intOf iv).toNat)
      case atStart => exact ⟨0, rfl, by omega, by omega, by rw [Int.add_zero, Int.add_zero]; exact S.out, Z.out, K.out, U.out⟩
      case round =>
        clear S Z K U
        obtain ⟨i, rfl, hi0, hiw, hS, hZ, hK, hU⟩ := hrel
        have S := Lib.hid hS; have Z := Lib.hid hZ; have K := Lib.hid hK; have U := Lib.hid hU
        clear hS hZ hK hU
        by_cases hlt : i < 2
        · obtain ⟨q1, q2, q3⟩ := hq i hi0 hlt
          have fa := ascii_at s (a + i) l (c + i) (by omega) q1 q2 q3
          go_wp2_with fail
          refine (onC b s (a + i) l (c + i) _ S.out (by omega) q1 (by omega) ⟨by omega, by omega⟩ ⟨by omega, by omega⟩ (U.out.tabs hb2 HT.out) (Nat.le_trans hb2 (Nat.le_of_lt S.out.lt))).mono ?_
          rintro e w9 ⟨rfl, hS9, hU9⟩
          rw [fa.2.1, fa.2.2.1, fa.2.2.2] at hS9
          have S2 := Lib.hid hS9; have Z2 := Lib.hid (Z.out.upd hU9 hzb); have K2 := Lib.hid (K.out.upd hU9 hkb); have U2 := Lib.hid (U.out.trans hU9)
          clear S Z K U hS9 hU9
          have S := S2; have Z := Z2; have K := K2; have U := U2; clear S2 Z2 K2 U2
          go_wp2_with fail
          go_roundw
          case measure => simp [intOf]; omega
          case rel => exact ⟨i + 1, rfl, by omega, by omega, by rw [show a + (i + 1) = a + i + 1 by omega, show c + (i + 1) = c + i + 1 by omega]; exact S.out, Z.out, K.out, U.out⟩
        · obtain rfl : i = 2 := by omega
          clear hq
          go_wp2_with fail
          refine nm_w fun WW hWW => ?_
          rw [← hWW] at S Z K U
          clear hWW
          have g0 := S.out.cell 0; have g1 := S.out.cell 1
          simp only [List.getElem?_toArray, List.getElem?_cons_succ, List.getElem?_cons_zero] at g0 g1
          obtain ⟨k0, k1, k2, k3, k4, k5⟩ := tok_cells K.out
          have z0 := tok_thaw Z.out; have q0 := tok_cells Z.out; have kt := tok_thaw K.out
          obtain ⟨y0, y1, y2, y3, y4, y5⟩ := z0; obtain ⟨p0, p1, p2, p3, p4, p5⟩ := q0; obtain ⟨f0, f1, f2, f3, f4, f5⟩ := kt
          have hax : (a ≤ a + 2) = True := eq_true (by omega)
          have hxx : (a + 2 ≤ (s.size : Int)) = True := eq_true (by omega)
          have h00 := eq_true h0
          go_region
          clear g0 g1
          clear k0 k1 k2 k3 k4 k5 y0 y1 y2 y3 y4 y5 p0 p1 p2 p3 p4 p5 f0 f1 f2 f3 f4 f5
          obtain ⟨V2, hV2⟩ : ∃ V2, ((WW.setCell ⟨w.heap.size + 1, 0, none⟩ (.int .i64 4)).setCell ⟨w.heap.size + 1, 1, none⟩ (.string (s.extract a.toNat (a + 2).toNat))).drew = V2 := ⟨_, rfl⟩
          rw [hV2]
          have hst : Below w.heap.size WW V2 := by rw [← hV2]; exact (((Below.refl w.heap.size WW).setCell (p := ⟨w.heap.size + 1, 0, none⟩) (show w.heap.size ≤ w.heap.size + 1 by omega) _).setCell (p := ⟨w.heap.size + 1, 1, none⟩) (show w.heap.size ≤ w.heap.size + 1 by omega) _).drew
          have S2 := Lib.hid (S.out.low hst hbb); have U2 := Lib.hid (U.out.grow hst (Nat.le_of_lt hbb)); have Z2 := Lib.hid (show Blk V2 w.heap.size 35 (tokC 0 ⟨#[]⟩ 0 0 0 0) by rw [← hV2]; exact (Z.out.far (by omega)).far (by omega)); have K2 := Lib.hid (show Blk V2 (w.heap.size + 1) 35 (tokC 4 (s.extract a.toNat (a + 2).toNat) 0 a l c) by rw [← hV2]; exact (K.out.set 0 _).set 1 _)
          clear S Z K U hst hV2
          have S := S2; have Z := Z2; have K := K2; have U := U2; clear S2 Z2 K2 U2
          obtain ⟨T, hTT⟩ : ∃ T, s.extract a.toNat (a + 2).toNat = T := ⟨_, rfl⟩
          rw [hTT] at K
          have HTT := Lib.hid hTT
          clear hTT
          obtain ⟨k0, k1, k2, k3, k4, k5⟩ := tok_cells K.out
          have z0 := tok_thaw Z.out; have q0 := tok_cells Z.out; have kt := tok_thaw K.out
          obtain ⟨y0, y1, y2, y3, y4, y5⟩ := z0; obtain ⟨p0, p1, p2, p3, p4, p5⟩ := q0; obtain ⟨f0, f1, f2, f3, f4, f5⟩ := kt
          go_wp2_with fail
          ((try simp only [Exit.inBlock, Exit.then]); refine bodyPost_ret (ret35 rfl _ _ _ _ _ _ _ _ _ rfl (blk6 Z.out)) rfl ?_)
          refine ⟨.inl ⟨by rw [HWW.out]; omega, by rw [HWW.out, HTT.out]; rfl, by rw [HWW.out]; exact S.out.low (six (Nat.le_refl _) _ _ _ _ _ _) hbb⟩, ?_⟩
          exact U.out.grow (six (Nat.le_refl _) _ _ _ _ _ _) (Nat.le_of_lt hbb)
  · have HWW := Lib.hid (H2W.out (by rw [HTB.out]; rfl))
    go_wp2_with fail
    go_quiet (first | (go_at_call 54; with_reducible exact Calls.quiet_of_same (hp1 _)) | (go_at_call 54; with_reducible exact Calls.quiet_of_same (hp2 _)) | (go_at_call 54; with_reducible exact Calls.quiet_of_same (hp3 _)))
    have hb : Below v1.heap.size v1 (v1.drewN nq) := pw_below_drewN (Below.refl _ _) _
    clear g0 g1
    have S2 := Lib.hid (S.out.below hb); have Z2 := Lib.hid (Z.out.below hb); have K2 := Lib.hid (K.out.below hb)
    have U2 := Lib.hid (U.out.trans (Upd.of_below hb (Nat.le_of_lt S.out.lt)))
    clear S Z K U hb
    have S := S2; have Z := Z2; have K := K2; have U := U2; clear S2 Z2 K2 U2
    have hsz2 : a + 2 ≤ (s.size : Int) := by have := (HTW.out (by rw [HTB.out]; rfl)).1; omega
    go_wp2_with fail
    have hq : ∀ i : Int, 0 ≤ i → i < 2 → a + i < (s.size : Int) ∧ bt s (a + i) < 128 ∧ bt s (a + i) ≠ 10 := by
      intro i i0 i1
      obtain ⟨t1, t2, t3⟩ := HTW.out (by rw [HTB.out]; rfl)
      by_cases hi : i = 0
      · subst hi; rw [Int.add_zero]; exact ⟨by omega, by omega, by omega⟩
      · obtain rfl : i = 1 := by omega
        exact ⟨by omega, by omega, by omega⟩
    go_loopw [91] (fun iv wr => ∃ i : Int, iv = .int .i64 i ∧ 0 ≤ i ∧ i ≤ 2 ∧ Sc wr b s (a + i) l (c + i) ∧ Blk wr w.heap.size 35 (tokC 0 ⟨#[]⟩ 0 0 0 0) ∧ Blk wr (w.heap.size + 1) 35 (tokC 0 ⟨#[]⟩ 0 a l c) ∧ Upd b w wr) (fun iv _ => (2 - intOf iv).toNat)
    case atStart => exact ⟨0, rfl, by omega, by omega, by rw [Int.add_zero, Int.add_zero]; exact S.out, Z.out, K.out, U.out⟩
    case round =>
      clear S Z K U
      obtain ⟨i, rfl, hi0, hiw, hS, hZ, hK, hU⟩ := hrel
      have S := Lib.hid hS; have Z := Lib.hid hZ; have K := Lib.hid hK; have U := Lib.hid hU
      clear hS hZ hK hU
      by_cases hlt : i < 2
      · obtain ⟨q1, q2, q3⟩ := hq i hi0 hlt
        have fa := ascii_at s (a + i) l (c + i) (by omega) q1 q2 q3
        go_wp2_with fail
        refine (onC b s (a + i) l (c + i) _ S.out (by omega) q1 (by omega) ⟨by omega, by omega⟩ ⟨by omega, by omega⟩ (U.out.tabs hb2 HT.out) (Nat.le_trans hb2 (Nat.le_of_lt S.out.lt))).mono ?_
        rintro e w9 ⟨rfl, hS9, hU9⟩
        rw [fa.2.1, fa.2.2.1, fa.2.2.2] at hS9
        have S2 := Lib.hid hS9; have Z2 := Lib.hid (Z.out.upd hU9 hzb); have K2 := Lib.hid (K.out.upd hU9 hkb); have U2 := Lib.hid (U.out.trans hU9)
        clear S Z K U hS9 hU9
        have S := S2; have Z := Z2; have K := K2; have U := U2; clear S2 Z2 K2 U2
        go_wp2_with fail
        go_roundw
        case measure => simp [intOf]; omega
        case rel => exact ⟨i + 1, rfl, by omega, by omega, by rw [show a + (i + 1) = a + i + 1 by omega, show c + (i + 1) = c + i + 1 by omega]; exact S.out, Z.out, K.out, U.out⟩
      · obtain rfl : i = 2 := by omega
        clear hq
        go_wp2_with fail
        refine nm_w fun WW hWW => ?_
        rw [← hWW] at S Z K U
        clear hWW
        have g0 := S.out.cell 0; have g1 := S.out.cell 1
        simp only [List.getElem?_toArray, List.getElem?_cons_succ, List.getElem?_cons_zero] at g0 g1
        obtain ⟨k0, k1, k2, k3, k4, k5⟩ := tok_cells K.out
        have z0 := tok_thaw Z.out; have q0 := tok_cells Z.out; have kt := tok_thaw K.out
        obtain ⟨y0, y1, y2, y3, y4, y5⟩ := z0; obtain ⟨p0, p1, p2, p3, p4, p5⟩ := q0; obtain ⟨f0, f1, f2, f3, f4, f5⟩ := kt
        have hax : (a ≤ a + 2) = True := eq_true (by omega)
        have hxx : (a + 2 ≤ (s.size : Int)) = True := eq_true (by omega)
        have h00 := eq_true h0
        go_region
        clear g0 g1
        clear k0 k1 k2 k3 k4 k5 y0 y1 y2 y3 y4 y5 p0 p1 p2 p3 p4 p5 f0 f1 f2 f3 f4 f5
        obtain ⟨V2, hV2⟩ : ∃ V2, ((WW.setCell ⟨w.heap.size + 1, 0, none⟩ (.int .i64 4)).setCell ⟨w.heap.size + 1, 1, none⟩ (.string (s.extract a.toNat (a + 2).toNat))).drew = V2 := ⟨_, rfl⟩
        rw [hV2]
        have hst : Below w.heap.size WW V2 := by rw [← hV2]; exact (((Below.refl w.heap.size WW).setCell (p := ⟨w.heap.size + 1, 0, none⟩) (show w.heap.size ≤ w.heap.size + 1 by omega) _).setCell (p := ⟨w.heap.size + 1, 1, none⟩) (show w.heap.size ≤ w.heap.size + 1 by omega) _).drew
        have S2 := Lib.hid (S.out.low hst hbb); have U2 := Lib.hid (U.out.grow hst (Nat.le_of_lt hbb)); have Z2 := Lib.hid (show Blk V2 w.heap.size 35 (tokC 0 ⟨#[]⟩ 0 0 0 0) by rw [← hV2]; exact (Z.out.far (by omega)).far (by omega)); have K2 := Lib.hid (show Blk V2 (w.heap.size + 1) 35 (tokC 4 (s.extract a.toNat (a + 2).toNat) 0 a l c) by rw [← hV2]; exact (K.out.set 0 _).set 1 _)
        clear S Z K U hst hV2
        have S := S2; have Z := Z2; have K := K2; have U := U2; clear S2 Z2 K2 U2
        obtain ⟨T, hTT⟩ : ∃ T, s.extract a.toNat (a + 2).toNat = T := ⟨_, rfl⟩
        rw [hTT] at K
        have HTT := Lib.hid hTT
        clear hTT
        obtain ⟨k0, k1, k2, k3, k4, k5⟩ := tok_cells K.out
        have z0 := tok_thaw Z.out; have q0 := tok_cells Z.out; have kt := tok_thaw K.out
        obtain ⟨y0, y1, y2, y3, y4, y5⟩ := z0; obtain ⟨p0, p1, p2, p3, p4, p5⟩ := q0; obtain ⟨f0, f1, f2, f3, f4, f5⟩ := kt
        go_wp2_with fail
        ((try simp only [Exit.inBlock, Exit.then]); refine bodyPost_ret (ret35 rfl _ _ _ _ _ _ _ _ _ rfl (blk6 Z.out)) rfl ?_)
        refine ⟨.inl ⟨by rw [HWW.out]; omega, by rw [HWW.out, HTT.out]; rfl, by rw [HWW.out]; exact S.out.low (six (Nat.le_refl _) _ _ _ _ _ _) hbb⟩, ?_⟩
        exact U.out.grow (six (Nat.le_refl _) _ _ _ _ _ _) (Nat.le_of_lt hbb)
end Go.Proofs.YtgiaogocdihhhaaDoor.Tex
