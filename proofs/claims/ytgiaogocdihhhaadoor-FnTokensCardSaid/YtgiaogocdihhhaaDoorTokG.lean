/- Tokens: a text's lexeme, the program's. -/
import Derived.Test.YtgiaogocdihhhaaDoorTokF
namespace Go.Proofs.YtgiaogocdihhhaaDoor.Tex
open Go.RowKit Go.Proofs.YtgiaogocdihhhaaDoorW.PrintWords Go.Proofs.YtgiaogocdihhhaaDoorW.PrintLast Go.Proofs.YtgiaogocdihhhaaDoorW.PrintMore Go.Proofs.YtgiaogocdihhhaaDoor.PFnExactTokens
set_option linter.unusedVariables false
set_option linter.unusedSimpArgs false

theorem Blk.low {w w' : World} {b base : Nat} {t : TypeId} {cs : Array Value} (h : Blk w b t cs) (hb : Below base w w') (hlt : b < base) : Blk w' b t cs := by
  unfold Blk
  rw [hb.block b hlt]
  exact h
theorem Upd.grow {b : Nat} {w W w1 : World} (h : Upd b w W) (hb : Below w.heap.size W w1) (hbb : b ≤ w.heap.size) : Upd b w w1 :=
  ⟨h.1.trans (hb.mono hbb), Nat.le_trans h.2.1 hb.size, fun i hi hn => (hb.block i hi).trans (h.2.2 i hi hn)⟩
theorem OB.upd {b base : Nat} {w w1 : World} {v : Value} {xs : List Int} (h : OB w base v xs) (hu : Upd b w w1) (hb : b < base) : OB w1 base v xs :=
  own_move h (fun k hk => hu.2.2 k (own_lt h k hk) (fun e => by have := own_base h k hk; omega))
theorem bt_bI (s : ByteArray) (i : Int) (h : 0 ≤ i) : bt s i = (bv s i.toNat : Int) := by
  have := bt_bv s i.toNat
  rw [show ((i.toNat : Nat) : Int) = i by omega] at this
  exact this
/-- A rune of one byte. -/
theorem ascii_at (s : ByteArray) (p y z : Int) (h0 : 0 ≤ p) (h : p < (s.size : Int)) (hb : bt s p < 128) (h10 : bt s p ≠ 10) : rI s p = bt s p ∧ nI s p = 1 ∧ lin s p y = y ∧ col s p z = z + 1 := by
  have e := bt_bI s p h0
  have hl := rune_low s p h0 h (bv s p.toNat) (by omega) rfl
  have hr : rI s p = bt s p := by rw [hl.1, e]
  refine ⟨hr, hl.2, ?_, ?_⟩
  · unfold lin; rw [hr, if_neg h10]
  · unfold col; rw [hr, if_neg h10]
theorem rE_byte (s : ByteArray) (p : Int) (h0 : 0 ≤ p) (h : p < (s.size : Int)) (v : Int) (hv0 : 0 ≤ v) (hv : v < 128) : (rE s p == v) = (bt s p == v) := by
  have e := bt_bI s p h0
  have hi := rI_is s p h0 h v.toNat (by omega)
  unfold rE
  rw [if_pos h, Bool.eq_iff_iff, beq_iff_eq, beq_iff_eq]
  omega
theorem low_of_rune (s : ByteArray) (p v : Int) (h0 : 0 ≤ p) (h : p < (s.size : Int)) (hv0 : 0 ≤ v) (hv : v < 128) (hr : rI s p = v) : bt s p = v := by
  have e := bt_bI s p h0
  have hi := rI_is s p h0 h v.toNat (by omega)
  omega
theorem bt_sub (s : ByteArray) (i j k : Nat) (h : i + k < j) (hj : j ≤ s.size) : bt (s.extract i j) (k : Int) = bt s ((i + k : Nat) : Int) := by
  unfold bt
  have hz : (s.extract i j).size = j - i := by rw [ByteArray.size_extract]; omega
  rw [dif_pos (by rw [hz]; omega), dif_pos (by omega)]
  have : (s.extract i j)[((k : Int)).toNat]'(by rw [hz]; omega) = s[((i + k : Nat) : Int).toNat]'(by omega) := by
    rw [ByteArray.getElem_extract]
    congr 1
  rw [this]
theorem esc_out (s : ByteArray) (x : Int) (h : (s.size : Int) ≤ x + 1) : esc s x = (0, 0) := by unfold esc; rw [if_pos h]
theorem esc_n (s : ByteArray) (x : Int) (h : x + 1 < (s.size : Int)) (hb : bt s (x + 1) = 110) : esc s x = (10, 2) := by unfold esc; rw [if_neg (by omega), if_pos hb]
theorem esc_q (s : ByteArray) (x v : Int) (h : x + 1 < (s.size : Int)) (hb : bt s (x + 1) = v) (hv : v = 34 ∨ v = 92) : esc s x = (v, 2) := by unfold esc; rw [if_neg (by omega), if_neg (by omega), if_pos (by omega), hb]
theorem esc_no (s : ByteArray) (x : Int) (h : x + 1 < (s.size : Int)) (h1 : bt s (x + 1) ≠ 110) (h2 : bt s (x + 1) ≠ 34) (h3 : bt s (x + 1) ≠ 92) (h4 : bt s (x + 1) ≠ 120) : esc s x = (0, 0) := by unfold esc; rw [if_neg (by omega), if_neg h1, if_neg (by omega), if_neg (fun hh => h4 hh.1)]
theorem esc_x (s : ByteArray) (x v : Int) (h0 : 0 ≤ x) (h : x + 1 < (s.size : Int)) (hb : bt s (x + 1) = 120) (u : ByteArray) (hu : u = s.extract (min (x + 1 + 1) (s.size : Int)).toNat (min (x + 1 + 3) (s.size : Int)).toNat) (hv : hexB u = true → v = 16 * hx (bt u 0) + hx (bt u 1)) :
    u.size ≤ 2 ∧ (hexB u = false → esc s x = (0, 0)) ∧ (hexB u = true → esc s x = (v, 4) ∧ x + 3 < (s.size : Int) ∧ 0 ≤ hx (bt s (x + 2)) ∧ 0 ≤ hx (bt s (x + 3))) := by
  have hz : u.size = (min (x + 1 + 3) (s.size : Int)).toNat - (min (x + 1 + 1) (s.size : Int)).toNat := by
    rw [hu, ByteArray.size_extract]
    omega
  have hes : esc s x = if x + 3 < (s.size : Int) ∧ 0 ≤ hx (bt s (x + 2)) ∧ 0 ≤ hx (bt s (x + 3)) then (16 * hx (bt s (x + 2)) + hx (bt s (x + 3)), 4) else (0, 0) := by
    unfold esc
    rw [if_neg (by omega), if_neg (by omega), if_neg (by omega)]
    simp only [hb, true_and]
  by_cases h3 : x + 3 < (s.size : Int)
  · have ez : u.size = 2 := by omega
    have b0 : bt u 0 = bt s (x + 2) := by
      rw [hu]
      have := bt_sub s (min (x + 1 + 1) (s.size : Int)).toNat (min (x + 1 + 3) (s.size : Int)).toNat 0 (by omega) (by omega)
      rw [show ((0 : Nat) : Int) = 0 from rfl] at this
      rw [this]
      congr 1
      omega
    have b1 : bt u 1 = bt s (x + 3) := by
      rw [hu]
      have := bt_sub s (min (x + 1 + 1) (s.size : Int)).toNat (min (x + 1 + 3) (s.size : Int)).toNat 1 (by omega) (by omega)
      rw [show ((1 : Nat) : Int) = 1 from rfl] at this
      rw [this]
      congr 1
      omega
    have hh : hexB u = (decide (0 ≤ hx (bt s (x + 2))) && decide (0 ≤ hx (bt s (x + 3)))) := by
      unfold hexB
      rw [b0, b1, ez]
      rfl
    rw [b0, b1] at hv
    refine ⟨by omega, fun hf => ?_, fun ht => ?_⟩
    · rw [hes, if_neg]
      intro hc
      rw [hh, decide_eq_true hc.2.1, decide_eq_true hc.2.2] at hf
      cases hf
    · have ht2 := ht
      rw [hh, Bool.and_eq_true, decide_eq_true_eq, decide_eq_true_eq] at ht2
      rw [hes, if_pos ⟨h3, ht2.1, ht2.2⟩, hv ht]
      exact ⟨rfl, h3, ht2.1, ht2.2⟩
  · have ez : u.size ≠ 2 := by omega
    have hh : hexB u = false := by unfold hexB; rw [decide_eq_false ez]; rfl
    refine ⟨by omega, fun _ => ?_, fun ht => ?_⟩
    · rw [hes, if_neg (fun hc => h3 hc.1)]
    · rw [hh] at ht; cases ht
theorem hx_ascii (v : Int) (h : 0 ≤ hx v) : v < 128 ∧ v ≠ 10 := by
  unfold hx at h
  split at h
  · omega
  · split at h
    · omega
    · omega

set_option maxHeartbeats 8000000 in
set_option maxRecDepth 100000 in
theorem textC (b : Nat) (s : ByteArray) (a l c m : Int) (w : World) (hB : Sc w b s a l c) (h0 : 0 ≤ a) (h : a < (s.size : Int)) (h34 : rI s a = 34) (hs : s.size ≤ 1073741824) (hm : 1 ≤ m ∧ m ≤ 1073741824) (hl : 0 ≤ l ∧ l ≤ m + a) (hc : 0 ≤ c ∧ c ≤ m + a) (hT : Tabs w) (hb2 : 2 ≤ b) (n : Nat) (hn : s.size < n + (a + 1).toNat) (R : Int × Int × List Int × Int × Int × Int) (hR : txt s a n (a + 1) l (c + 1) [] = R) :
    Calls Tryd.prog 59 #[.pointer (some ⟨b, 0, none⟩)] w fun e w' => e = .returned (.tuple #[.string (strOfNums R.2.2.1), .int .i64 R.1, .int .i64 R.2.1]) ∧ (R.1 = 0 → Sc w' b s R.2.2.2.1 R.2.2.2.2.1 R.2.2.2.2.2) ∧ Upd b w w' := by
  have hbb := hB.lt
  have HT := Lib.hid hT
  have HR := Lib.hid hR
  have U := Lib.hid (Upd.of_below (Below.refl w.heap.size w) (Nat.le_of_lt hbb))
  have S := Lib.hid hB
  have fa := ascii_at s a l c h0 h (by rw [low_of_rune s a 34 h0 h (by omega) (by omega) h34]; omega) (by rw [low_of_rune s a 34 h0 h (by omega) (by omega) h34]; omega)
  have g1 := hB.cell 1
  simp only [List.getElem?_toArray, List.getElem?_cons_succ, List.getElem?_cons_zero] at g1
  clear hT hR hB h34
  have O := Lib.hid (show OB w w.heap.size (.slice none 0 0) [] from own_nil w w.heap.size 5 1)
  go_enter Tryd.func59, Tryd.ntmps59
  go_wp2_with fail
  refine (onC b s a l c _ S.out (by omega) h (by omega) ⟨by omega, by omega⟩ ⟨by omega, by omega⟩ (U.out.tabs hb2 HT.out) (Nat.le_trans hb2 (Nat.le_of_lt S.out.lt))).mono ?_
  rintro e w9 ⟨rfl, hS9, hU9⟩
  rw [fa.2.1, fa.2.2.1, fa.2.2.2] at hS9
  have S2 := Lib.hid hS9; have U2 := Lib.hid (U.out.trans hU9); have O2 := Lib.hid (O.out.upd hU9 hbb)
  clear S U O hS9 hU9
  have S := S2; have U := U2; have O := O2; clear S2 U2 O2
  clear g1 fa
  go_wp2_with fail
  go_loopw [6] (fun o wr => ∃ (n : Nat) (x y z : Int) (out : List Int), 0 ≤ x ∧ x ≤ (s.size : Int) ∧ s.size < n + x.toNat ∧ (0 ≤ y ∧ y ≤ m + x) ∧ (0 ≤ z ∧ z ≤ m + x) ∧ (out.length : Int) ≤ x ∧ OB wr w.heap.size o out ∧ Sc wr b s x y z ∧ Upd b w wr ∧ txt s a n x y z out = R) (fun _ wr => s.size - posOf b wr)
  case atStart => exact ⟨n, a + 1, l, c + 1, [], by omega, by omega, hn, ⟨by omega, by omega⟩, ⟨by omega, by omega⟩, by simp; omega, O.out, S.out, U.out, HR.out⟩
  case round =>
    clear S U O HR
    obtain ⟨n, x, y, z, out, hx0, hxs, hn, hy, hz, hol, hO, hS, hU, hR⟩ := hrel
    have O := Lib.hid hO; have S := Lib.hid hS; have U := Lib.hid hU; have HR := Lib.hid hR
    have pos0 := Lib.hid (posOf_sc hS)
    clear hO hS hU hR
    obtain ⟨k, rfl⟩ : ∃ k, n = k + 1 := ⟨n - 1, by omega⟩
    by_cases hlt : x < (s.size : Int)
    · have hrange := rI_range s x hx0 hlt
      have hsub : s.extract x.toNat (x + nI s x).toNat = sub s x := rfl
      have hss := sub_size s x hx0 hlt
      have HTX := Lib.hid (show txt s a (k + 1) x y z out = if (s.size : Int) ≤ x then (4, a, [], x, y, z) else if rI s x = 34 then (0, 0, out, x + 1, y, z + 1) else if wrongB s x = true then (3, x, [], x, y, z) else if rI s x < 32 then (4, a, [], x, y, z) else if rI s x = 92 then (if (esc s x).2 = 0 then (4, x, [], x, y, z) else txt s a k (x + (esc s x).2) y (z + (esc s x).2) (out ++ [(esc s x).1])) else txt s a k (x + nI s x) (lin s x y) (col s x z) (out ++ bytesOf (sub s x)) from rfl)
      have HX := Lib.hid (show ¬ (s.size : Int) ≤ x by omega)
      have eR : rE s x = rI s x := by unfold rE; rw [if_pos hlt]
      have eW : wE s x = wrongB s x := by unfold wE; rw [decide_eq_true hlt]; rfl
      have HY := Lib.hid (lin_le s x y m hx0 hlt hy); have HZ := Lib.hid (col_le s x z m hx0 hlt hm.1 hz)
      have cR := fun V (hV : Sc V b s x y z) hVT hV2 => runeC b s x y z V hV hx0 (by omega) hVT hV2
      have cW := fun V (hV : Sc V b s x y z) hVT hV2 => wrongC b s x y z V hV hx0 (by omega) hVT hV2
      have cO := fun V (hV : Sc V b s x y z) hVT hV2 => onC b s x y z V hV hx0 hlt (by omega) ⟨hy.1, by omega⟩ ⟨hz.1, by omega⟩ hVT hV2
      have H34 := Lib.hid (fun hh : rI s x = 34 => ascii_at s x y z hx0 hlt (by rw [low_of_rune s x 34 hx0 hlt (by omega) (by omega) hh]; omega) (by rw [low_of_rune s x 34 hx0 hlt (by omega) (by omega) hh]; omega))
      have H92 := Lib.hid (fun hh : rI s x = 92 => ascii_at s x y z hx0 hlt (by rw [low_of_rune s x 92 hx0 hlt (by omega) (by omega) hh]; omega) (by rw [low_of_rune s x 92 hx0 hlt (by omega) (by omega) hh]; omega))
      rw [eR] at cR
      rw [eW] at cW
      clear eR eW
      obtain ⟨r, hr⟩ : ∃ r, rI s x = r := ⟨_, rfl⟩
      obtain ⟨K, hK⟩ : ∃ K, nI s x = K := ⟨_, rfl⟩
      obtain ⟨wv, hwv⟩ : ∃ wv, wrongB s x = wv := ⟨_, rfl⟩
      obtain ⟨y2, hy2⟩ : ∃ y2, lin s x y = y2 := ⟨_, rfl⟩
      obtain ⟨z2, hz2⟩ : ∃ z2, col s x z = z2 := ⟨_, rfl⟩
      rw [hr, hK] at hrange
      rw [hr] at cR H34 H92
      rw [hr, hK, hwv, hy2, hz2] at HTX
      rw [hK] at hsub hss HY HZ
      rw [hy2] at HY
      rw [hz2] at HZ
      rw [hwv] at cW
      rw [hK, hy2, hz2] at cO
      rw [hK, hy2, hz2] at H34 H92
      have HWR := Lib.hid (show r = 34 → wv = false by intro hh; rw [← hwv]; unfold wrongB; rw [hr, hh]; rfl)
      clear hr hK hwv hy2 hz2
      obtain ⟨hr1, hr2, hk1, hk2, hk3⟩ := hrange
      rcases wv with _ | _
      · have HNW := Lib.hid (show ¬ false = true by decide)
        rcases k34 : (r == 34) with _ | _
        · have HN34 := Lib.hid (show ¬ r = 34 by simpa using k34)
          by_cases h32 : r < 32
          · have q := decide_eq_true h32
            have HP := Lib.hid h32
            have HN34 := Lib.hid (show ¬ r = 34 by omega)
            have HNW := Lib.hid (show ¬ false = true by decide)
            have HF := Lib.hid (HR.out.symm.trans (HTX.out.trans ((if_neg HX.out).trans ((if_neg HN34.out).trans ((if_neg HNW.out).trans (if_pos HP.out))))))
            clear HTX HX HP HN34 HNW HR HWR H34 H92 HY HZ cO
            go_wp2_with fail
            refine (cR _ S.out (U.out.tabs hb2 HT.out) (Nat.le_trans hb2 (Nat.le_of_lt S.out.lt))).mono ?_
            rintro e v1 ⟨rfl, hb⟩
            have S2 := Lib.hid (S.out.below hb)
            have U2 := Lib.hid (U.out.trans (Upd.of_below hb (Nat.le_of_lt S.out.lt)))
            have O2 := Lib.hid (O.out.below hb)
            clear S U O hb
            have S := S2; have U := U2; have O := O2; clear S2 U2 O2
            go_wp2_with fail
            refine (cW _ S.out (U.out.tabs hb2 HT.out) (Nat.le_trans hb2 (Nat.le_of_lt S.out.lt))).mono ?_
            rintro e v1 ⟨rfl, hb⟩
            have S2 := Lib.hid (S.out.below hb)
            have U2 := Lib.hid (U.out.trans (Upd.of_below hb (Nat.le_of_lt S.out.lt)))
            have O2 := Lib.hid (O.out.below hb)
            clear S U O hb
            have S := S2; have U := U2; have O := O2; clear S2 U2 O2
            go_wp2_with fail
            go_ret3
            exact ⟨by rw [HF.out]; rfl, (fun hh => by rw [HF.out] at hh; cases hh), U.out⟩
          · have q := decide_eq_false h32
            have HN32 := Lib.hid h32
            rcases k92 : (r == 92) with _ | _
            · have HN92 := Lib.hid (show ¬ r = 92 by simpa using k92)
              have HF := Lib.hid ((HTX.out.trans ((if_neg HX.out).trans ((if_neg HN34.out).trans ((if_neg HNW.out).trans ((if_neg HN32.out).trans (if_neg HN92.out)))))).symm.trans HR.out)
              have m92 : (r != 92) = true := by rw [bne, k92]; rfl
              clear HTX HX HN32 HNW HN34 HN92 HR HWR H34 H92
              go_wp2_with fail
              refine (cR _ S.out (U.out.tabs hb2 HT.out) (Nat.le_trans hb2 (Nat.le_of_lt S.out.lt))).mono ?_
              rintro e v1 ⟨rfl, hb⟩
              have S2 := Lib.hid (S.out.below hb)
              have U2 := Lib.hid (U.out.trans (Upd.of_below hb (Nat.le_of_lt S.out.lt)))
              have O2 := Lib.hid (O.out.below hb)
              clear S U O hb
              have S := S2; have U := U2; have O := O2; clear S2 U2 O2
              go_wp2_with fail
              refine (cW _ S.out (U.out.tabs hb2 HT.out) (Nat.le_trans hb2 (Nat.le_of_lt S.out.lt))).mono ?_
              rintro e v1 ⟨rfl, hb⟩
              have S2 := Lib.hid (S.out.below hb)
              have U2 := Lib.hid (U.out.trans (Upd.of_below hb (Nat.le_of_lt S.out.lt)))
              have O2 := Lib.hid (O.out.below hb)
              clear S U O hb
              have S := S2; have U := U2; have O := O2; clear S2 U2 O2
              have g1 := S.out.cell 1
              simp only [List.getElem?_toArray, List.getElem?_cons_succ, List.getElem?_cons_zero] at g1
              go_wp2_with fail
              refine (cO _ S.out (U.out.tabs hb2 HT.out) (Nat.le_trans hb2 (Nat.le_of_lt S.out.lt))).mono ?_
              rintro e w9 ⟨rfl, hS9, hU9⟩
              have S2 := Lib.hid hS9; have U2 := Lib.hid (U.out.trans hU9); have O2 := Lib.hid (O.out.upd hU9 hbb)
              clear S U O hS9 hU9
              have S := S2; have U := U2; have O := O2; clear S2 U2 O2
              clear g1
              have g0 := S.out.cell 0; have g1 := S.out.cell 1
              simp only [List.getElem?_toArray, List.getElem?_cons_succ, List.getElem?_cons_zero] at g0 g1
              have hK9 : x + K ≤ 9223372036854775807 := by omega
              have hk31 : x ≤ x + K := by omega
              have hk41 : 0 ≤ K := by omega
              have hk51 : 0 ≤ x + K := by omega
              have hk61 := eq_true hx0; have hk71 := eq_true hk31; have hk81 := eq_true hk3
              have hsz := U.out.2.1
              go_wp2_with fail
              go_still_tail 11, (by kernel_rfl)
              go_wp2_with ((with_reducible refine gate_builtin (b := .append) (xs := #[.tmp 47, .tmp 57]) rfl ?_); at_builtin; refine print_append_str (w0 := w9.drew) w.heap.size rfl (.tmp 47) (.tmp 57) 32 9 5 rfl Tryd.underlying32 Tryd.underlying9 info5 u6 out (sub s x) rfl rfl (show OB _ _ _ _ from O.out) (Below.refl _ _) hsz (by omega) ?_; intro x1 wA hO1 hB1 hg1; clear hg1)
              have hB2 : Below w.heap.size w9 wA := (below_drew1 (Below.refl _ _) : Below w9.heap.size w9 w9.drew).mono hsz |>.trans hB1
              have S2 := Lib.hid (S.out.low hB2 hbb); have U2 := Lib.hid (U.out.grow hB2 (Nat.le_of_lt hbb)); have O2 := Lib.hid (show OB wA w.heap.size x1 (out ++ bytesOf (sub s x)) from hO1)
              clear S U O hO1 hB1 hB2 g0 g1
              have S := S2; have U := U2; have O := O2; clear S2 U2 O2
              go_wp2_with fail
              go_roundw
              case measure => rw [posOf_sc S.out, pos0.out]; omega
              case rel => exact ⟨k, x + K, y2, z2, _, by omega, by omega, by omega, HY.out, HZ.out, by rw [List.length_append, bytesOf_length]; omega, O.out, S.out, U.out, HF.out⟩
            · have HP92 := Lib.hid (show r = 92 by simpa using k92)
              have m92 : (r != 92) = false := by rw [bne, k92]; rfl
              obtain ⟨-, e2, e3, e4⟩ := H92.out HP92.out
              rw [e2, e3, e4] at cO
              clear e2 e3 e4 HY HZ
              have HTY := Lib.hid (HTX.out.trans ((if_neg HX.out).trans ((if_neg HN34.out).trans ((if_neg HNW.out).trans ((if_neg HN32.out).trans (if_pos HP92.out))))))
              clear HTX HX HN34 HNW HN32 HP92 HWR H34 H92 hsub hss
              by_cases hx1 : x + 1 < (s.size : Int)
              · rcases k1 : (rE s (x + 1) == 110) with _ | _
                · rcases k2 : (rE s (x + 1) == 34) with _ | _
                  · rcases k3 : (rE s (x + 1) == 92) with _ | _
                    · rcases k4 : (rE s (x + 1) == 120) with _ | _
                      · have HF := Lib.hid (HR.out.symm.trans (HTY.out.trans (by rw [esc_no s x hx1 (by simpa [k1] using (rE_byte s (x + 1) (by omega) hx1 110 (by omega) (by omega)).symm) (by simpa [k2] using (rE_byte s (x + 1) (by omega) hx1 34 (by omega) (by omega)).symm) (by simpa [k3] using (rE_byte s (x + 1) (by omega) hx1 92 (by omega) (by omega)).symm) (by simpa [k4] using (rE_byte s (x + 1) (by omega) hx1 120 (by omega) (by omega)).symm)] <;> rfl)))
                        clear HTY HR
                        obtain ⟨r2, hr2⟩ : ∃ r2, rE s (x + 1) = r2 := ⟨_, rfl⟩
                        rw [hr2] at k1 k2 k3 k4
                        go_wp2_with fail
                        refine (cR _ S.out (U.out.tabs hb2 HT.out) (Nat.le_trans hb2 (Nat.le_of_lt S.out.lt))).mono ?_
                        rintro e v1 ⟨rfl, hb⟩
                        have S2 := Lib.hid (S.out.below hb)
                        have U2 := Lib.hid (U.out.trans (Upd.of_below hb (Nat.le_of_lt S.out.lt)))
                        have O2 := Lib.hid (O.out.below hb)
                        clear S U O hb
                        have S := S2; have U := U2; have O := O2; clear S2 U2 O2
                        go_wp2_with fail
                        refine (cW _ S.out (U.out.tabs hb2 HT.out) (Nat.le_trans hb2 (Nat.le_of_lt S.out.lt))).mono ?_
                        rintro e v1 ⟨rfl, hb⟩
                        have S2 := Lib.hid (S.out.below hb)
                        have U2 := Lib.hid (U.out.trans (Upd.of_below hb (Nat.le_of_lt S.out.lt)))
                        have O2 := Lib.hid (O.out.below hb)
                        clear S U O hb
                        have S := S2; have U := U2; have O := O2; clear S2 U2 O2
                        have g1 := S.out.cell 1
                        simp only [List.getElem?_toArray, List.getElem?_cons_succ, List.getElem?_cons_zero] at g1
                        go_wp2_with fail
                        refine (cO _ S.out (U.out.tabs hb2 HT.out) (Nat.le_trans hb2 (Nat.le_of_lt S.out.lt))).mono ?_
                        rintro e w9 ⟨rfl, hS9, hU9⟩
                        have S2 := Lib.hid hS9; have U2 := Lib.hid (U.out.trans hU9); have O2 := Lib.hid (O.out.upd hU9 hbb)
                        clear S U O hS9 hU9
                        have S := S2; have U := U2; have O := O2; clear S2 U2 O2
                        clear g1
                        go_wp2_with fail
                        refine (runeC b s (x + 1) y (z + 1) _ S.out (by omega) (by omega) (U.out.tabs hb2 HT.out) (Nat.le_trans hb2 (Nat.le_of_lt S.out.lt))).mono ?_
                        rintro e v1 ⟨rfl, hb⟩
                        rw [hr2]
                        have S2 := Lib.hid (S.out.below hb)
                        have U2 := Lib.hid (U.out.trans (Upd.of_below hb (Nat.le_of_lt S.out.lt)))
                        have O2 := Lib.hid (O.out.below hb)
                        clear S U O hb
                        have S := S2; have U := U2; have O := O2; clear S2 U2 O2
                        go_wp2_with fail
                        go_ret3
                        exact ⟨by rw [HF.out]; rfl, (fun hh => by rw [HF.out] at hh; cases hh), U.out⟩
                      · have hB : bt s (x + 1) = 120 := by rw [← beq_iff_eq, ← rE_byte s (x + 1) (by omega) hx1 120 (by omega) (by omega)]; exact k4
                        have r2e : rE s (x + 1) = 120 := by simpa using k4
                        obtain ⟨u, hu⟩ : ∃ u, s.extract (min (x + 1 + 1) (s.size : Int)).toNat (min (x + 1 + 3) (s.size : Int)).toNat = u := ⟨_, rfl⟩
                        have hu2 : u.size ≤ 2 := by rw [← hu, ByteArray.size_extract]; omega
                        obtain ⟨v, hC, hv0, hv1, hv⟩ := hexOfC u hu2
                        have hX := esc_x s x v hx0 hx1 hB u hu.symm hv
                        clear hv
                        rcases hk : hexB u with _ | _
                        · rw [hk] at hC
                          have HF := Lib.hid (HR.out.symm.trans (HTY.out.trans (by rw [hX.2.1 hk] <;> rfl)))
                          clear HTY HR
                          go_wp2_with fail
                          refine (cR _ S.out (U.out.tabs hb2 HT.out) (Nat.le_trans hb2 (Nat.le_of_lt S.out.lt))).mono ?_
                          rintro e v1 ⟨rfl, hb⟩
                          have S2 := Lib.hid (S.out.below hb)
                          have U2 := Lib.hid (U.out.trans (Upd.of_below hb (Nat.le_of_lt S.out.lt)))
                          have O2 := Lib.hid (O.out.below hb)
                          clear S U O hb
                          have S := S2; have U := U2; have O := O2; clear S2 U2 O2
                          go_wp2_with fail
                          refine (cW _ S.out (U.out.tabs hb2 HT.out) (Nat.le_trans hb2 (Nat.le_of_lt S.out.lt))).mono ?_
                          rintro e v1 ⟨rfl, hb⟩
                          have S2 := Lib.hid (S.out.below hb)
                          have U2 := Lib.hid (U.out.trans (Upd.of_below hb (Nat.le_of_lt S.out.lt)))
                          have O2 := Lib.hid (O.out.below hb)
                          clear S U O hb
                          have S := S2; have U := U2; have O := O2; clear S2 U2 O2
                          have g1 := S.out.cell 1
                          simp only [List.getElem?_toArray, List.getElem?_cons_succ, List.getElem?_cons_zero] at g1
                          go_wp2_with fail
                          refine (cO _ S.out (U.out.tabs hb2 HT.out) (Nat.le_trans hb2 (Nat.le_of_lt S.out.lt))).mono ?_
                          rintro e w9 ⟨rfl, hS9, hU9⟩
                          have S2 := Lib.hid hS9; have U2 := Lib.hid (U.out.trans hU9); have O2 := Lib.hid (O.out.upd hU9 hbb)
                          clear S U O hS9 hU9
                          have S := S2; have U := U2; have O := O2; clear S2 U2 O2
                          clear g1
                          go_wp2_with fail
                          refine (runeC b s (x + 1) y (z + 1) _ S.out (by omega) (by omega) (U.out.tabs hb2 HT.out) (Nat.le_trans hb2 (Nat.le_of_lt S.out.lt))).mono ?_
                          rintro e v1 ⟨rfl, hb⟩
                          rw [r2e]
                          have S2 := Lib.hid (S.out.below hb)
                          have U2 := Lib.hid (U.out.trans (Upd.of_below hb (Nat.le_of_lt S.out.lt)))
                          have O2 := Lib.hid (O.out.below hb)
                          clear S U O hb
                          have S := S2; have U := U2; have O := O2; clear S2 U2 O2
                          have g0 := S.out.cell 0; have g1 := S.out.cell 1
                          simp only [List.getElem?_toArray, List.getElem?_cons_succ, List.getElem?_cons_zero] at g0 g1
                          have p1 : IntKind.wrap .i64 (x + 1 + 1) = x + 1 + 1 := i64_ok (by omega) (by omega)
                          have p3 : IntKind.wrap .i64 (x + 1 + 3) = x + 1 + 3 := i64_ok (by omega) (by omega)
                          have m1 : 0 ≤ min (x + 1 + 1) (s.size : Int) := by omega
                          have m2 : min (x + 1 + 1) (s.size : Int) ≤ min (x + 1 + 3) (s.size : Int) := by omega
                          have m3 : min (x + 1 + 3) (s.size : Int) ≤ (s.size : Int) := by omega
                          have n1 := eq_true m1; have n2 := eq_true m2; have n3 := eq_true m3
                          go_wp2_with fail
                          go_quiet ((go_at_call 71; exact Calls.quiet_of (hC _)))
                          go_wp2_with fail
                          go_ret3
                          exact ⟨by rw [HF.out]; rfl, (fun hh => by rw [HF.out] at hh; cases hh), U.out.trans (Upd.of_below (pw_below_drewN (Below.refl _ _) _) (Nat.le_of_lt S.out.lt))⟩
                        · rw [hk] at hC
                          obtain ⟨hes, hx3, ha2, ha3⟩ := hX.2.2 hk
                          have i2 := hx_ascii _ ha2; have i3 := hx_ascii _ ha3
                          have HF := Lib.hid ((HTY.out.trans (by rw [hes]; show txt s a k (x + 4) y (z + 4) (out ++ [v]) = _; rw [show x + 4 = x + 1 + 1 + 1 + 1 by omega, show z + 4 = z + 1 + 1 + 1 + 1 by omega] : _ = txt s a k (x + 1 + 1 + 1 + 1) y (z + 1 + 1 + 1 + 1) (out ++ [v]))).symm.trans HR.out)
                          clear HTY HR
                          have f1 := ascii_at s (x + 1) y (z + 1) (by omega) hx1 (by omega) (by omega)
                          have f2 := ascii_at s (x + 1 + 1) y (z + 1 + 1) (by omega) (by omega) (by rw [show x + 1 + 1 = x + 2 by omega]; exact i2.1) (by rw [show x + 1 + 1 = x + 2 by omega]; exact i2.2)
                          have f3 := ascii_at s (x + 1 + 1 + 1) y (z + 1 + 1 + 1) (by omega) (by omega) (by rw [show x + 1 + 1 + 1 = x + 3 by omega]; exact i3.1) (by rw [show x + 1 + 1 + 1 = x + 3 by omega]; exact i3.2)
                          go_wp2_with fail
                          refine (cR _ S.out (U.out.tabs hb2 HT.out) (Nat.le_trans hb2 (Nat.le_of_lt S.out.lt))).mono ?_
                          rintro e v1 ⟨rfl, hb⟩
                          have S2 := Lib.hid (S.out.below hb)
                          have U2 := Lib.hid (U.out.trans (Upd.of_below hb (Nat.le_of_lt S.out.lt)))
                          have O2 := Lib.hid (O.out.below hb)
                          clear S U O hb
                          have S := S2; have U := U2; have O := O2; clear S2 U2 O2
                          go_wp2_with fail
                          refine (cW _ S.out (U.out.tabs hb2 HT.out) (Nat.le_trans hb2 (Nat.le_of_lt S.out.lt))).mono ?_
                          rintro e v1 ⟨rfl, hb⟩
                          have S2 := Lib.hid (S.out.below hb)
                          have U2 := Lib.hid (U.out.trans (Upd.of_below hb (Nat.le_of_lt S.out.lt)))
                          have O2 := Lib.hid (O.out.below hb)
                          clear S U O hb
                          have S := S2; have U := U2; have O := O2; clear S2 U2 O2
                          have g1 := S.out.cell 1
                          simp only [List.getElem?_toArray, List.getElem?_cons_succ, List.getElem?_cons_zero] at g1
                          go_wp2_with fail
                          refine (cO _ S.out (U.out.tabs hb2 HT.out) (Nat.le_trans hb2 (Nat.le_of_lt S.out.lt))).mono ?_
                          rintro e w9 ⟨rfl, hS9, hU9⟩
                          have S2 := Lib.hid hS9; have U2 := Lib.hid (U.out.trans hU9); have O2 := Lib.hid (O.out.upd hU9 hbb)
                          clear S U O hS9 hU9
                          have S := S2; have U := U2; have O := O2; clear S2 U2 O2
                          clear g1
                          go_wp2_with fail
                          refine (runeC b s (x + 1) y (z + 1) _ S.out (by omega) (by omega) (U.out.tabs hb2 HT.out) (Nat.le_trans hb2 (Nat.le_of_lt S.out.lt))).mono ?_
                          rintro e v1 ⟨rfl, hb⟩
                          rw [r2e]
                          have S2 := Lib.hid (S.out.below hb)
                          have U2 := Lib.hid (U.out.trans (Upd.of_below hb (Nat.le_of_lt S.out.lt)))
                          have O2 := Lib.hid (O.out.below hb)
                          clear S U O hb
                          have S := S2; have U := U2; have O := O2; clear S2 U2 O2
                          have g0 := S.out.cell 0; have g1 := S.out.cell 1
                          simp only [List.getElem?_toArray, List.getElem?_cons_succ, List.getElem?_cons_zero] at g0 g1
                          have p1 : IntKind.wrap .i64 (x + 1 + 1) = x + 1 + 1 := i64_ok (by omega) (by omega)
                          have p3 : IntKind.wrap .i64 (x + 1 + 3) = x + 1 + 3 := i64_ok (by omega) (by omega)
                          have m1 : 0 ≤ min (x + 1 + 1) (s.size : Int) := by omega
                          have m2 : min (x + 1 + 1) (s.size : Int) ≤ min (x + 1 + 3) (s.size : Int) := by omega
                          have m3 : min (x + 1 + 3) (s.size : Int) ≤ (s.size : Int) := by omega
                          have n1 := eq_true m1; have n2 := eq_true m2; have n3 := eq_true m3
                          go_wp2_with fail
                          go_quiet ((go_at_call 71; exact Calls.quiet_of (hC _)))
                          have hb : Below v1.heap.size v1 (v1.drewN nq) := pw_below_drewN (Below.refl _ _) _
                          clear g0 g1 m1 m2 m3 n1 n2 n3 p1 p3
                          have S2 := Lib.hid (S.out.below hb)
                          have U2 := Lib.hid (U.out.trans (Upd.of_below hb (Nat.le_of_lt S.out.lt)))
                          have O2 := Lib.hid (O.out.below hb)
                          clear S U O hb
                          have S := S2; have U := U2; have O := O2; clear S2 U2 O2
                          have hsz := U.out.2.1
                          go_wp2_with ((with_reducible refine gate_builtin (b := .append) (xs := #[.tmp 119, .tmp 121]) rfl ?_); at_builtin; refine print_append_row (w0 := (v1.drewN nq).alloc (.cells #[.int .u8 v] 5)) w.heap.size rfl (.tmp 119) (.tmp 121) 32 5 .u8 1 rfl Tryd.underlying32 info5 (by decide) u6 out [v] _ 1 1 rfl rfl (O.out.alloc _) (by simpa [nums] using lit_reads (v1.drewN nq) [v] (by simp)) (Below.refl _ _) (Nat.le_trans hsz (by simp)) (by simp; omega) ?_; intro x1 wA hO1 hB1 hg1 hg2; clear hg1 hg2)
                          have hB2 : Below w.heap.size (v1.drewN nq) wA := ((Below.refl w.heap.size (v1.drewN nq)).alloc hsz _).trans hB1
                          have S2 := Lib.hid (S.out.low hB2 hbb); have U2 := Lib.hid (U.out.grow hB2 (Nat.le_of_lt hbb)); have O2 := Lib.hid (show OB wA w.heap.size x1 (out ++ [v]) from hO1)
                          clear S U O hO1 hB1 hB2 hsz
                          have S := S2; have U := U2; have O := O2; clear S2 U2 O2
                          go_wp2_with fail
                          refine (onC b s (x + 1) y (z + 1) _ S.out (by omega) (by omega) (by omega) ⟨by omega, by omega⟩ ⟨by omega, by omega⟩ (U.out.tabs hb2 HT.out) (Nat.le_trans hb2 (Nat.le_of_lt S.out.lt))).mono ?_
                          rintro e w9 ⟨rfl, hS9, hU9⟩
                          rw [f1.2.1, f1.2.2.1, f1.2.2.2] at hS9
                          have S2 := Lib.hid hS9; have U2 := Lib.hid (U.out.trans hU9); have O2 := Lib.hid (O.out.upd hU9 hbb)
                          clear S U O hS9 hU9
                          have S := S2; have U := U2; have O := O2; clear S2 U2 O2
                          go_wp2_with fail
                          refine (onC b s (x + 1 + 1) y (z + 1 + 1) _ S.out (by omega) (by omega) (by omega) ⟨by omega, by omega⟩ ⟨by omega, by omega⟩ (U.out.tabs hb2 HT.out) (Nat.le_trans hb2 (Nat.le_of_lt S.out.lt))).mono ?_
                          rintro e w9 ⟨rfl, hS9, hU9⟩
                          rw [f2.2.1, f2.2.2.1, f2.2.2.2] at hS9
                          have S2 := Lib.hid hS9; have U2 := Lib.hid (U.out.trans hU9); have O2 := Lib.hid (O.out.upd hU9 hbb)
                          clear S U O hS9 hU9
                          have S := S2; have U := U2; have O := O2; clear S2 U2 O2
                          go_wp2_with fail
                          refine (onC b s (x + 1 + 1 + 1) y (z + 1 + 1 + 1) _ S.out (by omega) (by omega) (by omega) ⟨by omega, by omega⟩ ⟨by omega, by omega⟩ (U.out.tabs hb2 HT.out) (Nat.le_trans hb2 (Nat.le_of_lt S.out.lt))).mono ?_
                          rintro e w9 ⟨rfl, hS9, hU9⟩
                          rw [f3.2.1, f3.2.2.1, f3.2.2.2] at hS9
                          have S2 := Lib.hid hS9; have U2 := Lib.hid (U.out.trans hU9); have O2 := Lib.hid (O.out.upd hU9 hbb)
                          clear S U O hS9 hU9
                          have S := S2; have U := U2; have O := O2; clear S2 U2 O2
                          go_wp2_with fail
                          go_roundw
                          case measure => rw [posOf_sc S.out, pos0.out]; omega
                          case rel => exact ⟨k, x + 1 + 1 + 1 + 1, y, z + 1 + 1 + 1 + 1, _, by omega, by omega, by omega, ⟨by omega, by omega⟩, ⟨by omega, by omega⟩, by simp; omega, O.out, S.out, U.out, HF.out⟩
                    · skip
                      have hB : bt s (x + 1) = 92 := by rw [← beq_iff_eq, ← rE_byte s (x + 1) (by omega) hx1 92 (by omega) (by omega)]; exact k3
                      have r2e : rE s (x + 1) = 92 := by simpa using k3
                      have HF := Lib.hid ((HTY.out.trans (by rw [esc_q s x 92 hx1 hB (.inr rfl)] <;> (show txt s a k (x + 2) y (z + 2) _ = _; rw [show x + 2 = x + 1 + 1 by omega, show z + 2 = z + 1 + 1 by omega]) : _ = txt s a k (x + 1 + 1) y (z + 1 + 1) (out ++ [92]))).symm.trans HR.out)
                      clear HTY HR
                      have f1 := ascii_at s (x + 1) y (z + 1) (by omega) hx1 (by omega) (by omega)
                      go_wp2_with fail
                      refine (cR _ S.out (U.out.tabs hb2 HT.out) (Nat.le_trans hb2 (Nat.le_of_lt S.out.lt))).mono ?_
                      rintro e v1 ⟨rfl, hb⟩
                      have S2 := Lib.hid (S.out.below hb)
                      have U2 := Lib.hid (U.out.trans (Upd.of_below hb (Nat.le_of_lt S.out.lt)))
                      have O2 := Lib.hid (O.out.below hb)
                      clear S U O hb
                      have S := S2; have U := U2; have O := O2; clear S2 U2 O2
                      go_wp2_with fail
                      refine (cW _ S.out (U.out.tabs hb2 HT.out) (Nat.le_trans hb2 (Nat.le_of_lt S.out.lt))).mono ?_
                      rintro e v1 ⟨rfl, hb⟩
                      have S2 := Lib.hid (S.out.below hb)
                      have U2 := Lib.hid (U.out.trans (Upd.of_below hb (Nat.le_of_lt S.out.lt)))
                      have O2 := Lib.hid (O.out.below hb)
                      clear S U O hb
                      have S := S2; have U := U2; have O := O2; clear S2 U2 O2
                      have g1 := S.out.cell 1
                      simp only [List.getElem?_toArray, List.getElem?_cons_succ, List.getElem?_cons_zero] at g1
                      go_wp2_with fail
                      refine (cO _ S.out (U.out.tabs hb2 HT.out) (Nat.le_trans hb2 (Nat.le_of_lt S.out.lt))).mono ?_
                      rintro e w9 ⟨rfl, hS9, hU9⟩
                      have S2 := Lib.hid hS9; have U2 := Lib.hid (U.out.trans hU9); have O2 := Lib.hid (O.out.upd hU9 hbb)
                      clear S U O hS9 hU9
                      have S := S2; have U := U2; have O := O2; clear S2 U2 O2
                      clear g1
                      go_wp2_with fail
                      refine (runeC b s (x + 1) y (z + 1) _ S.out (by omega) (by omega) (U.out.tabs hb2 HT.out) (Nat.le_trans hb2 (Nat.le_of_lt S.out.lt))).mono ?_
                      rintro e v1 ⟨rfl, hb⟩
                      rw [r2e]
                      have S2 := Lib.hid (S.out.below hb)
                      have U2 := Lib.hid (U.out.trans (Upd.of_below hb (Nat.le_of_lt S.out.lt)))
                      have O2 := Lib.hid (O.out.below hb)
                      clear S U O hb
                      have S := S2; have U := U2; have O := O2; clear S2 U2 O2
                      have hsz := U.out.2.1
                      go_wp2_with ((with_reducible refine gate_builtin (b := .append) (xs := #[.tmp 80, .tmp 81]) rfl ?_); at_builtin; refine print_append_row (w0 := v1.alloc (.cells #[.int .u8 92] 5)) w.heap.size rfl (.tmp 80) (.tmp 81) 32 5 .u8 1 rfl Tryd.underlying32 info5 (by decide) u6 out [92] _ 1 1 rfl rfl (O.out.alloc _) (by simpa [nums] using lit_reads v1 [92] (by simp)) (Below.refl _ _) (Nat.le_trans hsz (by simp)) (by simp; omega) ?_; intro x1 wA hO1 hB1 hg1 hg2; clear hg1 hg2)
                      have hB2 : Below w.heap.size v1 wA := ((Below.refl w.heap.size v1).alloc hsz _).trans hB1
                      have S2 := Lib.hid (S.out.low hB2 hbb); have U2 := Lib.hid (U.out.grow hB2 (Nat.le_of_lt hbb)); have O2 := Lib.hid (show OB wA w.heap.size x1 (out ++ [92]) from hO1)
                      clear S U O hO1 hB1 hB2 hsz
                      have S := S2; have U := U2; have O := O2; clear S2 U2 O2
                      go_wp2_with fail
                      refine (onC b s (x + 1) y (z + 1) _ S.out (by omega) (by omega) (by omega) ⟨by omega, by omega⟩ ⟨by omega, by omega⟩ (U.out.tabs hb2 HT.out) (Nat.le_trans hb2 (Nat.le_of_lt S.out.lt))).mono ?_
                      rintro e w9 ⟨rfl, hS9, hU9⟩
                      rw [f1.2.1, f1.2.2.1, f1.2.2.2] at hS9
                      have S2 := Lib.hid hS9; have U2 := Lib.hid (U.out.trans hU9); have O2 := Lib.hid (O.out.upd hU9 hbb)
                      clear S U O hS9 hU9
                      have S := S2; have U := U2; have O := O2; clear S2 U2 O2
                      go_wp2_with fail
                      go_roundw
                      case measure => rw [posOf_sc S.out, pos0.out]; omega
                      case rel => exact ⟨k, x + 1 + 1, y, z + 1 + 1, _, by omega, by omega, by omega, ⟨by omega, by omega⟩, ⟨by omega, by omega⟩, by simp; omega, O.out, S.out, U.out, HF.out⟩
                  · skip
                    have hB : bt s (x + 1) = 34 := by rw [← beq_iff_eq, ← rE_byte s (x + 1) (by omega) hx1 34 (by omega) (by omega)]; exact k2
                    have r2e : rE s (x + 1) = 34 := by simpa using k2
                    have HF := Lib.hid ((HTY.out.trans (by rw [esc_q s x 34 hx1 hB (.inl rfl)] <;> (show txt s a k (x + 2) y (z + 2) _ = _; rw [show x + 2 = x + 1 + 1 by omega, show z + 2 = z + 1 + 1 by omega]) : _ = txt s a k (x + 1 + 1) y (z + 1 + 1) (out ++ [34]))).symm.trans HR.out)
                    clear HTY HR
                    have f1 := ascii_at s (x + 1) y (z + 1) (by omega) hx1 (by omega) (by omega)
                    go_wp2_with fail
                    refine (cR _ S.out (U.out.tabs hb2 HT.out) (Nat.le_trans hb2 (Nat.le_of_lt S.out.lt))).mono ?_
                    rintro e v1 ⟨rfl, hb⟩
                    have S2 := Lib.hid (S.out.below hb)
                    have U2 := Lib.hid (U.out.trans (Upd.of_below hb (Nat.le_of_lt S.out.lt)))
                    have O2 := Lib.hid (O.out.below hb)
                    clear S U O hb
                    have S := S2; have U := U2; have O := O2; clear S2 U2 O2
                    go_wp2_with fail
                    refine (cW _ S.out (U.out.tabs hb2 HT.out) (Nat.le_trans hb2 (Nat.le_of_lt S.out.lt))).mono ?_
                    rintro e v1 ⟨rfl, hb⟩
                    have S2 := Lib.hid (S.out.below hb)
                    have U2 := Lib.hid (U.out.trans (Upd.of_below hb (Nat.le_of_lt S.out.lt)))
                    have O2 := Lib.hid (O.out.below hb)
                    clear S U O hb
                    have S := S2; have U := U2; have O := O2; clear S2 U2 O2
                    have g1 := S.out.cell 1
                    simp only [List.getElem?_toArray, List.getElem?_cons_succ, List.getElem?_cons_zero] at g1
                    go_wp2_with fail
                    refine (cO _ S.out (U.out.tabs hb2 HT.out) (Nat.le_trans hb2 (Nat.le_of_lt S.out.lt))).mono ?_
                    rintro e w9 ⟨rfl, hS9, hU9⟩
                    have S2 := Lib.hid hS9; have U2 := Lib.hid (U.out.trans hU9); have O2 := Lib.hid (O.out.upd hU9 hbb)
                    clear S U O hS9 hU9
                    have S := S2; have U := U2; have O := O2; clear S2 U2 O2
                    clear g1
                    go_wp2_with fail
                    refine (runeC b s (x + 1) y (z + 1) _ S.out (by omega) (by omega) (U.out.tabs hb2 HT.out) (Nat.le_trans hb2 (Nat.le_of_lt S.out.lt))).mono ?_
                    rintro e v1 ⟨rfl, hb⟩
                    rw [r2e]
                    have S2 := Lib.hid (S.out.below hb)
                    have U2 := Lib.hid (U.out.trans (Upd.of_below hb (Nat.le_of_lt S.out.lt)))
                    have O2 := Lib.hid (O.out.below hb)
                    clear S U O hb
                    have S := S2; have U := U2; have O := O2; clear S2 U2 O2
                    have hsz := U.out.2.1
                    go_wp2_with ((with_reducible refine gate_builtin (b := .append) (xs := #[.tmp 75, .tmp 76]) rfl ?_); at_builtin; refine print_append_row (w0 := v1.alloc (.cells #[.int .u8 34] 5)) w.heap.size rfl (.tmp 75) (.tmp 76) 32 5 .u8 1 rfl Tryd.underlying32 info5 (by decide) u6 out [34] _ 1 1 rfl rfl (O.out.alloc _) (by simpa [nums] using lit_reads v1 [34] (by simp)) (Below.refl _ _) (Nat.le_trans hsz (by simp)) (by simp; omega) ?_; intro x1 wA hO1 hB1 hg1 hg2; clear hg1 hg2)
                    have hB2 : Below w.heap.size v1 wA := ((Below.refl w.heap.size v1).alloc hsz _).trans hB1
                    have S2 := Lib.hid (S.out.low hB2 hbb); have U2 := Lib.hid (U.out.grow hB2 (Nat.le_of_lt hbb)); have O2 := Lib.hid (show OB wA w.heap.size x1 (out ++ [34]) from hO1)
                    clear S U O hO1 hB1 hB2 hsz
                    have S := S2; have U := U2; have O := O2; clear S2 U2 O2
                    go_wp2_with fail
                    refine (onC b s (x + 1) y (z + 1) _ S.out (by omega) (by omega) (by omega) ⟨by omega, by omega⟩ ⟨by omega, by omega⟩ (U.out.tabs hb2 HT.out) (Nat.le_trans hb2 (Nat.le_of_lt S.out.lt))).mono ?_
                    rintro e w9 ⟨rfl, hS9, hU9⟩
                    rw [f1.2.1, f1.2.2.1, f1.2.2.2] at hS9
                    have S2 := Lib.hid hS9; have U2 := Lib.hid (U.out.trans hU9); have O2 := Lib.hid (O.out.upd hU9 hbb)
                    clear S U O hS9 hU9
                    have S := S2; have U := U2; have O := O2; clear S2 U2 O2
                    go_wp2_with fail
                    go_roundw
                    case measure => rw [posOf_sc S.out, pos0.out]; omega
                    case rel => exact ⟨k, x + 1 + 1, y, z + 1 + 1, _, by omega, by omega, by omega, ⟨by omega, by omega⟩, ⟨by omega, by omega⟩, by simp; omega, O.out, S.out, U.out, HF.out⟩
                · skip
                  have hB : bt s (x + 1) = 110 := by rw [← beq_iff_eq, ← rE_byte s (x + 1) (by omega) hx1 110 (by omega) (by omega)]; exact k1
                  have r2e : rE s (x + 1) = 110 := by simpa using k1
                  have HF := Lib.hid ((HTY.out.trans (by rw [esc_n s x hx1 hB] <;> (show txt s a k (x + 2) y (z + 2) _ = _; rw [show x + 2 = x + 1 + 1 by omega, show z + 2 = z + 1 + 1 by omega]) : _ = txt s a k (x + 1 + 1) y (z + 1 + 1) (out ++ [10]))).symm.trans HR.out)
                  clear HTY HR
                  have f1 := ascii_at s (x + 1) y (z + 1) (by omega) hx1 (by omega) (by omega)
                  go_wp2_with fail
                  refine (cR _ S.out (U.out.tabs hb2 HT.out) (Nat.le_trans hb2 (Nat.le_of_lt S.out.lt))).mono ?_
                  rintro e v1 ⟨rfl, hb⟩
                  have S2 := Lib.hid (S.out.below hb)
                  have U2 := Lib.hid (U.out.trans (Upd.of_below hb (Nat.le_of_lt S.out.lt)))
                  have O2 := Lib.hid (O.out.below hb)
                  clear S U O hb
                  have S := S2; have U := U2; have O := O2; clear S2 U2 O2
                  go_wp2_with fail
                  refine (cW _ S.out (U.out.tabs hb2 HT.out) (Nat.le_trans hb2 (Nat.le_of_lt S.out.lt))).mono ?_
                  rintro e v1 ⟨rfl, hb⟩
                  have S2 := Lib.hid (S.out.below hb)
                  have U2 := Lib.hid (U.out.trans (Upd.of_below hb (Nat.le_of_lt S.out.lt)))
                  have O2 := Lib.hid (O.out.below hb)
                  clear S U O hb
                  have S := S2; have U := U2; have O := O2; clear S2 U2 O2
                  have g1 := S.out.cell 1
                  simp only [List.getElem?_toArray, List.getElem?_cons_succ, List.getElem?_cons_zero] at g1
                  go_wp2_with fail
                  refine (cO _ S.out (U.out.tabs hb2 HT.out) (Nat.le_trans hb2 (Nat.le_of_lt S.out.lt))).mono ?_
                  rintro e w9 ⟨rfl, hS9, hU9⟩
                  have S2 := Lib.hid hS9; have U2 := Lib.hid (U.out.trans hU9); have O2 := Lib.hid (O.out.upd hU9 hbb)
                  clear S U O hS9 hU9
                  have S := S2; have U := U2; have O := O2; clear S2 U2 O2
                  clear g1
                  go_wp2_with fail
                  refine (runeC b s (x + 1) y (z + 1) _ S.out (by omega) (by omega) (U.out.tabs hb2 HT.out) (Nat.le_trans hb2 (Nat.le_of_lt S.out.lt))).mono ?_
                  rintro e v1 ⟨rfl, hb⟩
                  rw [r2e]
                  have S2 := Lib.hid (S.out.below hb)
                  have U2 := Lib.hid (U.out.trans (Upd.of_below hb (Nat.le_of_lt S.out.lt)))
                  have O2 := Lib.hid (O.out.below hb)
                  clear S U O hb
                  have S := S2; have U := U2; have O := O2; clear S2 U2 O2
                  have hsz := U.out.2.1
                  go_wp2_with ((with_reducible refine gate_builtin (b := .append) (xs := #[.tmp 70, .tmp 71]) rfl ?_); at_builtin; refine print_append_row (w0 := v1.alloc (.cells #[.int .u8 10] 5)) w.heap.size rfl (.tmp 70) (.tmp 71) 32 5 .u8 1 rfl Tryd.underlying32 info5 (by decide) u6 out [10] _ 1 1 rfl rfl (O.out.alloc _) (by simpa [nums] using lit_reads v1 [10] (by simp)) (Below.refl _ _) (Nat.le_trans hsz (by simp)) (by simp; omega) ?_; intro x1 wA hO1 hB1 hg1 hg2; clear hg1 hg2)
                  have hB2 : Below w.heap.size v1 wA := ((Below.refl w.heap.size v1).alloc hsz _).trans hB1
                  have S2 := Lib.hid (S.out.low hB2 hbb); have U2 := Lib.hid (U.out.grow hB2 (Nat.le_of_lt hbb)); have O2 := Lib.hid (show OB wA w.heap.size x1 (out ++ [10]) from hO1)
                  clear S U O hO1 hB1 hB2 hsz
                  have S := S2; have U := U2; have O := O2; clear S2 U2 O2
                  go_wp2_with fail
                  refine (onC b s (x + 1) y (z + 1) _ S.out (by omega) (by omega) (by omega) ⟨by omega, by omega⟩ ⟨by omega, by omega⟩ (U.out.tabs hb2 HT.out) (Nat.le_trans hb2 (Nat.le_of_lt S.out.lt))).mono ?_
                  rintro e w9 ⟨rfl, hS9, hU9⟩
                  rw [f1.2.1, f1.2.2.1, f1.2.2.2] at hS9
                  have S2 := Lib.hid hS9; have U2 := Lib.hid (U.out.trans hU9); have O2 := Lib.hid (O.out.upd hU9 hbb)
                  clear S U O hS9 hU9
                  have S := S2; have U := U2; have O := O2; clear S2 U2 O2
                  go_wp2_with fail
                  go_roundw
                  case measure => rw [posOf_sc S.out, pos0.out]; omega
                  case rel => exact ⟨k, x + 1 + 1, y, z + 1 + 1, _, by omega, by omega, by omega, ⟨by omega, by omega⟩, ⟨by omega, by omega⟩, by simp; omega, O.out, S.out, U.out, HF.out⟩
              · have HF := Lib.hid (HR.out.symm.trans (HTY.out.trans (by rw [esc_out s x (by omega)] <;> rfl)))
                clear HTY HR
                have r2e : rE s (x + 1) = -1 := by unfold rE; rw [if_neg hx1]
                go_wp2_with fail
                refine (cR _ S.out (U.out.tabs hb2 HT.out) (Nat.le_trans hb2 (Nat.le_of_lt S.out.lt))).mono ?_
                rintro e v1 ⟨rfl, hb⟩
                have S2 := Lib.hid (S.out.below hb)
                have U2 := Lib.hid (U.out.trans (Upd.of_below hb (Nat.le_of_lt S.out.lt)))
                have O2 := Lib.hid (O.out.below hb)
                clear S U O hb
                have S := S2; have U := U2; have O := O2; clear S2 U2 O2
                go_wp2_with fail
                refine (cW _ S.out (U.out.tabs hb2 HT.out) (Nat.le_trans hb2 (Nat.le_of_lt S.out.lt))).mono ?_
                rintro e v1 ⟨rfl, hb⟩
                have S2 := Lib.hid (S.out.below hb)
                have U2 := Lib.hid (U.out.trans (Upd.of_below hb (Nat.le_of_lt S.out.lt)))
                have O2 := Lib.hid (O.out.below hb)
                clear S U O hb
                have S := S2; have U := U2; have O := O2; clear S2 U2 O2
                have g1 := S.out.cell 1
                simp only [List.getElem?_toArray, List.getElem?_cons_succ, List.getElem?_cons_zero] at g1
                go_wp2_with fail
                refine (cO _ S.out (U.out.tabs hb2 HT.out) (Nat.le_trans hb2 (Nat.le_of_lt S.out.lt))).mono ?_
                rintro e w9 ⟨rfl, hS9, hU9⟩
                have S2 := Lib.hid hS9; have U2 := Lib.hid (U.out.trans hU9); have O2 := Lib.hid (O.out.upd hU9 hbb)
                clear S U O hS9 hU9
                have S := S2; have U := U2; have O := O2; clear S2 U2 O2
                clear g1
                go_wp2_with fail
                refine (runeC b s (x + 1) y (z + 1) _ S.out (by omega) (by omega) (U.out.tabs hb2 HT.out) (Nat.le_trans hb2 (Nat.le_of_lt S.out.lt))).mono ?_
                rintro e v1 ⟨rfl, hb⟩
                rw [r2e]
                have S2 := Lib.hid (S.out.below hb)
                have U2 := Lib.hid (U.out.trans (Upd.of_below hb (Nat.le_of_lt S.out.lt)))
                have O2 := Lib.hid (O.out.below hb)
                clear S U O hb
                have S := S2; have U := U2; have O := O2; clear S2 U2 O2
                go_wp2_with fail
                go_ret3
                exact ⟨by rw [HF.out]; rfl, (fun hh => by rw [HF.out] at hh; cases hh), U.out⟩
        · have HP34 := Lib.hid (show r = 34 by simpa using k34)
          have q := decide_eq_false (show ¬ r < 32 by simp at k34; omega)
          have h3 := H34.out HP34.out
          obtain ⟨-, e2, e3, e4⟩ := h3
          subst e2; subst e3; subst e4
          have HF := Lib.hid (HR.out.symm.trans (HTX.out.trans ((if_neg HX.out).trans (if_pos HP34.out))))
          clear HTX HX HP34 HR HWR H34 H92 HY HZ
          go_wp2_with fail
          refine (cR _ S.out (U.out.tabs hb2 HT.out) (Nat.le_trans hb2 (Nat.le_of_lt S.out.lt))).mono ?_
          rintro e v1 ⟨rfl, hb⟩
          have S2 := Lib.hid (S.out.below hb)
          have U2 := Lib.hid (U.out.trans (Upd.of_below hb (Nat.le_of_lt S.out.lt)))
          have O2 := Lib.hid (O.out.below hb)
          clear S U O hb
          have S := S2; have U := U2; have O := O2; clear S2 U2 O2
          go_wp2_with fail
          refine (cW _ S.out (U.out.tabs hb2 HT.out) (Nat.le_trans hb2 (Nat.le_of_lt S.out.lt))).mono ?_
          rintro e v1 ⟨rfl, hb⟩
          have S2 := Lib.hid (S.out.below hb)
          have U2 := Lib.hid (U.out.trans (Upd.of_below hb (Nat.le_of_lt S.out.lt)))
          have O2 := Lib.hid (O.out.below hb)
          clear S U O hb
          have S := S2; have U := U2; have O := O2; clear S2 U2 O2
          go_wp2_with fail
          refine (cO _ S.out (U.out.tabs hb2 HT.out) (Nat.le_trans hb2 (Nat.le_of_lt S.out.lt))).mono ?_
          rintro e w9 ⟨rfl, hS9, hU9⟩
          have S2 := Lib.hid hS9; have U2 := Lib.hid (U.out.trans hU9); have O2 := Lib.hid (O.out.upd hU9 hbb)
          clear S U O hS9 hU9
          have S := S2; have U := U2; have O := O2; clear S2 U2 O2
          have hcs := own_string (P := Tryd.prog) Tryd.underlying32 Tryd.underlying5 Tryd.underlying9 O.out
          go_wp2_with fail
          go_ret3
          exact ⟨by rw [HF.out]; rfl, (fun _ => by rw [HF.out]; exact S.out), U.out⟩
      · have HPW := Lib.hid (show true = true from rfl)
        have HN34 := Lib.hid (show ¬ r = 34 from fun hh => by have := HWR.out hh; cases this)
        have HF := Lib.hid (HR.out.symm.trans (HTX.out.trans ((if_neg HX.out).trans ((if_neg HN34.out).trans (if_pos HPW.out)))))
        clear HTX HX HPW HN34 HR HWR H34 H92 HY HZ cO
        go_wp2_with fail
        refine (cR _ S.out (U.out.tabs hb2 HT.out) (Nat.le_trans hb2 (Nat.le_of_lt S.out.lt))).mono ?_
        rintro e v1 ⟨rfl, hb⟩
        have S2 := Lib.hid (S.out.below hb)
        have U2 := Lib.hid (U.out.trans (Upd.of_below hb (Nat.le_of_lt S.out.lt)))
        have O2 := Lib.hid (O.out.below hb)
        clear S U O hb
        have S := S2; have U := U2; have O := O2; clear S2 U2 O2
        go_wp2_with fail
        refine (cW _ S.out (U.out.tabs hb2 HT.out) (Nat.le_trans hb2 (Nat.le_of_lt S.out.lt))).mono ?_
        rintro e v1 ⟨rfl, hb⟩
        have S2 := Lib.hid (S.out.below hb)
        have U2 := Lib.hid (U.out.trans (Upd.of_below hb (Nat.le_of_lt S.out.lt)))
        have O2 := Lib.hid (O.out.below hb)
        clear S U O hb
        have S := S2; have U := U2; have O := O2; clear S2 U2 O2
        have g1 := S.out.cell 1
        simp only [List.getElem?_toArray, List.getElem?_cons_succ, List.getElem?_cons_zero] at g1
        go_wp2_with fail
        go_quiet (fail)
        go_wp2_with fail
        go_ret3
        exact ⟨by rw [HF.out]; rfl, (fun hh => by rw [HF.out] at hh; cases hh), U.out.trans (Upd.of_below (pw_below_drewN (Below.refl _ _) _) (Nat.le_of_lt S.out.lt))⟩
    · have eR : rE s x = -1 := by unfold rE; rw [if_neg hlt]
      have eW : wE s x = false := by unfold wE; rw [decide_eq_false hlt]; rfl
      have HF := Lib.hid (HR.out.symm.trans (show txt s a (k + 1) x y z out = (4, a, [], x, y, z) by unfold txt; rw [if_pos (by omega)]))
      have cR := fun V (hV : Sc V b s x y z) hVT hV2 => runeC b s x y z V hV hx0 (by omega) hVT hV2
      have cW := fun V (hV : Sc V b s x y z) hVT hV2 => wrongC b s x y z V hV hx0 (by omega) hVT hV2
      rw [eR] at cR
      rw [eW] at cW
      clear eR eW HR
      go_wp2_with fail
      refine (cR _ S.out (U.out.tabs hb2 HT.out) (Nat.le_trans hb2 (Nat.le_of_lt S.out.lt))).mono ?_
      rintro e v1 ⟨rfl, hb⟩
      have S2 := Lib.hid (S.out.below hb)
      have U2 := Lib.hid (U.out.trans (Upd.of_below hb (Nat.le_of_lt S.out.lt)))
      have O2 := Lib.hid (O.out.below hb)
      clear S U O hb
      have S := S2; have U := U2; have O := O2; clear S2 U2 O2
      go_wp2_with fail
      refine (cW _ S.out (U.out.tabs hb2 HT.out) (Nat.le_trans hb2 (Nat.le_of_lt S.out.lt))).mono ?_
      rintro e v1 ⟨rfl, hb⟩
      have S2 := Lib.hid (S.out.below hb)
      have U2 := Lib.hid (U.out.trans (Upd.of_below hb (Nat.le_of_lt S.out.lt)))
      have O2 := Lib.hid (O.out.below hb)
      clear S U O hb
      have S := S2; have U := U2; have O := O2; clear S2 U2 O2
      go_wp2_with fail
      go_ret3
      exact ⟨by rw [HF.out]; rfl, (fun hh => by rw [HF.out] at hh; cases hh), U.out⟩
end Go.Proofs.YtgiaogocdihhhaaDoor.Tex
