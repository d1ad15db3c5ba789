/- Tokens: an escape, and a text's lexeme, the specification's; the plain machine of a text. -/
import Derived.Test.YtgiaogocdihhhaaDoorTokE
import Derived.Test.YtgiaogocdihhhaaDoorTexO
namespace Go.Proofs.YtgiaogocdihhhaaDoor.Tex
open Go.RowKit Go.Proofs.YtgiaogocdihhhaaDoorW.PrintWords Go.Proofs.YtgiaogocdihhhaaDoorW.PrintLast Go.Proofs.YtgiaogocdihhhaaDoorW.PrintMore Go.Proofs.YtgiaogocdihhhaaDoor.PFnExactTokens
set_option linter.unusedVariables false
set_option linter.unusedSimpArgs false

theorem i64_ok {x : Int} (h0 : -9223372036854775808 ≤ x) (h1 : x ≤ 9223372036854775807) : IntKind.wrap .i64 x = x := by rw [i64_w]; exact wrap_ok h0 h1
theorem nm_w {P : Program} {c : Code} {Q : Exit → Act → World → Prop} {a : Act} {w : World} (h : ∀ E, E = w → c.wp P Q a E) : c.wp P Q a w := h w rfl
set_option maxHeartbeats 4000000 in
set_option maxRecDepth 100000 in
theorem escC (s : ByteArray) (a : Int) (w : World) (h0 : 0 ≤ a) (h : a < (s.size : Int)) (hs : s.size ≤ 1099511627776) :
    Calls Tryd.prog 67 #[.string s, .int .i64 a] w fun e w' => e = .returned (.tuple #[.int .u8 (esc s a).1, .int .i64 (esc s a).2]) ∧ Below w.heap.size w w' := by
  have p1 : IntKind.wrap .i64 (a + 1) = a + 1 := i64_ok (by omega) (by omega)
  have p2 : IntKind.wrap .i64 (a + 2) = a + 2 := i64_ok (by omega) (by omega)
  have p3 : IntKind.wrap .i64 (a + 3) = a + 3 := i64_ok (by omega) (by omega)
  unfold esc
  by_cases c1 : (s.size : Int) ≤ a + 1
  · rw [if_pos c1]
    have q1 := decide_eq_true c1
    go_enter Tryd.func67, Tryd.ntmps67
    go_wp2_with fail
    go_ret2
    exact ⟨rfl, Below.refl _ _⟩
  · rw [if_neg c1]
    have q1 := decide_eq_false c1
    have x1 := bt_at s (a + 1)
    have r1 := bt_range s (a + 1)
    obtain ⟨B, hB⟩ : ∃ B, bt s (a + 1) = B := ⟨_, rfl⟩
    rw [hB] at x1 r1 ⊢
    clear hB
    have b1 : (0 ≤ a + 1) = True := eq_true (by omega)
    have b2 : (a + 1 < (s.size : Int)) = True := eq_true (by omega)
    rcases k1 : (B == 110) with _ | _
    · have k1' : ¬ B = 110 := by simpa using k1
      rw [if_neg k1']
      clear k1'
      rcases k2 : (B == 34) with _ | _
      · rcases k3 : (B == 92) with _ | _
        · have k23 : ¬ (B = 34 ∨ B = 92) := by simp at k2 k3; omega
          rw [if_neg k23]
          clear k23
          rcases k4 : (B == 120) with _ | _
          · have k4' : ¬ (B = 120 ∧ a + 3 < (s.size : Int) ∧ 0 ≤ hx (bt s (a + 2)) ∧ 0 ≤ hx (bt s (a + 3))) := by simp at k4; omega
            rw [if_neg k4']
            clear k4'
            go_enter Tryd.func67, Tryd.ntmps67
            go_wp2_with fail
            go_ret2
            exact ⟨rfl, Below.refl _ _⟩
          · have k4' : B = 120 := by simpa using k4
            by_cases c3 : a + 3 < (s.size : Int)
            · have x2 := bt_at s (a + 2)
              have r2 := bt_range s (a + 2)
              have x3 := bt_at s (a + 3)
              have r3 := bt_range s (a + 3)
              have l2 := hx_le _ r2
              have l3 := hx_le _ r3
              obtain ⟨B2, hB2⟩ : ∃ B, bt s (a + 2) = B := ⟨_, rfl⟩
              obtain ⟨B3, hB3⟩ : ∃ B, bt s (a + 3) = B := ⟨_, rfl⟩
              rw [hB2] at x2 r2 l2 ⊢
              rw [hB3] at x3 r3 l3 ⊢
              clear hB2 hB3
              have q3 := decide_eq_true c3
              have b3 : (0 ≤ a + 2) = True := eq_true (by omega)
              have b4 : (a + 2 < (s.size : Int)) = True := eq_true (by omega)
              have b5 : (0 ≤ a + 3) = True := eq_true (by omega)
              have b6 : (a + 3 < (s.size : Int)) = True := eq_true (by omega)
              by_cases d2 : 0 ≤ hx B2
              · have e2 := decide_eq_true d2
                by_cases d3 : 0 ≤ hx B3
                · have e3 := decide_eq_true d3
                  rw [if_pos ⟨k4', c3, d2, d3⟩]
                  have p5 : IntKind.wrap .i64 (16 * hx B2) = 16 * hx B2 := i64_ok (by omega) (by omega)
                  have p6 : IntKind.wrap .i64 (16 * hx B2 + hx B3) = 16 * hx B2 + hx B3 := i64_ok (by omega) (by omega)
                  have p7 : IntKind.wrap .u8 (16 * hx B2 + hx B3) = 16 * hx B2 + hx B3 := by simp [IntKind.wrap, IntKind.bits, IntKind.signed]; omega
                  go_enter Tryd.func67, Tryd.ntmps67
                  go_wp2_with (go_at_call 77; refine (shexC _ _ (by assumption)).mono ?_; rintro e w' ⟨rfl, n, rfl⟩)
                  refine nm_w fun E hE => ?_
                  have hEb : Below w.heap.size w E := by rw [hE]; exact pw_below_drewN (Below.refl _ _) _
                  clear hE
                  go_quiet ((go_at_call 77; exact Calls.quiet_of (shexC _ _ (by assumption))))
                  go_wp2_with fail
                  go_ret2
                  exact ⟨rfl, pw_below_drewN hEb _⟩
                · have e3 := decide_eq_false d3
                  rw [if_neg (fun hh => d3 hh.2.2.2)]
                  go_enter Tryd.func67, Tryd.ntmps67
                  go_wp2_with (go_at_call 77; refine (shexC _ _ (by assumption)).mono ?_; rintro e w' ⟨rfl, n, rfl⟩)
                  go_ret2
                  exact ⟨rfl, pw_below_drewN (Below.refl _ _) _⟩
              · have e2 := decide_eq_false d2
                rw [if_neg (fun hh => d2 hh.2.2.1)]
                go_enter Tryd.func67, Tryd.ntmps67
                go_wp2_with (go_at_call 77; refine (shexC _ _ (by assumption)).mono ?_; rintro e w' ⟨rfl, n, rfl⟩)
                go_ret2
                exact ⟨rfl, pw_below_drewN (Below.refl _ _) _⟩
            · have q3 := decide_eq_false c3
              rw [if_neg (fun hh => c3 hh.2.1)]
              go_enter Tryd.func67, Tryd.ntmps67
              go_wp2_with fail
              go_ret2
              exact ⟨rfl, Below.refl _ _⟩
        · have k3' : B = 92 := by simpa using k3
          rw [if_pos (Or.inr k3')]
          go_enter Tryd.func67, Tryd.ntmps67
          go_wp2_with fail
          go_ret2
          exact ⟨rfl, Below.refl _ _⟩
      · have k2' : B = 34 := by simpa using k2
        rw [if_pos (Or.inl k2')]
        go_enter Tryd.func67, Tryd.ntmps67
        go_wp2_with fail
        go_ret2
        exact ⟨rfl, Below.refl _ _⟩
    · have k1' : B = 110 := by simpa using k1
      rw [if_pos k1']
      go_enter Tryd.func67, Tryd.ntmps67
      go_wp2_with fail
      go_ret2
      exact ⟨rfl, Below.refl _ _⟩

theorem results_tmp4 {fn : Func} {t u v x : Tmp} (h : fn.results = #[.tmp t, .tmp u, .tmp v, .tmp x]) (tmps : Array Value) (P : Program) (w : World) :
    (results fn tmps).run P w = .ok (.tuple #[tmps.getD t undef, tmps.getD u undef, tmps.getD v undef, tmps.getD x undef]) w := by
  simp [results, h]
/-- A text from a place behind its quote on: a code, its place, the bytes, and where it ends. -/
def txt (s : ByteArray) (from_ : Int) : Nat → Int → Int → Int → List Int → Int × Int × List Int × Int × Int × Int
  | 0, a, l, c, _ => (4, from_, [], a, l, c)
  | n + 1, a, l, c, out =>
    if (s.size : Int) ≤ a then (4, from_, [], a, l, c)
    else if rI s a = 34 then (0, 0, out, a + 1, l, c + 1)
    else if wrongB s a = true then (3, a, [], a, l, c)
    else if rI s a < 32 then (4, from_, [], a, l, c)
    else if rI s a = 92 then (if (esc s a).2 = 0 then (4, a, [], a, l, c) else txt s from_ n (a + (esc s a).2) l (c + (esc s a).2) (out ++ [(esc s a).1]))
    else txt s from_ n (a + nI s a) (lin s a l) (col s a c) (out ++ bytesOf (sub s a))
theorem esc_range (s : ByteArray) (a : Int) (h0 : 0 ≤ a) (h : a < (s.size : Int)) : 0 ≤ (esc s a).1 ∧ (esc s a).1 ≤ 255 ∧ ((esc s a).2 = 0 ∨ (esc s a).2 = 2 ∨ (esc s a).2 = 4) ∧ a + (esc s a).2 ≤ (s.size : Int) := by
  have r1 := bt_range s (a + 1)
  have l2 := hx_le _ (bt_range s (a + 2))
  have l3 := hx_le _ (bt_range s (a + 3))
  unfold esc
  split
  · simp; omega
  · split
    · simp; omega
    · split
      · simp; omega
      · split
        · simp; omega
        · simp; omega
set_option maxHeartbeats 4000000 in
set_option maxRecDepth 100000 in
theorem stextC (s : ByteArray) (at_ : Int) (w : World) (h0 : 0 ≤ at_) (h : at_ < (s.size : Int)) (hs : s.size ≤ 1073741824) (n : Nat) (l c : Int) (hn : s.size < n + (at_ + 1).toNat) (R : Int × Int × List Int × Int × Int × Int) (hR : txt s at_ n (at_ + 1) l c [] = R) :
    Calls Tryd.prog 50 #[.string s, .int .i64 at_] w fun e w' => e = .returned (.tuple #[.string (strOfNums R.2.2.1), .int .i64 (if R.1 = 0 then R.2.2.2.1 else 0), .int .i64 R.1, .int .i64 R.2.1]) ∧ Below w.heap.size w w' := by
  have HR := Lib.hid hR
  clear hR
  obtain ⟨E0, hE0⟩ : ∃ E0, (if R.1 = 0 then R.2.2.2.1 else 0) = E0 := ⟨_, rfl⟩
  rw [hE0]
  have HE := Lib.hid hE0
  clear hE0
  have pa : IntKind.wrap .i64 (at_ + 1) = at_ + 1 := i64_ok (by omega) (by omega)
  go_enter Tryd.func50, Tryd.ntmps50
  go_wp2_with fail
  go_loopw [8, 9] (fun o i wr => ∃ (n : Nat) (x y z : Int) (out : List Int), i = .int .i64 x ∧ 0 ≤ x ∧ x ≤ (s.size : Int) ∧ s.size < n + x.toNat ∧ (out.length : Int) ≤ x ∧ OB wr w.heap.size o out ∧ Below w.heap.size w wr ∧ txt s at_ n x y z out = R) (fun _ i _ => s.size - (intOf i).toNat)
  case atStart => exact ⟨n, at_ + 1, l, c, [], rfl, by omega, by omega, hn, by simp; omega, by simpa [nums] using OB.lit w w.heap.size [] (by simp) (by decide), below_alloc (Below.refl _ _) _, HR.out⟩
  case round =>
    clear HR
    obtain ⟨n, x, y, z, out, rfl, hx0, hxs, hn, hol, hO, hB, hR⟩ := hrel
    have HO := Lib.hid hO; have HB := Lib.hid hB; have HR := Lib.hid hR
    clear hO hB hR
    obtain ⟨k, rfl⟩ : ∃ k, n = k + 1 := ⟨n - 1, by omega⟩
    by_cases hlt : x < (s.size : Int)
    · have hrange := rI_range s x hx0 hlt
      have cR := fun W => l01RuneC s x W hx0 hlt (by omega)
      have cW := fun W => l01WrongC s x W hx0 hlt (by omega)
      have hsub : s.extract x.toNat (x + nI s x).toNat = sub s x := rfl
      have hss := sub_size s x hx0 hlt
      have HT := Lib.hid (show txt s at_ (k + 1) x y z out = if (s.size : Int) ≤ x then (4, at_, [], x, y, z) else if rI s x = 34 then (0, 0, out, x + 1, y, z + 1) else if wrongB s x = true then (3, x, [], x, y, z) else if rI s x < 32 then (4, at_, [], x, y, z) else if rI s x = 92 then (if (esc s x).2 = 0 then (4, x, [], x, y, z) else txt s at_ k (x + (esc s x).2) y (z + (esc s x).2) (out ++ [(esc s x).1])) else txt s at_ k (x + nI s x) (lin s x y) (col s x z) (out ++ bytesOf (sub s x)) from rfl)
      have HX := Lib.hid (show ¬ (s.size : Int) ≤ x by omega)
      obtain ⟨r, hr⟩ : ∃ r, rI s x = r := ⟨_, rfl⟩
      obtain ⟨K, hK⟩ : ∃ K, nI s x = K := ⟨_, rfl⟩
      obtain ⟨wv, hwv⟩ : ∃ wv, wrongB s x = wv := ⟨_, rfl⟩
      rw [hr, hK] at hrange cR
      rw [hr, hK, hwv] at HT
      rw [hK] at hsub hss
      rw [hwv] at cW
      clear hr hK hwv
      obtain ⟨hr1, hr2, hk1, hk2, hk3⟩ := hrange
      rcases k34 : (r == 34) with _ | _
      · have HN34 := Lib.hid (show ¬ r = 34 by simpa using k34)
        rcases wv with _ | _
        · have HNW := Lib.hid (show ¬ false = true by decide)
          by_cases h32 : r < 32
          · have HP := Lib.hid h32
            have q := decide_eq_true h32
            have HF := Lib.hid (HR.out.symm.trans (HT.out.trans ((if_neg HX.out).trans ((if_neg HN34.out).trans ((if_neg HNW.out).trans (if_pos HP.out))))))
            have HF2 := Lib.hid HE.out
            clear HT HX HP HNW HN34 HR
            go_wp2_with (first | (go_at_call 20; refine (cR _).mono ?_; rintro e w2 ⟨rfl, hb⟩) | (go_at_call 23; refine (cW _).mono ?_; rintro e w3 ⟨rfl, hb3⟩))
            ((try simp only [Exit.inBlock, Exit.then]); refine bodyPost_ret (results_tmp4 rfl _ _ _) rfl ?_)
            exact ⟨by rw [← HF2.out, HF.out]; rfl, below_step (below_step HB.out hb) hb3⟩
          · have q := decide_eq_false h32
            have HN32 := Lib.hid h32
            rcases k92 : (r == 92) with _ | _
            · have HN92 := Lib.hid (show ¬ r = 92 by simpa using k92)
              have HF := Lib.hid ((HT.out.trans ((if_neg HX.out).trans ((if_neg HN34.out).trans ((if_neg HNW.out).trans ((if_neg HN32.out).trans (if_neg HN92.out)))))).symm.trans HR.out)
              clear HT HX HN32 HNW HN34 HN92 HR
              have kb := fun W => print_bytes (P := Tryd.prog) 9 32 5 Tryd.underlying9 Tryd.underlying32 Tryd.underlying5 (sub s x) W
              have hK9 : x + K ≤ 9223372036854775807 := by omega
              have hk31 : x ≤ x + K := by omega
              have hk41 : 0 ≤ K := by omega
              have hk51 : 0 ≤ x + K := by omega
              go_wp2_with (first | (go_at_call 20; refine (cR _).mono ?_; rintro e w2 ⟨rfl, hb⟩) | (go_at_call 23; refine (cW _).mono ?_; rintro e w3 ⟨rfl, hb3⟩; have HO1 := Lib.hid ((HO.out.below hb).below hb3); have HB1 := Lib.hid (below_step (below_step HB.out hb) hb3); have hb9 := HB1.out.size; clear hb hb3) | ((with_reducible refine gate_builtin (b := .append) (xs := #[.tmp 62, .tmp 69]) rfl ?_); at_builtin; refine print_append_row (w0 := w) w.heap.size rfl (.tmp 62) (.tmp 69) 32 5 .u8 1 rfl Tryd.underlying32 info5 (by decide) u8 out (bytesOf (sub s x)) _ (sub s x).size _ rfl rfl (show OB _ _ _ _ from HO1.out.below (bytes_below (Below.refl _ _) (Nat.le_refl _) 5 (sub s x))) (bytes_reads w3 5 (sub s x) (by omega)) (bytes_below HB1.out HB1.out.size 5 (sub s x)) (Nat.le_trans HB1.out.size (by rw [Lib.bytesWorld_size]; omega)) (by omega) ?_; intro v1 w1 hO1 hB1 hg1 hg2; clear hg1 hg2))
              have HO2 := Lib.hid (show OB w1 w.heap.size v1 (out ++ bytesOf (sub s x)) from hO1); have HB2 := Lib.hid hB1
              clear hO1 hB1
              go_wp2_with fail
              go_roundw
              case measure => simp [intOf]; omega
              case rel => exact ⟨k, x + K, lin s x y, col s x z, _, rfl, by omega, by omega, by omega, by rw [List.length_append, bytesOf_length]; omega, HO2.out, HB2.out, HF.out⟩
            · have HP92 := Lib.hid (show r = 92 by simpa using k92)
              have hes := esc_range s x hx0 hlt
              have cE := fun W => escC s x W hx0 hlt (by omega)
              obtain ⟨EB, hEB⟩ : ∃ EB, (esc s x).1 = EB := ⟨_, rfl⟩
              obtain ⟨EK, hEK⟩ : ∃ EK, (esc s x).2 = EK := ⟨_, rfl⟩
              rw [hEB, hEK] at hes cE HT
              clear hEB hEK
              have hp : IntKind.wrap .i64 (x + EK) = x + EK := i64_ok (by omega) (by omega)
              rcases kz : (EK == 0) with _ | _
              · have HNZ := Lib.hid (show ¬ EK = 0 by simpa using kz)
                have hEk : 2 ≤ EK := by have := HNZ.out; omega
                have HF := Lib.hid ((HT.out.trans ((if_neg HX.out).trans ((if_neg HN34.out).trans ((if_neg HNW.out).trans ((if_neg HN32.out).trans ((if_pos HP92.out).trans (if_neg HNZ.out))))))).symm.trans HR.out)
                clear HT HX HN32 HNW HN34 HP92 HNZ HR
                go_wp2_with (first | (go_at_call 20; refine (cR _).mono ?_; rintro e w2 ⟨rfl, hb⟩) | (go_at_call 23; refine (cW _).mono ?_; rintro e w4 ⟨rfl, hb4⟩) | (go_at_call 67; refine (cE _).mono ?_; rintro e w3 ⟨rfl, hb3⟩; have HO1 := Lib.hid (((HO.out.below hb).below hb4).below hb3); have HB1 := Lib.hid (below_step (below_step (below_step HB.out hb) hb4) hb3); clear hb hb3 hb4) | ((with_reducible refine gate_builtin (b := .append) (xs := #[.tmp 55, .tmp 57]) rfl ?_); at_builtin; refine print_append_row (w0 := w) w.heap.size rfl (.tmp 55) (.tmp 57) 32 5 .u8 1 rfl Tryd.underlying32 info5 (by decide) u8 out [EB] _ 1 1 rfl rfl (HO1.out.alloc _) (by simpa [nums] using lit_reads w3 [EB] (by simp)) (below_alloc HB1.out _) (below_alloc HB1.out _).size (by simp; omega) ?_; intro v1 w1 hO1 hB1 hg1 hg2; clear hg1 hg2))
                have HO2 := Lib.hid (show OB w1 w.heap.size v1 (out ++ [EB]) from hO1); have HB2 := Lib.hid hB1
                clear hO1 hB1
                go_wp2_with fail
                go_roundw
                case measure => simp [intOf]; omega
                case rel => exact ⟨k, x + EK, y, z + EK, _, rfl, by omega, by omega, by omega, by simp; omega, HO2.out, HB2.out, HF.out⟩
              · have HPZ := Lib.hid (show EK = 0 by simpa using kz)
                have HF := Lib.hid (HR.out.symm.trans (HT.out.trans ((if_neg HX.out).trans ((if_neg HN34.out).trans ((if_neg HNW.out).trans ((if_neg HN32.out).trans ((if_pos HP92.out).trans (if_pos HPZ.out))))))))
                have HF2 := Lib.hid HE.out
                clear HT HX HN32 HNW HN34 HP92 HPZ HR
                go_wp2_with (first | (go_at_call 20; refine (cR _).mono ?_; rintro e w2 ⟨rfl, hb⟩) | (go_at_call 23; refine (cW _).mono ?_; rintro e w4 ⟨rfl, hb4⟩) | (go_at_call 67; refine (cE _).mono ?_; rintro e w3 ⟨rfl, hb3⟩))
                ((try simp only [Exit.inBlock, Exit.then]); refine bodyPost_ret (results_tmp4 rfl _ _ _) rfl ?_)
                exact ⟨by rw [← HF2.out, HF.out]; rfl, below_step (below_step (below_step HB.out hb) hb4) hb3⟩
        · have HPW := Lib.hid (show true = true by rfl)
          have HF := Lib.hid (HR.out.symm.trans (HT.out.trans ((if_neg HX.out).trans ((if_neg HN34.out).trans (if_pos HPW.out)))))
          have HF2 := Lib.hid HE.out
          clear HT HX HPW HN34 HR
          go_wp2_with (first | (go_at_call 20; refine (cR _).mono ?_; rintro e w2 ⟨rfl, hb⟩) | (go_at_call 23; refine (cW _).mono ?_; rintro e w3 ⟨rfl, hb3⟩))
          ((try simp only [Exit.inBlock, Exit.then]); refine bodyPost_ret (results_tmp4 rfl _ _ _) rfl ?_)
          exact ⟨by rw [← HF2.out, HF.out]; rfl, below_step (below_step HB.out hb) hb3⟩
      · have HP34 := Lib.hid (show r = 34 by simpa using k34)
        have HF := Lib.hid (HR.out.symm.trans (HT.out.trans ((if_neg HX.out).trans (if_pos HP34.out))))
        have HF2 := Lib.hid HE.out
        have hp : IntKind.wrap .i64 (x + 1) = x + 1 := i64_ok (by omega) (by omega)
        clear HT HX HP34 HR
        go_wp2_with (go_at_call 20; refine (cR _).mono ?_; rintro e w2 ⟨rfl, hb⟩; have hcs := own_string (P := Tryd.prog) Tryd.underlying32 Tryd.underlying5 Tryd.underlying9 (HO.out.below hb))
        ((try simp only [Exit.inBlock, Exit.then]); refine bodyPost_ret (results_tmp4 rfl _ _ _) rfl ?_)
        exact ⟨by rw [← HF2.out, HF.out]; rfl, below_step HB.out hb⟩
    · have HF := Lib.hid (HR.out.symm.trans (show txt s at_ (k + 1) x y z out = (4, at_, [], x, y, z) by unfold txt; rw [if_pos (by omega)]))
      have HF2 := Lib.hid HE.out
      clear HR
      go_wp2_with fail
      ((try simp only [Exit.inBlock, Exit.then]); refine bodyPost_ret (results_tmp4 rfl _ _ _) rfl ?_)
      exact ⟨by rw [← HF2.out, HF.out]; rfl, HB.out⟩
end Go.Proofs.YtgiaogocdihhhaaDoor.Tex
