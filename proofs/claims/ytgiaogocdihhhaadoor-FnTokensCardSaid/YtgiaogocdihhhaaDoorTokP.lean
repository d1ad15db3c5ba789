/- Tokens: up to a place, rune by rune; what ends there. -/
import Derived.Test.YtgiaogocdihhhaaDoorTokL
namespace Go.Proofs.YtgiaogocdihhhaaDoor.Tex
open Go.RowKit Go.Proofs.YtgiaogocdihhhaaDoorW.PrintWords Go.Proofs.YtgiaogocdihhhaaDoorW.PrintLast Go.Proofs.YtgiaogocdihhhaaDoorW.PrintMore Go.Proofs.YtgiaogocdihhhaaDoor.PFnExactTokens
set_option linter.unusedVariables false
set_option linter.unusedSimpArgs false

/-- Rune by rune up to a place. -/
def upTo (s : ByteArray) (e : Int) : Nat → Int → Int → Int → Int × Int × Int
  | 0, a, l, c => (a, l, c)
  | n + 1, a, l, c => if a < e then upTo s e n (a + nI s a) (lin s a l) (col s a c) else (a, l, c)
theorem upTo_run (s : ByteArray) (p : Int → Bool) (hp : p (-1) = false) : ∀ n a l c, 0 ≤ a → a ≤ (s.size : Int) → upTo s (run s p n a l c).1 n a l c = run s p n a l c
  | 0, a, l, c, _, _ => rfl
  | n + 1, a, l, c, h0, h1 => by
    by_cases hh : p (rE s a) = true
    · have ha := run_in s p hp a hh
      have hr := rI_range s a h0 ha
      have ih := upTo_run s p hp n (a + nI s a) (lin s a l) (col s a c) (by omega) (by omega)
      have hm := run_mono s p hp n (a + nI s a) (lin s a l) (col s a c) (by omega) (by omega)
      have e : run s p (n + 1) a l c = run s p n (a + nI s a) (lin s a l) (col s a c) := by rw [run, if_pos hh]
      rw [e, upTo, if_pos (by omega)]
      exact ih
    · have e : run s p (n + 1) a l c = (a, l, c) := by rw [run, if_neg hh]
      rw [e, upTo, if_neg (by show ¬ a < a; omega)]
theorem upTo_one (s : ByteArray) (e a l c : Int) (n : Nat) (h0 : 0 ≤ a) (h : a < (s.size : Int)) (hae : a < e) (hb : bt s a < 128) (h10 : bt s a ≠ 10) : upTo s e (n + 1) a l c = upTo s e n (a + 1) l (c + 1) := by
  have f := ascii_at s a l c h0 h hb h10
  rw [upTo, if_pos hae, f.2.1, f.2.2.1, f.2.2.2]
theorem upTo_end (s : ByteArray) (e a l c : Int) (n : Nat) (h : e ≤ a) : upTo s e n a l c = (a, l, c) := by
  cases n with
  | zero => rfl
  | succ n => rw [upTo, if_neg (by omega)]
theorem txt_gt (s : ByteArray) (f : Int) : ∀ n a l c out, 0 ≤ a → (txt s f n a l c out).1 = 0 → a < (txt s f n a l c out).2.2.2.1
  | 0, a, l, c, out, h0, he => by unfold txt at he; cases he
  | n + 1, a, l, c, out, h0, he => by
    unfold txt at he ⊢
    split at he
    · cases he
    · rename_i h1
      rw [if_neg h1]
      split at he
      · rename_i h2
        rw [if_pos h2]
        show a < a + 1
        omega
      · rename_i h2
        rw [if_neg h2]
        split at he
        · cases he
        · rename_i h3
          rw [if_neg h3]
          split at he
          · cases he
          · rename_i h4
            rw [if_neg h4]
            split at he
            · rename_i h5
              rw [if_pos h5]
              split at he
              · cases he
              · rename_i h6
                rw [if_neg h6]
                have hes := esc_range s a h0 (by omega)
                have := txt_gt s f n _ _ _ _ (by omega) he
                omega
            · rename_i h5
              rw [if_neg h5]
              have hr := rI_range s a h0 (by omega)
              have := txt_gt s f n _ _ _ _ (by omega) he
              omega
theorem bt_120 (s : ByteArray) (a : Int) (h : (esc s a).2 ≠ 0) (h0 : 0 ≤ a) : ∀ i : Int, 1 ≤ i → i < (esc s a).2 → bt s (a + i) < 128 ∧ bt s (a + i) ≠ 10 := by
  intro i i1 i2
  unfold esc at h i2
  split at i2
  · simp at i2; omega
  · split at i2
    · rename_i hb
      simp only at i2
      obtain rfl : i = 1 := by omega
      rw [hb]; decide
    · split at i2
      · rename_i hb
        simp only at i2
        obtain rfl : i = 1 := by omega
        omega
      · split at i2
        · rename_i hb
          simp only at i2
          have x2 := hx_ascii _ hb.2.2.1
          have x3 := hx_ascii _ hb.2.2.2
          by_cases q1 : i = 1
          · subst q1; rw [hb.1]; decide
          · by_cases q2 : i = 2
            · subst q2; exact x2
            · obtain rfl : i = 3 := by omega
              exact x3
        · simp at i2; omega
theorem upTo_txt (s : ByteArray) (f : Int) : ∀ n a l c out, 0 ≤ a → (txt s f n a l c out).1 = 0 → ∀ N : Nat, s.size < N + a.toNat → upTo s (txt s f n a l c out).2.2.2.1 N a l c = ((txt s f n a l c out).2.2.2.1, (txt s f n a l c out).2.2.2.2.1, (txt s f n a l c out).2.2.2.2.2)
  | 0, a, l, c, out, h0, he, N, hN => by unfold txt at he; cases he
  | n + 1, a, l, c, out, h0, he, N, hN => by
    unfold txt at he ⊢
    split at he
    · cases he
    · rename_i h1
      rw [if_neg h1]
      have ha : a < (s.size : Int) := by omega
      obtain ⟨M, rfl⟩ : ∃ M, N = M + 1 := ⟨N - 1, by omega⟩
      split at he
      · rename_i h2
        rw [if_pos h2]
        have hb := low_of_rune s a 34 h0 ha (by omega) (by omega) h2
        show upTo s (a + 1) (M + 1) a l c = (a + 1, l, c + 1)
        rw [upTo_one s (a + 1) a l c M h0 ha (by omega) (by omega) (by omega), upTo_end _ _ _ _ _ _ (by omega)]
      · rename_i h2
        rw [if_neg h2]
        split at he
        · cases he
        · rename_i h3
          rw [if_neg h3]
          split at he
          · cases he
          · rename_i h4
            rw [if_neg h4]
            split at he
            · rename_i h5
              rw [if_pos h5]
              split at he
              · cases he
              · rename_i h6
                rw [if_neg h6]
                have hes := esc_range s a h0 ha
                have hb92 := low_of_rune s a 92 h0 ha (by omega) (by omega) h5
                have hbi := bt_120 s a h6 h0
                obtain ⟨E, hE⟩ : ∃ E, txt s f n (a + (esc s a).2) l (c + (esc s a).2) (out ++ [(esc s a).1]) = E := ⟨_, rfl⟩
                have hlt := txt_gt s f n (a + (esc s a).2) l (c + (esc s a).2) (out ++ [(esc s a).1]) (by omega) he
                have ih := fun N2 hN2 => upTo_txt s f n (a + (esc s a).2) l (c + (esc s a).2) (out ++ [(esc s a).1]) (by omega) he N2 hN2
                rw [hE] at ih hlt ⊢
                rcases hes.2.2.1 with k0 | k2 | k4
                · exact absurd k0 h6
                · rw [k2] at ih hlt hbi
                  rw [upTo_one s _ a l c M h0 ha (by omega) (by omega) (by omega)]
                  obtain ⟨M2, rfl⟩ : ∃ M2, M = M2 + 1 := ⟨M - 1, by omega⟩
                  have q1 := hbi 1 (by omega) (by omega)
                  rw [upTo_one s _ (a + 1) l (c + 1) M2 (by omega) (by omega) (by omega) q1.1 q1.2]
                  have := ih M2 (by omega)
                  rw [show a + 2 = a + 1 + 1 by omega, show c + 2 = c + 1 + 1 by omega] at this
                  exact this
                · rw [k4] at ih hlt hbi
                  rw [upTo_one s _ a l c M h0 ha (by omega) (by omega) (by omega)]
                  obtain ⟨M2, rfl⟩ : ∃ M2, M = M2 + 1 := ⟨M - 1, by omega⟩
                  have q1 := hbi 1 (by omega) (by omega)
                  have q2 := hbi 2 (by omega) (by omega)
                  have q3 := hbi 3 (by omega) (by omega)
                  rw [upTo_one s _ (a + 1) l (c + 1) M2 (by omega) (by omega) (by omega) q1.1 q1.2]
                  obtain ⟨M3, rfl⟩ : ∃ M3, M2 = M3 + 1 := ⟨M2 - 1, by omega⟩
                  rw [show a + 2 = a + 1 + 1 by omega] at q2
                  rw [upTo_one s _ (a + 1 + 1) l (c + 1 + 1) M3 (by omega) (by omega) (by omega) q2.1 q2.2]
                  obtain ⟨M4, rfl⟩ : ∃ M4, M3 = M4 + 1 := ⟨M3 - 1, by omega⟩
                  rw [show a + 3 = a + 1 + 1 + 1 by omega] at q3
                  rw [upTo_one s _ (a + 1 + 1 + 1) l (c + 1 + 1 + 1) M4 (by omega) (by omega) (by omega) q3.1 q3.2]
                  have := ih M4 (by omega)
                  rw [show a + 4 = a + 1 + 1 + 1 + 1 by omega, show c + 4 = c + 1 + 1 + 1 + 1 by omega] at this
                  exact this
            · rename_i h5
              rw [if_neg h5]
              have hr := rI_range s a h0 ha
              have hlt := txt_gt s f n (a + nI s a) (lin s a l) (col s a c) (out ++ bytesOf (sub s a)) (by omega) he
              have ih := upTo_txt s f n (a + nI s a) (lin s a l) (col s a c) (out ++ bytesOf (sub s a)) (by omega) he M (by omega)
              rw [upTo, if_pos (by omega)]
              exact ih
theorem sletter_f (a0 : Int) : spec_IsLetter.f 3 a0 = some (letB a0) := by
  simp only [spec_IsLetter.f, spec_IsLetter.j0, spec_IsLetter.j1, letB, inR, if_true, Bool.false_eq_true, if_false, decide_eq_true_eq, beq_iff_eq]
  have hi : ∀ (c : Prop) [Decidable c] (x y : Bool), (if c then some x else some y) = some (if c then x else y) := fun c _ x y => by by_cases h : c <;> simp [h]
  simp only [hi]
  apply congrArg some
  rw [Bool.eq_iff_iff]
  by_cases k1 : a0 < 65
  · simp [show ¬ 97 ≤ a0 by omega, show ¬ 65 ≤ a0 by omega, show ¬ 192 ≤ a0 by omega, show ¬ 913 ≤ a0 by omega, show ¬ 945 ≤ a0 by omega, show ¬ 1040 ≤ a0 by omega]
  by_cases k2 : a0 < 192
  · simp [show 65 ≤ a0 by omega, show ¬ 192 ≤ a0 by omega, show ¬ 913 ≤ a0 by omega, show ¬ 945 ≤ a0 by omega, show ¬ 1040 ≤ a0 by omega]
    split <;> (try split) <;> omega
  by_cases k3 : a0 ≤ 591
  · simp [show 97 ≤ a0 by omega, show ¬ a0 ≤ 122 by omega, show 65 ≤ a0 by omega, show ¬ a0 ≤ 90 by omega, show ¬ a0 = 95 by omega, show 192 ≤ a0 by omega, k3, show ¬ 913 ≤ a0 by omega, show ¬ 945 ≤ a0 by omega, show ¬ 1040 ≤ a0 by omega]
    try (split <;> simp_all)
  by_cases k4 : a0 < 945
  · simp [show 97 ≤ a0 by omega, show ¬ a0 ≤ 122 by omega, show 65 ≤ a0 by omega, show ¬ a0 ≤ 90 by omega, show ¬ a0 = 95 by omega, show 192 ≤ a0 by omega, k3, show ¬ 945 ≤ a0 by omega, show ¬ 1040 ≤ a0 by omega]
    try omega
  · simp [show 97 ≤ a0 by omega, show ¬ a0 ≤ 122 by omega, show 65 ≤ a0 by omega, show ¬ a0 ≤ 90 by omega, show ¬ a0 = 95 by omega, show 192 ≤ a0 by omega, k3, show 913 ≤ a0 by omega, show ¬ a0 ≤ 937 by omega, show 945 ≤ a0 by omega]
    try omega
theorem sletter_fk (a0 : Int) : ∀ k, spec_IsLetter.f (k + 3) a0 = some (letB a0)
  | 0 => sletter_f a0
  | k + 1 => spec_IsLetter.mono a0 (k + 3) _ (sletter_fk a0 k)
theorem sdigit_f (a0 : Int) : spec_l01Digit.f a0 = some (digB a0) := by
  unfold spec_l01Digit.f digB
  by_cases h1 : a0 ≥ 48
  · rw [if_pos h1]; simp [h1]
  · rw [if_neg h1]; simp; omega
/-- The specification's word is a run of letters and digits. -/
theorem word_f (s : ByteArray) (at_ : Int) (hs : s.size ≤ 1073741824) (h0 : 0 ≤ at_) : ∀ (n : Nat) (i l c : Int), at_ ≤ i → i ≤ (s.size : Int) → s.size < n + i.toNat → (i = at_ → letB (rI s i) = true) →
    spec_l01Word.l0 (n + 3) s at_ i = some ((run s wordB n i l c).1 - at_)
  | 0, i, l, c, h1, h2, h3, h4 => by omega
  | n + 1, i, l, c, h1, h2, h3, h4 => by
    have w1 : wrap64 (i - at_) = i - at_ := wrap_ok (by omega) (by omega)
    rw [show n + 1 + 3 = (n + 3) + 1 by omega, spec_l01Word.l0]
    by_cases hi : i < (s.size : Int)
    · have hr := rI_range s i (by omega) hi
      have w2 : wrap64 (i + nI s i) = i + nI s i := wrap_ok (by omega) (by omega)
      have hf : spec_l01Rune.f s i = some (rI s i, nI s i) := by unfold spec_l01Rune.f; rw [if_pos ⟨by omega, hi, by omega⟩]
      have hE : rE s i = rI s i := by unfold rE; rw [if_pos hi]
      rw [if_pos hi, hf]
      simp only [Option.bind_some, sletter_fk, sdigit_f, w1, w2]
      rw [run, hE]
      have ih := word_f s at_ hs h0 n (i + nI s i) (lin s i l) (col s i c) (by omega) (by omega) (by omega) (by omega)
      rcases hL : letB (rI s i) with _ | _
      · have hgt : i > at_ := by
          rcases Int.lt_or_le at_ i with q | q
          · exact q
          · have := h4 (by omega); rw [hL] at this; cases this
        rcases hD : digB (rI s i) with _ | _
        · rw [if_neg (by decide), if_pos hgt, if_neg (by decide), if_neg (by unfold wordB; rw [hL, hD]; decide)]
        · rw [if_neg (by decide), if_pos hgt, if_pos rfl, if_pos (by unfold wordB; rw [hL, hD]; rfl)]
          exact ih
      · rw [if_pos rfl, if_pos (by unfold wordB; rw [hL]; rfl)]
        exact ih
    · rw [if_neg hi, w1, run, if_neg (by unfold rE; rw [if_neg hi]; decide)]
theorem wordC (s : ByteArray) (a l c : Int) (n : Nat) (w : World) (hs : s.size ≤ 1073741824) (h0 : 0 ≤ a) (h : a < (s.size : Int)) (hn : s.size < n + a.toNat) (hlet : letB (rI s a) = true) :
    Calls Tryd.prog 46 #[.string s, .int .i64 a] w fun e w' => e = .returned (.int .i64 ((run s wordB n a l c).1 - a)) ∧ Below w.heap.size w w' :=
  (spec_l01Word.calls _ s a _ w (word_f s a hs h0 n a l c (Int.le_refl _) (by omega) hn (fun _ => hlet))).mono fun e w' h => h
end Go.Proofs.YtgiaogocdihhhaaDoor.Tex
