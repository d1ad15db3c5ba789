/- Tokens: a lexeme as a plain function, its bounds, and the program's lexeme as that. -/
import Derived.Test.YtgiaogocdihhhaaDoorTokK
namespace Go.Proofs.YtgiaogocdihhhaaDoor.Tex
open Go.RowKit Go.Proofs.YtgiaogocdihhhaaDoorW.PrintWords Go.Proofs.YtgiaogocdihhhaaDoorW.PrintLast Go.Proofs.YtgiaogocdihhhaaDoorW.PrintMore Go.Proofs.YtgiaogocdihhhaaDoor.PFnExactTokens
set_option linter.unusedVariables false
set_option linter.unusedSimpArgs false

/-- A place, a line, a column that go together. -/
structure Pos (s : ByteArray) (m a l c : Int) : Prop where
  a0 : 0 ≤ a
  a1 : a ≤ (s.size : Int)
  l : 0 ≤ l ∧ l ≤ m + a
  c : 0 ≤ c ∧ c ≤ m + a
theorem Pos.step {s : ByteArray} {m a l c : Int} (h : Pos s m a l c) (hm : 1 ≤ m) (ha : a < (s.size : Int)) : Pos s m (a + nI s a) (lin s a l) (col s a c) := by
  have hr := rI_range s a h.a0 ha
  exact ⟨by have := h.a0; omega, by omega, lin_le s a l m h.a0 ha h.l, col_le s a c m h.a0 ha hm h.c⟩
theorem Pos.on {s : ByteArray} {m a l c k : Int} (h : Pos s m a l c) (hk : 0 ≤ k) (ha : a + k ≤ (s.size : Int)) : Pos s m (a + k) l (c + k) :=
  ⟨by have := h.a0; omega, ha, ⟨h.l.1, by have := h.l.2; omega⟩, ⟨by have := h.c.1; omega, by have := h.c.2; omega⟩⟩
theorem blk_pos (s : ByteArray) (m : Int) (hm : 1 ≤ m) : ∀ n rm a l c, Pos s m a l c → Pos s m (blk s n rm a l c).2.1 (blk s n rm a l c).2.2.1 (blk s n rm a l c).2.2.2 ∧ a ≤ (blk s n rm a l c).2.1
  | 0, rm, a, l, c, h => ⟨h, Int.le_refl _⟩
  | n + 1, rm, a, l, c, h => by
    unfold blk
    split
    · exact ⟨h, Int.le_refl _⟩
    · rename_i hlt
      have ha : a < (s.size : Int) := by omega
      have hr := rI_range s a h.a0 ha
      split
      · exact ⟨h, Int.le_refl _⟩
      · split
        · have := blk_pos s m hm n true _ _ _ (h.step hm ha); exact ⟨this.1, by omega⟩
        · split
          · have := blk_pos s m hm n false _ _ _ (h.step hm ha); exact ⟨this.1, by omega⟩
          · exact ⟨h, Int.le_refl _⟩
theorem run_pos (s : ByteArray) (m : Int) (hm : 1 ≤ m) (p : Int → Bool) (hp : p (-1) = false) : ∀ n a l c, Pos s m a l c → Pos s m (run s p n a l c).1 (run s p n a l c).2.1 (run s p n a l c).2.2
  | 0, a, l, c, h => h
  | n + 1, a, l, c, h => by
    unfold run
    split
    · rename_i hh
      exact run_pos s m hm p hp n _ _ _ (h.step hm (run_in s p hp a hh))
    · exact h
theorem txt_pos (s : ByteArray) (m f : Int) (hm : 1 ≤ m) : ∀ n a l c out, Pos s m a l c → (txt s f n a l c out).1 = 0 → Pos s m (txt s f n a l c out).2.2.2.1 (txt s f n a l c out).2.2.2.2.1 (txt s f n a l c out).2.2.2.2.2 ∧ a < (txt s f n a l c out).2.2.2.1
  | 0, a, l, c, out, h, he => by unfold txt at he; cases he
  | n + 1, a, l, c, out, h, he => by
    unfold txt at he ⊢
    split at he
    · cases he
    · rename_i h1
      rw [if_neg h1]
      have ha : a < (s.size : Int) := by omega
      split at he
      · rename_i h2
        rw [if_pos h2]
        exact ⟨h.on (k := 1) (by omega) (by omega), by show a < a + 1; omega⟩
      · rename_i h2
        rw [if_neg h2]
        split at he
        · cases he
        · rename_i h3
          rw [if_neg h3]
          split at he
          · cases he
          · rename_i h4
            rw [if_neg h4]
            split at he
            · rename_i h5
              rw [if_pos h5]
              split at he
              · cases he
              · rename_i h6
                rw [if_neg h6]
                have hes := esc_range s a h.a0 ha
                have := txt_pos s m f hm n _ _ _ _ (h.on (k := (esc s a).2) (by omega) (by omega)) he
                exact ⟨this.1, by omega⟩
            · rename_i h5
              rw [if_neg h5]
              have hr := rI_range s a h.a0 ha
              have := txt_pos s m f hm n _ _ _ _ (h.step hm ha) he
              exact ⟨this.1, by omega⟩
/-- A lexeme at a place: a code and its place, or the token and where it ends. -/
def lexR (s : ByteArray) (a l c : Int) : Int × Int × S35 × Int × Int × Int :=
  if letB (rI s a) = true then
    (if 40 < (run s wordB (s.size + 1) a l c).1 - a then (2, a, z35, a, l, c) else (0, 0, ⟨1, s.extract a.toNat (run s wordB (s.size + 1) a l c).1.toNat, 0, a, l, c⟩, (run s wordB (s.size + 1) a l c).1, (run s wordB (s.size + 1) a l c).2.1, (run s wordB (s.size + 1) a l c).2.2))
  else if digB (rI s a) = true then
    ((numE s a (run s digB (s.size + 1) a l c).1).1, (numE s a (run s digB (s.size + 1) a l c).1).2, ⟨2, s.extract a.toNat (run s digB (s.size + 1) a l c).1.toNat, numV (s.extract a.toNat (run s digB (s.size + 1) a l c).1.toNat), a, l, c⟩, (run s digB (s.size + 1) a l c).1, (run s digB (s.size + 1) a l c).2.1, (run s digB (s.size + 1) a l c).2.2)
  else if rI s a = 34 then
    ((txt s a (s.size + 1) (a + 1) l (c + 1) []).1, (txt s a (s.size + 1) (a + 1) l (c + 1) []).2.1, ⟨3, strOfNums (txt s a (s.size + 1) (a + 1) l (c + 1) []).2.2.1, 0, a, l, c⟩, (txt s a (s.size + 1) (a + 1) l (c + 1) []).2.2.2.1, (txt s a (s.size + 1) (a + 1) l (c + 1) []).2.2.2.2.1, (txt s a (s.size + 1) (a + 1) l (c + 1) []).2.2.2.2.2)
  else if sgW s a = 0 then (4, a, z35, a, l, c) else (0, 0, ⟨4, s.extract a.toNat (a + sgW s a).toNat, 0, a, l, c⟩, a + sgW s a, l, c + sgW s a)
theorem sg_end (s : ByteArray) (a : Int) (h0 : 0 ≤ a) (h : a < (s.size : Int)) : a + sgW s a ≤ (s.size : Int) ∧ 0 ≤ sgW s a := by
  unfold sgW
  split
  · rename_i hh
    have := two_bytes s a h0 hh
    omega
  · split <;> omega
theorem lexR_pos (s : ByteArray) (m a l c : Int) (hm : 1 ≤ m) (h : Pos s m a l c) (ha : a < (s.size : Int)) (he : (lexR s a l c).1 = 0) : Pos s m (lexR s a l c).2.2.2.1 (lexR s a l c).2.2.2.2.1 (lexR s a l c).2.2.2.2.2 ∧ a < (lexR s a l c).2.2.2.1 := by
  have eR : rE s a = rI s a := by unfold rE; rw [if_pos ha]
  unfold lexR at he ⊢
  split at he
  · rename_i h1
    rw [if_pos h1]
    split at he
    · cases he
    · rename_i h2
      rw [if_neg h2]
      refine ⟨run_pos s m hm wordB (by decide) _ _ _ _ h, ?_⟩
      show a < (run s wordB (s.size + 1) a l c).1
      have hw : wordB (rE s a) = true := by unfold wordB; rw [eR, h1]; rfl
      unfold run
      rw [if_pos hw]
      have hr := rI_range s a h.a0 ha
      have := run_mono s wordB (by decide) s.size (a + nI s a) (lin s a l) (col s a c) (by have := h.a0; omega) (by omega)
      omega
  · rename_i h1
    rw [if_neg h1]
    split at he
    · rename_i h2
      rw [if_pos h2]
      refine ⟨run_pos s m hm digB digB_end _ _ _ _ h, ?_⟩
      have := run_dig1 s (s.size + 1) a l c h.a0 (by rw [eR]; exact h2) (by omega)
      show a < (run s digB (s.size + 1) a l c).1
      omega
    · rename_i h2
      rw [if_neg h2]
      split at he
      · rename_i h3
        rw [if_pos h3]
        have := txt_pos s m a hm (s.size + 1) (a + 1) l (c + 1) [] (h.on (k := 1) (by omega) (by omega)) he
        exact ⟨this.1, by have := this.2; show a < (txt s a (s.size + 1) (a + 1) l (c + 1) []).2.2.2.1; omega⟩
      · rename_i h3
        rw [if_neg h3]
        split at he
        · cases he
        · rename_i h4
          rw [if_neg h4]
          have hs := sg_end s a h.a0 ha
          exact ⟨h.on hs.2 hs.1, by show a < a + sgW s a; omega⟩
abbrev tokS (x : S35) : Value := tokV x.f0 x.f1 x.f2 x.f3 x.f4 x.f5
theorem lexC (b : Nat) (s : ByteArray) (a l c m : Int) (w : World) (hB : Sc w b s a l c) (hP : Pos s m a l c) (h : a < (s.size : Int)) (hs : s.size ≤ 1073741824) (hm : 1 ≤ m ∧ m ≤ 1073741824) (hT : Tabs w) (hb2 : 2 ≤ b) (Q : Int × Int × S35 × Int × Int × Int) (hQ : lexR s a l c = Q) :
    Calls Tryd.prog 32 #[.pointer (some ⟨b, 0, none⟩)] w fun e w' => ((Q.1 = 0 ∧ e = .returned (.tuple #[tokS Q.2.2.1, .int .i64 0, .int .i64 0]) ∧ Sc w' b s Q.2.2.2.1 Q.2.2.2.2.1 Q.2.2.2.2.2) ∨ (Q.1 ≠ 0 ∧ e = .returned (.tuple #[tok0, .int .i64 Q.1, .int .i64 Q.2.1]))) ∧ Upd b w w' := by
  have hn : s.size < s.size + 1 + a.toNat := by omega
  have hn1 : s.size < s.size + 1 + (a + 1).toNat := by omega
  subst hQ
  unfold lexR
  rcases h1 : letB (rI s a) with _ | _
  · rw [if_neg (by decide)]
    rcases h2 : digB (rI s a) with _ | _
    · rw [if_neg (by decide)]
      by_cases h3 : rI s a = 34
      · rw [if_pos h3]
        exact lexText b s a l c m w hB hP.a0 h h3 hs hm hP.l hP.c hT hb2 _ hn1 _ rfl
      · rw [if_neg h3]
        refine (lexSign b s a l c m w hB hP.a0 h h1 h2 h3 hs hm hP.l hP.c hT hb2).mono ?_
        rintro e w' ⟨hh, hu⟩
        refine ⟨?_, hu⟩
        rcases hh with ⟨g0, g1, g2⟩ | ⟨g0, g1⟩
        · rw [if_neg (by omega)]
          exact .inl ⟨rfl, g1, g2⟩
        · rw [if_pos g0]
          exact .inr ⟨by show (4 : Int) ≠ 0; decide, g1⟩
    · rw [if_pos rfl]
      exact lexNum b s a l c m w hB hP.a0 h h1 h2 hs hm hP.l hP.c hT hb2 _ hn _ rfl
  · rw [if_pos rfl]
    refine (lexName b s a l c m w hB hP.a0 h h1 hs hm hP.l hP.c hT hb2 _ hn _ rfl).mono ?_
    rintro e w' ⟨hh, hu⟩
    refine ⟨?_, hu⟩
    rcases hh with ⟨g0, g1, g2⟩ | ⟨g0, g1⟩
    · rw [if_neg (by omega)]
      exact .inl ⟨rfl, g1, g2⟩
    · rw [if_pos g0]
      exact .inr ⟨by show (2 : Int) ≠ 0; decide, g1⟩
end Go.Proofs.YtgiaogocdihhhaaDoor.Tex
