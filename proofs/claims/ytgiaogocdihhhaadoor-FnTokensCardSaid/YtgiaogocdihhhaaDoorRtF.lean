/- Tokens, there and back: what a copied lexeme keeps. -/
import Derived.Test.YtgiaogocdihhhaaDoorTokJ
import Derived.Test.YtgiaogocdihhhaaDoorTokG
import Derived.Lib.Bytes
import Derived.Test.YtgiaogocdihhhaaDoorTokM
namespace Go.Proofs.YtgiaogocdihhhaaDoor.Tex
open Go.RowKit Go.Proofs.YtgiaogocdihhhaaDoorW.PrintWords Go.Proofs.YtgiaogocdihhhaaDoorW.PrintLast Go.Proofs.YtgiaogocdihhhaaDoorW.PrintMore Go.Proofs.YtgiaogocdihhhaaDoor.PFnExactTokens
set_option linter.unusedVariables false
set_option linter.unusedSimpArgs false
/-- n bytes of S from p on are those of V from q on. -/
structure Ag (S : ByteArray) (p : Nat) (V : ByteArray) (q n : Nat) : Prop where
  b : ∀ k, k < n → bv S (p + k) = bv V (q + k)
  s : p + n ≤ S.size
  t : q + n ≤ V.size
theorem Ag.part {S V : ByteArray} {p q n : Nat} (h : Ag S p V q n) (i m : Nat) (hm : i + m ≤ n) : Ag S (p + i) V (q + i) m :=
  ⟨fun k hk => by have := h.b (i + k) (by omega); rwa [← Nat.add_assoc, ← Nat.add_assoc] at this, by have := h.s; omega, by have := h.t; omega⟩
set_option maxHeartbeats 4000000 in
theorem decN_loc (n n1 n2 b0 b1 b2 b3 c1 c2 c3 : Nat) (hn1 : n ≤ n1) (hn2 : n ≤ n2) (hw : (Lib.decodeN n2 b0 b1 b2 b3).2 ≤ n) (h1 : 1 < n → c1 = b1) (h2 : 2 < n → c2 = b2) (h3 : 3 < n → c3 = b3) (hv : ¬ ((Lib.decodeN n2 b0 b1 b2 b3).1 = 65533 ∧ (Lib.decodeN n2 b0 b1 b2 b3).2 = 1)) :
    Lib.decodeN n1 b0 c1 c2 c3 = Lib.decodeN n2 b0 b1 b2 b3 := by
  unfold Lib.decodeN at hw hv ⊢
  by_cases q0 : b0 < 128
  · rw [if_pos q0, if_pos q0]
  · rw [if_neg q0] at hw hv ⊢
    rw [if_neg q0]
    by_cases q1 : b0 / 32 = 6 ∧ (1 < n2 ∧ b1 / 64 = 2)
    · rw [if_pos q1] at hw hv ⊢
      by_cases z : b0 % 32 * 64 + b1 % 64 ≥ 128
      · rw [if_pos z] at hw
        have e1 := h1 hw
        subst e1
        rw [if_pos ⟨q1.1, by simp only at hw; omega, q1.2.2⟩]
      · rw [if_neg z] at hv
        exact absurd ⟨rfl, rfl⟩ hv
    · rw [if_neg q1] at hw hv ⊢
      by_cases q2 : b0 / 16 = 14 ∧ (1 < n2 ∧ b1 / 64 = 2) ∧ (2 < n2 ∧ b2 / 64 = 2)
      · rw [if_pos q2] at hw hv ⊢
        split at hw
        · rename_i z
          simp only at hw
          have e1 := h1 (by omega); have e2 := h2 (by omega)
          subst e1 e2
          rw [if_neg (by omega), if_pos (by omega)]
        · rename_i z
          rw [if_neg z] at hv
          exact absurd ⟨rfl, rfl⟩ hv
      · rw [if_neg q2] at hw hv ⊢
        by_cases q3 : b0 / 8 = 30 ∧ (1 < n2 ∧ b1 / 64 = 2) ∧ (2 < n2 ∧ b2 / 64 = 2) ∧ (3 < n2 ∧ b3 / 64 = 2)
        · rw [if_pos q3] at hw hv ⊢
          split at hw
          · rename_i z
            simp only at hw
            have e1 := h1 (by omega); have e2 := h2 (by omega); have e3 := h3 (by omega)
            subst e1 e2 e3
            rw [if_neg (by omega), if_neg (by omega), if_pos (by omega)]
          · rename_i z
            rw [if_neg z] at hv
            exact absurd ⟨rfl, rfl⟩ hv
        · rw [if_neg q3] at hv
          exact absurd ⟨rfl, rfl⟩ hv
theorem loc {S V : ByteArray} {p q n : Nat} (h : Ag S p V q n) (hn : 1 ≤ n) (hw : nI V q ≤ n) (hv : wrongB V q = false) : rI S p = rI V q ∧ nI S p = nI V q := by
  have e : dec S p = dec V q := by
    rw [dec_eq, dec_eq]
    have e0 : bv S p = bv V q := h.b 0 (by omega)
    rw [e0]
    have h1 := h.s; have h2 := h.t
    refine decN_loc n _ _ _ _ _ _ _ _ _ (by omega) (by omega) ?_ (fun hh => h.b 1 hh) (fun hh => h.b 2 hh) (fun hh => h.b 3 hh) ?_
    · rw [← dec_eq]
      unfold nI at hw
      exact_mod_cast hw
    · rw [← dec_eq]
      rintro ⟨x, y⟩
      unfold wrongB rI nI at hv
      simp only [Int.toNat_natCast] at hv
      rw [x, y] at hv
      exact absurd hv (by decide)
  unfold rI nI
  simp only [Int.toNat_natCast]
  rw [e]
  exact ⟨rfl, rfl⟩
theorem not_wrong_of (s : ByteArray) (a : Int) (h : rI s a ≠ 65533) : wrongB s a = false := by
  unfold wrongB
  rw [show (rI s a == 65533) = false from by simpa using h]
  rfl
/-- A run of runes, copied and ended, is the same run. -/
theorem run_copy (S V : ByteArray) (P : Int → Bool) (h1 : P (-1) = false) (h2 : P 65533 = false) (h3 : P 10 = false) : ∀ (n : Nat) (q : Nat) (l c : Int) (p : Nat) (m : Nat) (l' c' : Int) (w : Nat), (run V P n q l c).1 = ((q + w : Nat) : Int) → Ag S p V q w → P (rE S ((p + w : Nat) : Int)) = false → S.size < m + p →
    (run S P m p l' c').1 = ((p + w : Nat) : Int) ∧ (run S P m p l' c').2.1 = l'
  | 0, q, l, c, p, m, l', c', w, hr, hg, he, hm => by
    have : w = 0 := by simp only [run] at hr; omega
    subst this
    cases m with
    | zero => exact ⟨rfl, rfl⟩
    | succ m => rw [run, if_neg (by rw [show (p : Int) = ((p + 0 : Nat) : Int) from rfl, he]; decide)]; exact ⟨rfl, rfl⟩
  | n + 1, q, l, c, p, m, l', c', w, hr, hg, he, hm => by
    rw [run] at hr
    by_cases hp : P (rE V q) = true
    · rw [if_pos hp] at hr
      have hq : (q : Int) < (V.size : Int) := by
        rcases Decidable.em ((q : Int) < (V.size : Int)) with hh | hh
        · exact hh
        · unfold rE at hp
          rw [if_neg hh, h1] at hp
          exact absurd hp (by decide)
      have hrr : rE V q = rI V q := by unfold rE; rw [if_pos hq]
      rw [hrr] at hp
      have hx := rI_range V q (by omega) hq
      have hmono := (run_mono V P h1 n ((q : Int) + nI V q) (lin V q l) (col V q c) (by omega) (by omega)).1
      rw [hr] at hmono
      obtain ⟨k, hk⟩ : ∃ k : Nat, nI V q = (k : Int) := ⟨(nI V q).toNat, by omega⟩
      have hw : wrongB V q = false := not_wrong_of V q (fun hh => by rw [hh, h2] at hp; exact absurd hp (by decide))
      have hl := loc hg (by omega) (by omega) hw
      have hs := hg.s
      have e1 : rE S p = rI V q := by unfold rE; rw [if_pos (by omega)]; exact hl.1
      obtain ⟨m2, rfl⟩ : ∃ m2, m = m2 + 1 := ⟨m - 1, by omega⟩
      rw [run, if_pos (by rw [e1]; exact hp), hl.2, hk]
      have hlin : lin S p l' = l' := by unfold lin; rw [if_neg]; rw [hl.1]; intro hh; rw [hh, h3] at hp; exact absurd hp (by decide)
      rw [hlin]
      have e2 : (q : Int) + (k : Int) = ((q + k : Nat) : Int) := by omega
      have e3 : (p : Int) + (k : Int) = ((p + k : Nat) : Int) := by omega
      rw [hk, e2] at hr
      rw [e3]
      have ih := run_copy S V P h1 h2 h3 n (q + k) _ _ (p + k) m2 l' (col S p c') (w - k) (by rw [hr]; omega) (hg.part k (w - k) (by omega)) (by rw [show p + k + (w - k) = p + w by omega]; exact he) (by omega)
      rw [show p + k + (w - k) = p + w by omega] at ih
      exact ih
    · rw [if_neg hp] at hr
      have : w = 0 := by simp only at hr; omega
      subst this
      cases m with
      | zero => exact ⟨rfl, rfl⟩
      | succ m => rw [run, if_neg (by rw [show (p : Int) = ((p + 0 : Nat) : Int) from rfl, he]; decide)]; exact ⟨rfl, rfl⟩
end Go.Proofs.YtgiaogocdihhhaaDoor.Tex
/- Tokens, there and back: a quoted text. -/
namespace Go.Proofs.YtgiaogocdihhhaaDoor.Tex
open Go.RowKit Go.Proofs.YtgiaogocdihhhaaDoorW.PrintWords Go.Proofs.YtgiaogocdihhhaaDoorW.PrintLast Go.Proofs.YtgiaogocdihhhaaDoorW.PrintMore Go.Proofs.YtgiaogocdihhhaaDoor.PFnExactTokens
set_option linter.unusedVariables false
set_option linter.unusedSimpArgs false
/-- The bytes xs lie in S from p on. -/
def At (S : ByteArray) (p : Nat) (xs : List Int) : Prop := p + xs.length ≤ S.size ∧ ∀ j, j < xs.length → bt S ((p + j : Nat) : Int) = xs.getD j 0
theorem At.left {S : ByteArray} {p : Nat} {xs ys : List Int} (h : At S p (xs ++ ys)) : At S p xs := by
  refine ⟨by have := h.1; rw [List.length_append] at this; omega, fun j hj => ?_⟩
  rw [h.2 j (by rw [List.length_append]; omega), List.getD_eq_getElem?_getD, List.getElem?_append_left hj, List.getD_eq_getElem?_getD]
theorem At.right {S : ByteArray} {p : Nat} {xs ys : List Int} (h : At S p (xs ++ ys)) : At S (p + xs.length) ys := by
  refine ⟨by have := h.1; rw [List.length_append] at this; omega, fun j hj => ?_⟩
  have := h.2 (xs.length + j) (by rw [List.length_append]; omega)
  rw [← Nat.add_assoc] at this
  rw [this, List.getD_eq_getElem?_getD, List.getElem?_append_right (by omega), show xs.length + j - xs.length = j by omega, List.getD_eq_getElem?_getD]
theorem bytes_get (s : ByteArray) (j : Nat) : (bytesOf s).getD j 0 = bt s (j : Int) := rd_bytesOf s (j : Int)
theorem At.of {S : ByteArray} (pre xs post : List Int) (h : bytesOf S = pre ++ xs ++ post) : At S pre.length xs := by
  have hl := congrArg List.length h
  rw [bytesOf_length, List.length_append, List.length_append] at hl
  refine ⟨by omega, fun j hj => ?_⟩
  rw [← bytes_get, h, List.append_assoc, List.getD_eq_getElem?_getD, List.getElem?_append_right (by omega), show pre.length + j - pre.length = j by omega, List.getElem?_append_left hj, List.getD_eq_getElem?_getD]
theorem At.ag {S V : ByteArray} {p q e : Nat} (h : At S p (bytesOf (V.extract q e))) (he : e ≤ V.size) (hq : q ≤ e) : Ag S p V q (e - q) := by
  have hz : (V.extract q e).size = e - q := by rw [ByteArray.size_extract]; omega
  have h1 := h.1
  rw [bytesOf_length, hz] at h1
  refine ⟨fun k hk => ?_, h1, by omega⟩
  have := h.2 k (by rw [bytesOf_length, hz]; exact hk)
  rw [bytes_get, bt_sub V q e k (by omega) he, bt_bv, bt_bv] at this
  exact_mod_cast this
theorem bytes_ext (xs ys : List Int) (h : xs.length = ys.length) (hg : ∀ j, j < xs.length → xs.getD j 0 = ys.getD j 0) : xs = ys := by
  apply List.ext_getElem h
  intro j h1 h2
  have := hg j h1
  rw [List.getD_eq_getElem?_getD, List.getD_eq_getElem?_getD, List.getElem?_eq_getElem h1, List.getElem?_eq_getElem h2] at this
  exact this
theorem At.bytes {S : ByteArray} {p : Nat} {xs : List Int} (h : At S p xs) : bytesOf (S.extract p (p + xs.length)) = xs := by
  have hz : (S.extract p (p + xs.length)).size = xs.length := by have := h.1; rw [ByteArray.size_extract]; omega
  refine bytes_ext _ _ (by rw [bytesOf_length, hz]) fun j hj => ?_
  rw [bytesOf_length, hz] at hj
  rw [bytes_get, bt_sub S p (p + xs.length) j (by omega) h.1]
  exact h.2 j hj
theorem bytes_cut (V : ByteArray) (i j : Nat) (hij : i ≤ j) (hj : j ≤ V.size) : bytesOf (V.extract 0 j) = bytesOf (V.extract 0 i) ++ bytesOf (V.extract i j) := by
  have z1 : (V.extract 0 j).size = j := by rw [ByteArray.size_extract]; omega
  have z2 : (V.extract 0 i).size = i := by rw [ByteArray.size_extract]; omega
  have z3 : (V.extract i j).size = j - i := by rw [ByteArray.size_extract]; omega
  refine bytes_ext _ _ (by rw [List.length_append, bytesOf_length, bytesOf_length, bytesOf_length, z1, z2, z3]; omega) fun k hk => ?_
  rw [bytesOf_length, z1] at hk
  have e0 := bt_sub V 0 j k (by omega) hj
  rw [Nat.zero_add] at e0
  rw [bytes_get, e0, List.getD_eq_getElem?_getD]
  by_cases h : k < i
  · rw [List.getElem?_append_left (by rw [bytesOf_length, z2]; exact h), ← List.getD_eq_getElem?_getD, bytes_get]
    have e1 := bt_sub V 0 i k (by omega) (by omega)
    rw [Nat.zero_add] at e1
    exact e1.symm
  · rw [List.getElem?_append_right (by rw [bytesOf_length, z2]; omega), bytesOf_length, z2, ← List.getD_eq_getElem?_getD, bytes_get, bt_sub V i j (k - i) (by omega) hj, show i + (k - i) = k by omega]
theorem bytes_one (V : ByteArray) (i : Nat) (h : i < V.size) : bytesOf (V.extract i (i + 1)) = [bt V (i : Int)] := by
  have z : (V.extract i (i + 1)).size = 1 := by rw [ByteArray.size_extract]; omega
  refine bytes_ext _ _ (by rw [bytesOf_length, z]; rfl) fun k hk => ?_
  rw [bytesOf_length, z] at hk
  obtain rfl : k = 0 := by omega
  rw [bytes_get, bt_sub V i (i + 1) 0 (by omega) (by omega)]
  rfl
theorem bytes_all (V : ByteArray) : bytesOf (V.extract 0 V.size) = bytesOf V := by
  refine bytes_ext _ _ (by rw [bytesOf_length, bytesOf_length, ByteArray.size_extract]; omega) fun k hk => ?_
  rw [bytesOf_length, ByteArray.size_extract] at hk
  rw [bytes_get, bytes_get, bt_sub V 0 V.size k (by omega) (Nat.le_refl _), Nat.zero_add]
theorem str_bytes (V : ByteArray) : strOfNums (bytesOf V) = V := by
  apply ByteArray.ext
  apply Array.ext'
  have h : (strOfNums (bytesOf V)).data.toList = Lib.bytesOf (bytesOf V) := rfl
  rw [h]
  unfold Lib.bytesOf Go.Proofs.YtgiaogocdihhhaaDoorW.PrintWords.bytesOf
  rw [List.map_map]
  conv => rhs; rw [← List.map_id V.data.toList]
  apply List.map_congr_left
  intro b _
  simp
/-- What is still to come of a quoted text. -/
def tq (V : ByteArray) : Nat → Int → List Int
  | 0, _ => [34]
  | n + 1, i => if i < (V.size : Int) then qp V i ++ tq V n (i + nI V i) else [34]
theorem tq_all (V : ByteArray) : ∀ n k, V.size ≤ k + n → (go V (qp V) [34] k).2 ++ tq V n (go V (qp V) [34] k).1 = quoteL V
  | 0, k, h => by
    have hr := go_range (a0 := [34]) (qp_len V) k
    have hk : ¬ (go V (qp V) [34] k).1 < (V.size : Int) := by have := go_low (a0 := [34]) (qp_len V) k; omega
    unfold quoteL
    rw [← go_end (qp_len V) hk]
    rfl
  | n + 1, k, h => by
    rw [tq]
    by_cases hk : (go V (qp V) [34] k).1 < (V.size : Int)
    · rw [if_pos hk, ← tq_all V n (k + 1) (by omega), go_in hk, List.append_assoc]
    · rw [if_neg hk]
      unfold quoteL
      rw [← go_end (qp_len V) hk]
theorem quote_tq (V : ByteArray) : quoteL V = [34] ++ tq V V.size 0 := (tq_all V V.size 0 (by omega)).symm
theorem hx_hex (d : Int) (h0 : 0 ≤ d) (h : d < 16) : hx (bt hexS d) = d := by
  have : d = 0 ∨ d = 1 ∨ d = 2 ∨ d = 3 ∨ d = 4 ∨ d = 5 ∨ d = 6 ∨ d = 7 ∨ d = 8 ∨ d = 9 ∨ d = 10 ∨ d = 11 ∨ d = 12 ∨ d = 13 ∨ d = 14 ∨ d = 15 := by omega
  rcases this with rfl | rfl | rfl | rfl | rfl | rfl | rfl | rfl | rfl | rfl | rfl | rfl | rfl | rfl | rfl | rfl <;> decide
theorem low_byte (S : ByteArray) (p : Nat) (v : Nat) (hv : v < 128) (h : p < S.size) (hb : bt S (p : Int) = (v : Int)) : rI S p = (v : Int) ∧ nI S p = 1 :=
  rune_low S p (by omega) (by omega) v hv (by rw [Int.toNat_natCast]; rw [bt_bv] at hb; exact_mod_cast hb)
theorem txt_esc (S : ByteArray) (f l c : Int) (p m : Nat) (out : List Int) (h : p < S.size) (hb : bt S (p : Int) = 92) (x w : Int) (he : esc S p = (x, w)) (hw : w ≠ 0) : txt S f (m + 1) p l c out = txt S f m (p + w) l (c + w) (out ++ [x]) := by
  have hr := low_byte S p 92 (by decide) h hb
  rw [txt, if_neg (by omega), if_neg (by rw [hr.1]; decide), if_neg (by rw [not_wrong_of S p (by rw [hr.1]; decide)]; decide), if_neg (by rw [hr.1]; decide), if_pos (by rw [hr.1]; rfl), he, if_neg hw]
set_option maxHeartbeats 4000000 in
theorem txt_quote (S V : ByteArray) (f : Int) : ∀ (n i p m : Nat) (l c : Int) (out : List Int), i ≤ V.size → V.size ≤ i + n → At S p (tq V n i) → out = bytesOf (V.extract 0 i) → S.size < m + p →
    (txt S f m p l c out).1 = 0 ∧ (txt S f m p l c out).2.1 = 0 ∧ (txt S f m p l c out).2.2.1 = bytesOf V ∧ (txt S f m p l c out).2.2.2.1 = ((p + (tq V n i).length : Nat) : Int) ∧ (txt S f m p l c out).2.2.2.2.1 = l := by
  have last : ∀ (p m : Nat) (l c : Int) (out : List Int), At S p [34] → out = bytesOf V → S.size < m + p → (txt S f m p l c out).1 = 0 ∧ (txt S f m p l c out).2.1 = 0 ∧ (txt S f m p l c out).2.2.1 = bytesOf V ∧ (txt S f m p l c out).2.2.2.1 = ((p + 1 : Nat) : Int) ∧ (txt S f m p l c out).2.2.2.2.1 = l := by
    intro p m l c out hA ho hm
    have h1 : p + 1 ≤ S.size := hA.1
    have hb : bt S (p : Int) = 34 := hA.2 0 (by decide)
    obtain ⟨m, rfl⟩ : ∃ k, m = k + 1 := ⟨m - 1, by omega⟩
    have hr := low_byte S p 34 (by decide) (by omega) hb
    rw [txt, if_neg (by omega), if_pos (by rw [hr.1]; rfl)]
    exact ⟨rfl, rfl, ho, by push_cast; rfl, rfl⟩
  intro n
  induction n with
  | zero =>
    intro i p m l c out hi hn hA ho hm
    obtain rfl : i = V.size := by omega
    rw [bytes_all] at ho
    exact last p m l c out hA ho hm
  | succ n ih =>
    intro i p m l c out hi hn hA ho hm
    by_cases hlt : (i : Int) < (V.size : Int)
    · rw [tq, if_pos hlt] at hA ⊢
      have hx := rI_range V i (by omega) hlt
      obtain ⟨k, hk⟩ : ∃ k : Nat, nI V i = (k : Int) := ⟨(nI V i).toNat, by omega⟩
      have e1 : (i : Int) + nI V i = ((i + k : Nat) : Int) := by omega
      rw [e1] at hA ⊢
      have hqs := hA.1
      rw [List.length_append] at hqs ⊢
      have hA1 := hA.left; have hA2 := hA.right
      have ho2 : out ++ bytesOf (V.extract i (i + k)) = bytesOf (V.extract 0 (i + k)) := by rw [ho]; exact (bytes_cut V i (i + k) (by omega) (by omega)).symm
      obtain ⟨m, rfl⟩ : ∃ k, m = k + 1 := ⟨m - 1, by omega⟩
      have hb := bt_range V i
      have esc1 : ∀ (w : Nat) (x : Int), (qp V i).length = w → w ≠ 0 → bt S (p : Int) = 92 → esc S p = (x, (w : Int)) → k = 1 → x = bt V i →
          (txt S f (m + 1) p l c out).1 = 0 ∧ (txt S f (m + 1) p l c out).2.1 = 0 ∧ (txt S f (m + 1) p l c out).2.2.1 = bytesOf V ∧ (txt S f (m + 1) p l c out).2.2.2.1 = ((p + ((qp V i).length + (tq V n ((i + k : Nat) : Int)).length) : Nat) : Int) ∧ (txt S f (m + 1) p l c out).2.2.2.2.1 = l := by
        intro w x hw hw0 h92 he hk1 hxv
        subst hk1
        rw [txt_esc S f l c p m out (by omega) h92 x (w : Int) he (by omega)]
        rw [bytes_one V i (by omega)] at ho2
        have e2 : (p : Int) + (w : Int) = ((p + w : Nat) : Int) := by omega
        rw [e2, hxv]
        rw [hw] at hA2 ⊢
        have := ih (i + 1) (p + w) m l (c + w) (out ++ [bt V i]) (by omega) (by omega) hA2 ho2 (by omega)
        rw [Nat.add_assoc] at this
        exact this
      unfold qp at hA1
      by_cases c10 : rI V i = 10
      · rw [if_pos c10] at hA1
        have hq : qp V i = [92, 110] := by unfold qp; rw [if_pos c10]
        have hv : bv V i = 10 := by have := (rI_is V i (by omega) hlt 10 (by decide)).1 c10; rwa [Int.toNat_natCast] at this
        have hk1 := (rune_low V i (by omega) hlt 10 (by decide) (by rw [Int.toNat_natCast]; exact hv)).2
        have b0 : bt S (p : Int) = 92 := hA1.2 0 (by simp)
        have b1 : bt S ((p + 1 : Nat) : Int) = 110 := hA1.2 1 (by simp)
        have hz : p + 2 ≤ S.size := hA1.1
        exact esc1 2 10 (by rw [hq]; rfl) (by decide) b0 (esc_n S p (by omega) (by rw [show (p : Int) + 1 = ((p + 1 : Nat) : Int) by omega]; exact b1)) (by omega) (by rw [bt_bv, hv]; rfl)
      · rw [if_neg c10] at hA1
        by_cases cq : rI V i = 34 ∨ rI V i = 92
        · rw [if_pos cq] at hA1
          have hq : qp V i = [92, rI V i] := by unfold qp; rw [if_neg c10, if_pos cq]
          obtain ⟨v, hv, hvl⟩ : ∃ v : Nat, rI V i = (v : Int) ∧ v < 128 := ⟨(rI V i).toNat, by omega, by omega⟩
          have hv2 : bv V i = v := by have := (rI_is V i (by omega) hlt v hvl).1 hv; rwa [Int.toNat_natCast] at this
          have hk1 := (rune_low V i (by omega) hlt v hvl (by rw [Int.toNat_natCast]; exact hv2)).2
          have b0 : bt S (p : Int) = 92 := hA1.2 0 (by simp)
          have b1 : bt S ((p + 1 : Nat) : Int) = rI V i := hA1.2 1 (by simp)
          have hz : p + 2 ≤ S.size := hA1.1
          exact esc1 2 (rI V i) (by rw [hq]; rfl) (by decide) b0 (esc_q S p (rI V i) (by omega) (by rw [show (p : Int) + 1 = ((p + 1 : Nat) : Int) by omega]; exact b1) cq) (by omega) (by rw [bt_bv, hv2, hv])
        · rw [if_neg cq] at hA1
          by_cases cx : rI V i < 32 ∨ rI V i = 127 ∨ wrongB V i = true
          · rw [if_pos cx] at hA1
            have hq : qp V i = [92, 120, bt hexS (bt V i / 16), bt hexS (bt V i % 16)] := by unfold qp; rw [if_neg c10, if_neg cq, if_pos cx]
            have hk1 : nI V i = 1 := by
              by_cases hw : wrongB V i = true
              · unfold wrongB at hw
                rw [Bool.and_eq_true] at hw
                simpa using hw.2
              · obtain ⟨v, hv, hvl⟩ : ∃ v : Nat, rI V i = (v : Int) ∧ v < 128 := ⟨(rI V i).toNat, by omega, by rcases cx with h | h | h <;> first | omega | exact absurd h hw⟩
                have hv2 : bv V i = v := by have := (rI_is V i (by omega) hlt v hvl).1 hv; rwa [Int.toNat_natCast] at this
                exact (rune_low V i (by omega) hlt v hvl (by rw [Int.toNat_natCast]; exact hv2)).2
            have b0 : bt S (p : Int) = 92 := hA1.2 0 (by simp)
            have b1 : bt S ((p + 1 : Nat) : Int) = 120 := hA1.2 1 (by simp)
            have b2 : bt S ((p + 2 : Nat) : Int) = bt hexS (bt V i / 16) := hA1.2 2 (by simp)
            have b3 : bt S ((p + 3 : Nat) : Int) = bt hexS (bt V i % 16) := hA1.2 3 (by simp)
            have hz : p + 4 ≤ S.size := hA1.1
            have x2 := hx_hex (bt V i / 16) (by omega) (by omega)
            have x3 := hx_hex (bt V i % 16) (by omega) (by omega)
            have he : esc S p = (bt V i, ((4 : Nat) : Int)) := by
              unfold esc
              rw [show (p : Int) + 1 = ((p + 1 : Nat) : Int) by omega, show (p : Int) + 2 = ((p + 2 : Nat) : Int) by omega, show (p : Int) + 3 = ((p + 3 : Nat) : Int) by omega, b1, b2, b3, x2, x3, if_neg (by omega), if_neg (by decide), if_neg (by decide), if_pos ⟨rfl, by omega, by omega, by omega⟩, show 16 * (bt V i / 16) + bt V i % 16 = bt V i by omega]
              rfl
            exact esc1 4 (bt V i) (by rw [hq]; rfl) (by decide) b0 he (by omega) rfl
          · rw [if_neg cx] at hA1
            have hq : qp V i = bytesOf (sub V i) := by unfold qp; rw [if_neg c10, if_neg cq, if_neg cx]
            have hs : sub V i = V.extract i (i + k) := by unfold sub; rw [e1, Int.toNat_natCast, Int.toNat_natCast]
            rw [hs] at hA1 hq
            have hw : wrongB V i = false := Bool.eq_false_iff.mpr (fun hh => cx (.inr (.inr hh)))
            have hg := hA1.ag (by omega) (by omega)
            rw [show i + k - i = k by omega] at hg
            have hl := loc hg (by omega) (by omega) hw
            have hlen : (bytesOf (V.extract i (i + k))).length = k := by rw [bytesOf_length, ByteArray.size_extract]; omega
            have hsub : bytesOf (sub S p) = bytesOf (V.extract i (i + k)) := by
              have := hA1.bytes
              rw [hlen] at this
              unfold sub
              rw [hl.2, hk, show (p : Int) + (k : Int) = ((p + k : Nat) : Int) by omega, Int.toNat_natCast, Int.toNat_natCast]
              exact this
            have hsz := hA1.1
            rw [hlen] at hsz
            rw [txt, if_neg (by omega), if_neg (by rw [hl.1]; omega), if_neg (by
              intro hh
              unfold wrongB at hh hw
              rw [hl.1, hl.2, hw] at hh
              exact absurd hh (by decide)), if_neg (by rw [hl.1]; omega), if_neg (by rw [hl.1]; omega), hl.2, hk, hsub, ho2]
            have hlin : lin S p l = l := by unfold lin; rw [if_neg (by rw [hl.1]; exact c10)]
            rw [hlin, show (p : Int) + (k : Int) = ((p + k : Nat) : Int) by omega]
            rw [hq, hlen] at hA2 ⊢
            have := ih (i + k) (p + k) m l (col S p c) _ (by omega) (by omega) hA2 rfl (by omega)
            rw [Nat.add_assoc] at this
            exact this
    · obtain rfl : i = V.size := by omega
      rw [tq, if_neg hlt] at hA ⊢
      rw [bytes_all] at ho
      exact last p m l c out hA ho hm
end Go.Proofs.YtgiaogocdihhhaaDoor.Tex
/- Tokens, there and back: a sign. -/
namespace Go.Proofs.YtgiaogocdihhhaaDoor.Tex
open Go.RowKit Go.Proofs.YtgiaogocdihhhaaDoorW.PrintWords Go.Proofs.YtgiaogocdihhhaaDoorW.PrintLast Go.Proofs.YtgiaogocdihhhaaDoorW.PrintMore Go.Proofs.YtgiaogocdihhhaaDoor.PFnExactTokens
set_option linter.unusedVariables false
set_option linter.unusedSimpArgs false
theorem two_of (S : ByteArray) (p : Nat) (x y : UInt8) (h : p + 1 < S.size) (hx : bt S (p : Int) = (x.toNat : Int)) (hy : bt S ((p + 1 : Nat) : Int) = (y.toNat : Int)) : Lib.hasPrefix (S.extract (p : Int).toNat S.size).data.toList [x, y] = true := by
  have hz : S.data.size = S.size := rfl
  rw [Int.toNat_natCast]
  have hd : (S.extract p S.size).data.toList = S.data.toList.drop p := by
    rw [ByteArray.data_extract, Array.toList_extract]
    simp [List.extract_eq_take_drop]
    apply List.take_of_length_le
    rw [List.length_drop, Array.length_toList]
    omega
  have hu : ∀ (k : Nat) (hk : k < S.size) (u : UInt8), bt S (k : Int) = (u.toNat : Int) → S.data[k]'hk = u := by
    intro k hk u h
    unfold bt at h
    rw [dif_pos (show (k : Int).toNat < S.size by rw [Int.toNat_natCast]; exact hk)] at h
    apply UInt8.toNat_inj.1
    have h2 : ((S.data[k]'hk).toNat : Int) = (u.toNat : Int) := h
    exact_mod_cast h2
  rw [hd, List.drop_eq_getElem_cons (by rw [Array.length_toList]; omega), List.drop_eq_getElem_cons (by rw [Array.length_toList]; omega)]
  rw [Array.getElem_toList, Array.getElem_toList, hu p (by omega) x hx, hu (p + 1) (by omega) y hy]
  exact List.isPrefixOf_iff_prefix.2 ⟨_, rfl⟩
theorem twoB_of (S : ByteArray) (p : Nat) (h : p + 1 < S.size) (hx : bt S (p : Int) = 61 ∨ bt S (p : Int) = 33 ∨ bt S (p : Int) = 60) (hy : bt S ((p + 1 : Nat) : Int) = 61) : twoB S p = true := by
  unfold twoB
  rcases hx with e | e | e
  · rw [two_of S p 61 61 h e hy]; rfl
  · rw [two_of S p 33 61 h e hy, Bool.or_true]; rfl
  · rw [two_of S p 60 61 h e hy, Bool.or_true]
/-- Nothing to leap over at p. -/
def Stop (S : ByteArray) (p : Nat) : Prop := S.size ≤ p ∨ (sl2 S p = false ∧ blB (rI S p) = false)
theorem blk_halt (S : ByteArray) (p : Nat) (h : Stop S p) (hp : p ≤ S.size) (n : Nat) (l c : Int) : blk S (n + 1) false (p : Int) l c = (0, (p : Int), l, c) := by
  rw [blk]
  rcases h with h | ⟨h1, h2⟩
  · rw [if_pos (by omega)]
  · by_cases hs : (S.size : Int) ≤ (p : Int)
    · rw [if_pos hs]
    · rw [if_neg hs, if_neg (by simp), if_neg (by rw [h1]; simp), if_neg (by rw [h2]; decide)]
theorem blk_nl (S : ByteArray) (p : Nat) (hA : At S p [10]) (h : Stop S (p + 1)) (l c : Int) : blk S (S.size + 1) false p l c = (0, ((p + 1 : Nat) : Int), l + 1, 1) := by
  have h1 : p + 1 ≤ S.size := hA.1
  have hb : bt S (p : Int) = 10 := hA.2 0 (by decide)
  have hr := low_byte S p 10 (by decide) (by omega) hb
  rw [blk, if_neg (by omega), if_neg (by simp), if_neg (by rw [sl2_no S p (by omega) (by omega) (by rw [hr.1]; decide)]; simp), if_pos (by rw [hr.1]; decide)]
  have hr1 : rI S p = 10 := hr.1
  have hl : lin S p l = l + 1 := by unfold lin; rw [if_pos hr1]
  have hc : col S p c = 1 := by unfold col; rw [if_pos hr1]
  rw [hl, hc, hr.2]
  obtain ⟨m, hm⟩ : ∃ m, S.size = m + 1 := ⟨S.size - 1, by omega⟩
  have e : (p : Int) + 1 = ((p + 1 : Nat) : Int) := by omega
  rw [hm, e]
  exact blk_halt S (p + 1) h h1 m (l + 1) 1
theorem txt_len (V : ByteArray) (f : Int) : ∀ n a l c out, 0 ≤ a → a ≤ (V.size : Int) → ((txt V f n a l c out).2.2.1.length : Int) ≤ out.length + (V.size - a)
  | 0, a, l, c, out, h0, h1 => by rw [txt]; simp only [List.length_nil]; omega
  | n + 1, a, l, c, out, h0, h1 => by
    rw [txt]
    split
    · simp only [List.length_nil]; omega
    · split
      · simp only; omega
      · split
        · simp only [List.length_nil]; omega
        · split
          · simp only [List.length_nil]; omega
          · split
            · split
              · simp only [List.length_nil]; omega
              · rename_i h2 _ _ _ h5 h6
                have he := esc_range V a h0 (by omega)
                have ih := txt_len V f n (a + (esc V a).2) l (c + (esc V a).2) (out ++ [(esc V a).1]) (by omega) (by omega)
                rw [List.length_append, List.length_singleton] at ih
                omega
            · have hr := rI_range V a h0 (by omega)
              have hz := sub_size V a h0 (by omega)
              have ih := txt_len V f n (a + nI V a) (lin V a l) (col V a c) (out ++ bytesOf (sub V a)) (by omega) (by omega)
              rw [List.length_append, bytesOf_length] at ih
              omega
end Go.Proofs.YtgiaogocdihhhaaDoor.Tex
/- Tokens, there and back: one lexeme. -/
namespace Go.Proofs.YtgiaogocdihhhaaDoor.Tex
open Go.RowKit Go.Proofs.YtgiaogocdihhhaaDoorW.PrintWords Go.Proofs.YtgiaogocdihhhaaDoorW.PrintLast Go.Proofs.YtgiaogocdihhhaaDoorW.PrintMore Go.Proofs.YtgiaogocdihhhaaDoor.PFnExactTokens
set_option linter.unusedVariables false
set_option linter.unusedSimpArgs false
/-- What is written of a lexeme. -/
def pieceL (x : S35) : List Int := if x.f0 = 3 then quoteL x.f1 else bytesOf x.f1
theorem str_eq {A B : ByteArray} (h : bytesOf A = bytesOf B) : A = B := by rw [← str_bytes A, ← str_bytes B, h]
theorem At.nl {S : ByteArray} {p : Nat} {xs : List Int} (h : At S p (xs ++ [10])) : p + xs.length < S.size ∧ rI S ((p + xs.length : Nat) : Int) = 10 ∧ bt S ((p + xs.length : Nat) : Int) = 10 := by
  have h1 := h.1
  rw [List.length_append, List.length_singleton] at h1
  have hb : bt S ((p + xs.length + 0 : Nat) : Int) = 10 := h.right.2 0 (by simp)
  exact ⟨by omega, (low_byte S (p + xs.length) 10 (by decide) (by omega) hb).1, hb⟩
theorem first_ok (r : Int) (h : letB r = true ∨ digB r = true ∨ r = 34) : blB r = false ∧ r ≠ 47 ∧ r ≠ 65533 := by
  have n : ∀ v : Int, (letB v = false ∧ digB v = false ∧ v ≠ 34) → r ≠ v := by
    rintro v ⟨h1, h2, h3⟩ rfl
    rcases h with h | h | h
    · rw [h1] at h; cases h
    · rw [h2] at h; cases h
    · exact h3 h
  refine ⟨?_, n 47 (by decide), n 65533 (by decide)⟩
  have a := n 32 (by decide)
  have b := n 9 (by decide)
  have c := n 10 (by decide)
  have d := n 13 (by decide)
  unfold blB
  simp [a, b, c, d]
theorem run_case (V S : ByteArray) (P : Int → Bool) (h1 : P (-1) = false) (h2 : P 65533 = false) (h3 : P 10 = false) (q p : Nat) (l c l' c' : Int) (R : Int × Int × Int) (hq : q < V.size) (hP : P (rI V q) = true) (hR : run V P (V.size + 1) q l c = R) (hA : At S p (bytesOf (V.extract q R.1.toNat) ++ [10])) :
    ∃ w, 1 ≤ w ∧ R.1 = ((q + w : Nat) : Int) ∧ q + w ≤ V.size ∧ (bytesOf (V.extract q R.1.toNat)).length = w ∧ rI S p = rI V q ∧ p + w < S.size ∧ (run S P (S.size + 1) p l' c').1 = ((p + w : Nat) : Int) ∧ (run S P (S.size + 1) p l' c').2.1 = l' ∧ S.extract p (p + w) = V.extract q (q + w) ∧ rE S ((p + w : Nat) : Int) = 10 := by
  have hx := rI_range V q (by omega) (by omega)
  have hrE : rE V q = rI V q := by unfold rE; rw [if_pos (by omega)]
  have hm := run_mono V P h1 V.size ((q : Int) + nI V q) (lin V q l) (col V q c) (by omega) (by omega)
  have hst : run V P (V.size + 1) q l c = run V P V.size ((q : Int) + nI V q) (lin V q l) (col V q c) := by rw [run, if_pos (by rw [hrE]; exact hP)]
  rw [← hst, hR] at hm
  obtain ⟨w, hw⟩ : ∃ w : Nat, R.1 = ((q + w : Nat) : Int) := ⟨(R.1 - q).toNat, by omega⟩
  rw [hw, Int.toNat_natCast] at hA ⊢
  have hlen : (bytesOf (V.extract q (q + w))).length = w := by rw [bytesOf_length, ByteArray.size_extract]; omega
  have hnl := hA.nl
  rw [hlen] at hnl
  have hg := hA.left.ag (by omega) (by omega)
  rw [show q + w - q = w by omega] at hg
  have hwr : wrongB V q = false := not_wrong_of V q (fun hh => by rw [hh, h2] at hP; cases hP)
  have hl := loc hg (by omega) (by omega) hwr
  have he : rE S ((p + w : Nat) : Int) = 10 := by unfold rE; rw [if_pos (by omega)]; exact hnl.2.1
  have hc := run_copy S V P h1 h2 h3 (V.size + 1) q l c p (S.size + 1) l' c' w (by rw [hR]; exact hw) hg (by rw [he]; exact h3) (by omega)
  refine ⟨w, by omega, rfl, by omega, hlen, hl.1, hnl.1, hc.1, hc.2, ?_, he⟩
  apply str_eq
  have := hA.left.bytes
  rw [hlen] at this
  exact this
theorem ext_size (V : ByteArray) (i j : Nat) : (V.extract i j).size ≤ V.size := by rw [ByteArray.size_extract]; omega
set_option maxHeartbeats 2000000 in
theorem lex_copy (V S : ByteArray) (q p : Nat) (l c l' c' : Int) (x : S35) (b2 e' l2 c2 : Int) (hq : q < V.size) (h : lexR V q l c = (0, b2, x, e', l2, c2)) (hA : At S p (pieceL x ++ [10])) :
    (sl2 S p = false ∧ blB (rI S p) = false) ∧ wrongB S p = false ∧ p < S.size ∧ 1 ≤ (pieceL x).length ∧ x.f1.size ≤ V.size ∧ ∃ b3 c3, lexR S p l' c' = (0, b3, ⟨x.f0, x.f1, x.f2, p, l', c'⟩, ((p + (pieceL x).length : Nat) : Int), l', c3) := by
  unfold lexR at h
  rw [Int.toNat_natCast] at h
  by_cases g1 : letB (rI V q) = true
  · rw [if_pos g1] at h
    obtain ⟨R, hR⟩ : ∃ R, run V wordB (V.size + 1) q l c = R := ⟨_, rfl⟩
    rw [hR] at h
    split at h
    · exact absurd (congrArg (fun z => z.1) h) (by simp)
    · rename_i hlen
      have hx : (⟨1, V.extract q R.1.toNat, 0, q, l, c⟩ : S35) = x := congrArg (fun z => z.2.2.1) h
      subst hx
      have hpl : pieceL ⟨1, V.extract q R.1.toNat, 0, q, l, c⟩ = bytesOf (V.extract q R.1.toNat) := if_neg (show ¬ (1 : Int) = 3 by decide)
      rw [hpl] at hA ⊢
      obtain ⟨w, w1, hw, hwV, hwl, hr, hps, r1, r2, hex, he⟩ := run_case V S wordB (by decide) (by decide) (by decide) q p l c l' c' R hq (by unfold wordB; rw [g1]; rfl) hR hA
      have fo := first_ok (rI V q) (.inl g1)
      rw [hwl]
      rw [hw] at hlen
      rw [hw, Int.toNat_natCast]
      refine ⟨⟨sl2_no S p (by omega) (by omega) (by rw [hr]; exact fo.2.1), by rw [hr]; exact fo.1⟩, not_wrong_of S p (by rw [hr]; exact fo.2.2), by omega, by omega, ext_size _ _ _, 0, (run S wordB (S.size + 1) p l' c').2.2, ?_⟩
      unfold lexR
      rw [hr, if_pos g1, r1, r2, if_neg (by omega), Int.toNat_natCast, Int.toNat_natCast, hex]
  · rw [if_neg g1] at h
    by_cases g2 : digB (rI V q) = true
    · rw [if_pos g2] at h
      obtain ⟨R, hR⟩ : ∃ R, run V digB (V.size + 1) q l c = R := ⟨_, rfl⟩
      rw [hR] at h
      have hx : (⟨2, V.extract q R.1.toNat, numV (V.extract q R.1.toNat), q, l, c⟩ : S35) = x := congrArg (fun z => z.2.2.1) h
      have hn : (numE V q R.1).1 = 0 := congrArg (fun z => z.1) h
      subst hx
      have hpl : pieceL ⟨2, V.extract q R.1.toNat, numV (V.extract q R.1.toNat), q, l, c⟩ = bytesOf (V.extract q R.1.toNat) := if_neg (show ¬ (2 : Int) = 3 by decide)
      rw [hpl] at hA ⊢
      obtain ⟨w, w1, hw, hwV, hwl, hr, hps, r1, r2, hex, he⟩ := run_case V S digB (by decide) (by decide) (by decide) q p l c l' c' R hq g2 hR hA
      have fo := first_ok (rI V q) (.inr (.inl g2))
      rw [hwl]
      rw [hw] at hn
      rw [hw, Int.toNat_natCast]
      have hb : bt S (p : Int) = bt V (q : Int) := by
        rw [hw, Int.toNat_natCast] at hA
        have := hA.left.ag (by omega) (by omega)
        have := this.b 0 (by omega)
        rw [bt_bv, bt_bv]
        exact_mod_cast this
      have hN : numE S p ((p + w : Nat) : Int) = (0, 0) := by
        unfold numE at hn ⊢
        rw [he, hb]
        by_cases a1 : 18 < ((q + w : Nat) : Int) - (q : Int)
        · rw [if_pos a1] at hn; cases hn
        · rw [if_neg a1] at hn
          rw [if_neg (by omega)]
          by_cases a2 : 1 < ((q + w : Nat) : Int) - (q : Int) ∧ bt V (q : Int) = 48
          · rw [if_pos a2] at hn; cases hn
          · rw [if_neg (by omega), if_neg (by decide)]
      refine ⟨⟨sl2_no S p (by omega) (by omega) (by rw [hr]; exact fo.2.1), by rw [hr]; exact fo.1⟩, not_wrong_of S p (by rw [hr]; exact fo.2.2), by omega, by omega, ext_size _ _ _, 0, (run S digB (S.size + 1) p l' c').2.2, ?_⟩
      unfold lexR
      rw [hr, if_neg g1, if_pos g2, r1, r2, Int.toNat_natCast, Int.toNat_natCast, hex, hN]
    · rw [if_neg g2] at h
      by_cases g3 : rI V q = 34
      · rw [if_pos g3] at h
        obtain ⟨R, hR⟩ : ∃ R, txt V q (V.size + 1) ((q : Int) + 1) l (c + 1) [] = R := ⟨_, rfl⟩
        have htl := txt_len V q (V.size + 1) ((q : Int) + 1) l (c + 1) [] (by omega) (by omega)
        rw [hR] at h htl
        have hx : (⟨3, strOfNums R.2.2.1, 0, q, l, c⟩ : S35) = x := congrArg (fun z => z.2.2.1) h
        subst hx
        obtain ⟨U, hU⟩ : ∃ U, strOfNums R.2.2.1 = U := ⟨_, rfl⟩
        have hUs : U.size ≤ V.size := by
          rw [← hU]
          have e1 : (strOfNums R.2.2.1).size = R.2.2.1.length := by
            have hd : (strOfNums R.2.2.1).data.toList = Lib.bytesOf R.2.2.1 := rfl
            have := congrArg List.length hd
            rw [Array.length_toList, Lib.bytesOf_length] at this
            exact this
          rw [e1]
          simp only [List.length_nil] at htl
          omega
        rw [hU] at hA ⊢
        have hpl : pieceL ⟨3, U, 0, q, l, c⟩ = [34] ++ tq U U.size 0 := (if_pos rfl).trans (quote_tq U)
        rw [hpl] at hA ⊢
        have hA0 : At S p [34] := hA.left.left
        have hp1 : p + 1 ≤ S.size := hA0.1
        have hb : bt S (p : Int) = 34 := hA0.2 0 (by simp)
        have hr := (low_byte S p 34 (by decide) (by omega) hb).1
        have hr1 : rI S p = 34 := hr
        have hA1 : At S (p + 1) (tq U U.size ((0 : Nat) : Int)) := hA.left.right
        have ht := txt_quote S U p U.size 0 (p + 1) (S.size + 1) l' (c' + 1) [] (by omega) (by omega) hA1 (by
          apply Eq.symm
          apply List.eq_nil_of_length_eq_zero
          rw [bytesOf_length, ByteArray.size_extract]
          omega) (by omega)
        have fo := first_ok 34 (.inr (.inr rfl))
        rw [show ((p + 1 : Nat) : Int) = (p : Int) + 1 by omega] at ht
        refine ⟨⟨sl2_no S p (by omega) (by omega) (by rw [hr1]; decide), by rw [hr1]; exact fo.1⟩, not_wrong_of S p (by rw [hr1]; decide), by omega, by simp, hUs, 0, (txt S p (S.size + 1) ((p : Int) + 1) l' (c' + 1) []).2.2.2.2.2, ?_⟩
        have ht4 : (txt S p (S.size + 1) ((p : Int) + 1) l' (c' + 1) []).2.2.2.1 = ((p + (1 + (tq U U.size 0).length) : Nat) : Int) := by rw [← Nat.add_assoc]; exact ht.2.2.2.1
        unfold lexR
        rw [hr1, if_neg (by decide), if_neg (by decide), if_pos rfl, ht.1, ht.2.1, ht.2.2.1, ht4, ht.2.2.2.2, str_bytes]
        rw [List.length_append, List.length_singleton]
      · rw [if_neg g3] at h
        split at h
        · exact absurd (congrArg (fun z => z.1) h) (by simp)
        · rename_i g4
          have hx : (⟨4, V.extract q ((q : Int) + sgW V q).toNat, 0, q, l, c⟩ : S35) = x := congrArg (fun z => z.2.2.1) h
          subst hx
          have hpl : pieceL ⟨4, V.extract q ((q : Int) + sgW V q).toNat, 0, q, l, c⟩ = bytesOf (V.extract q ((q : Int) + sgW V q).toNat) := if_neg (show ¬ (4 : Int) = 3 by decide)
          rw [hpl] at hA ⊢
          -- the width and the first byte
          have key : ∃ (w v : Nat), (w = 1 ∨ w = 2) ∧ sgW V q = (w : Int) ∧ q + w ≤ V.size ∧ bt V (q : Int) = (v : Int) ∧ v < 128 ∧ blB v = false ∧ letB v = false ∧ digB v = false ∧ (v : Int) ≠ 34 ∧
              (∀ T : ByteArray, ∀ t : Nat, At T t (bytesOf (V.extract q (q + w)) ++ [10]) → sgW T t = (w : Int) ∧ sl2 T t = false) := by
            by_cases k2 : twoB V q = true
            · have tb := two_bytes V q (by omega) k2
              obtain ⟨v, hv, hv3⟩ : ∃ v : Nat, bt V (q : Int) = (v : Int) ∧ (v = 61 ∨ v = 33 ∨ v = 60) := ⟨(bt V (q : Int)).toNat, by omega, by omega⟩
              have hvl : v < 128 := by omega
              have fa : blB v = false ∧ letB v = false ∧ digB v = false ∧ (v : Int) ≠ 34 := by
                rcases hv3 with rfl | rfl | rfl <;> decide
              refine ⟨2, v, .inr rfl, by unfold sgW; rw [if_pos k2]; rfl, by omega, hv, hvl, fa.1, fa.2.1, fa.2.2.1, fa.2.2.2, fun T t hT => ?_⟩
              have hz : (bytesOf (V.extract q (q + 2))).length = 2 := by rw [bytesOf_length, ByteArray.size_extract]; omega
              have hl := hT.left
              have hs := hl.1
              rw [hz] at hs
              have t0 : bt T (t : Int) = (v : Int) := by
                have := hl.2 0 (by rw [hz]; decide)
                rw [bytes_get, bt_sub V q (q + 2) 0 (by omega) (by omega)] at this
                exact this.trans hv
              have t1 : bt T ((t + 1 : Nat) : Int) = 61 := by
                have := hl.2 1 (by rw [hz]; decide)
                rw [bytes_get, bt_sub V q (q + 2) 1 (by omega) (by omega)] at this
                exact this.trans (by have := tb.2.2; rwa [show ((q + 1 : Nat) : Int) = (q : Int) + 1 by omega])
              refine ⟨by unfold sgW; rw [if_pos (twoB_of T t (by omega) (by rw [t0]; omega) t1)]; rfl, ?_⟩
              have hr := (low_byte T t v hvl (by omega) t0).1
              exact sl2_no T t (by omega) (by omega) (by rw [hr]; omega)
            · have k2' : twoB V q = false := by simpa using k2
              have k1 : oneB (bt V (q : Int)) = true := by
                unfold sgW at g4
                rw [if_neg k2] at g4
                by_cases k : oneB (bt V (q : Int)) = true
                · exact k
                · rw [if_neg k] at g4
                  exact absurd rfl g4
              have ob := one_byte _ k1
              obtain ⟨v, hv⟩ : ∃ v : Nat, bt V (q : Int) = (v : Int) := ⟨(bt V (q : Int)).toNat, by omega⟩
              have hvl : v < 128 := by omega
              rw [hv] at k1
              have fa : blB v = false ∧ letB v = false ∧ digB v = false ∧ (v : Int) ≠ 34 := by
                have : ∀ c : Fin 128, oneB (c.val : Int) = true → (blB (c.val : Int) = false ∧ letB (c.val : Int) = false ∧ digB (c.val : Int) = false ∧ (c.val : Int) ≠ 34) := by decide +kernel
                exact this ⟨v, hvl⟩ k1
              refine ⟨1, v, .inl rfl, by unfold sgW; rw [if_neg k2, if_pos (by rw [hv]; exact k1)]; rfl, by omega, hv, hvl, fa.1, fa.2.1, fa.2.2.1, fa.2.2.2, fun T t hT => ?_⟩
              have hz : (bytesOf (V.extract q (q + 1))).length = 1 := by rw [bytesOf_length, ByteArray.size_extract]; omega
              have hl := hT.left
              have hnl := hT.nl
              rw [hz] at hnl
              have t0 : bt T (t : Int) = (v : Int) := by
                have := hl.2 0 (by rw [hz]; decide)
                rw [bytes_get, bt_sub V q (q + 1) 0 (by omega) (by omega)] at this
                exact this.trans hv
              have nt : ¬ twoB T t = true := by
                intro hh
                have := (two_bytes T t (by omega) hh).2.2
                rw [show (t : Int) + 1 = ((t + 1 : Nat) : Int) by omega, hnl.2.2] at this
                exact absurd this (by decide)
              refine ⟨by unfold sgW; rw [if_neg nt, if_pos (by rw [t0]; exact k1)]; rfl, ?_⟩
              rw [sl2_iff T t (by omega) (by omega)]
              have : bI T ((t : Int) + 1) = 10 := by
                have := hnl.2.2
                rw [bt_bv] at this
                unfold bI
                rw [show ((t : Int) + 1).toNat = t + 1 by omega]
                exact this
              rw [this]
              simp
          obtain ⟨w, v, hw12, hw, hwV, hv, hvl, f1, f2, f3, f4, hT⟩ := key
          rw [hw, show (q : Int) + (w : Int) = ((q + w : Nat) : Int) by omega, Int.toNat_natCast] at hA ⊢
          have hz : (bytesOf (V.extract q (q + w))).length = w := by rw [bytesOf_length, ByteArray.size_extract]; omega
          have hs := hA.left.1
          rw [hz] at hs ⊢
          have t0 : bt S (p : Int) = (v : Int) := by
            have := hA.left.2 0 (by rw [hz]; omega)
            rw [bytes_get, bt_sub V q (q + w) 0 (by omega) (by omega)] at this
            exact this.trans hv
          have hr := (low_byte S p v hvl (by omega) t0).1
          have hsg := hT S p hA
          have hex : S.extract p (p + w) = V.extract q (q + w) := by
            apply str_eq
            have := hA.left.bytes
            rw [hz] at this
            exact this
          refine ⟨⟨hsg.2, by rw [hr]; exact f1⟩, not_wrong_of S p (by rw [hr]; omega), by omega, by omega, ext_size _ _ _, 0, c' + w, ?_⟩
          unfold lexR
          rw [hr, if_neg (by rw [f2]; decide), if_neg (by rw [f3]; decide), if_neg f4, hsg.1, if_neg (by omega), show (p : Int) + (w : Int) = ((p + w : Nat) : Int) by omega, Int.toNat_natCast, Int.toNat_natCast, hex]
end Go.Proofs.YtgiaogocdihhhaaDoor.Tex
/- Tokens, there and back: all lexemes of a text, written line by line, are the same again. -/
namespace Go.Proofs.YtgiaogocdihhhaaDoor.Tex
open Go.RowKit Go.Proofs.YtgiaogocdihhhaaDoorW.PrintWords Go.Proofs.YtgiaogocdihhhaaDoorW.PrintLast Go.Proofs.YtgiaogocdihhhaaDoorW.PrintMore Go.Proofs.YtgiaogocdihhhaaDoor.PFnExactTokens
set_option linter.unusedVariables false
set_option linter.unusedSimpArgs false
/-- What is written of lexemes, a line's end behind each. -/
def pcs (L : List S35) : List Int := L.flatMap (fun x => pieceL x ++ [10])
/-- The same lexemes, one a line. -/
def Sm : Int → List S35 → List S35 → Prop
  | _, [], [] => True
  | k, x :: xs, y :: ys => (y.f0 = x.f0 ∧ y.f1 = x.f1 ∧ y.f2 = x.f2 ∧ y.f4 = k ∧ y.f5 = 1) ∧ Sm (k + 1) xs ys
  | _, [], _ :: _ => False
  | _, _ :: _, [] => False
theorem str_size (xs : List Int) : (strOfNums xs).size = xs.length := by
  have hd : (strOfNums xs).data.toList = Lib.bytesOf xs := rfl
  have := congrArg List.length hd
  rw [Array.length_toList, Lib.bytesOf_length] at this
  exact this
theorem lex_size (V : ByteArray) (a l c b2 : Int) (x : S35) (e' l2 c2 : Int) (h0 : 0 ≤ a) (ha : a < (V.size : Int)) (h : lexR V a l c = (0, b2, x, e', l2, c2)) : x.f1.size ≤ V.size := by
  have hx : (lexR V a l c).2.2.1 = x := by rw [h]
  rw [← hx]
  unfold lexR
  split
  · split
    · exact Nat.zero_le _
    · exact ext_size _ _ _
  · split
    · exact ext_size _ _ _
    · split
      · have htl := txt_len V a (V.size + 1) (a + 1) l (c + 1) [] (by omega) (by omega)
        simp only [List.length_nil] at htl
        show (strOfNums _).size ≤ _
        rw [str_size]
        omega
      · split
        · exact Nat.zero_le _
        · exact ext_size _ _ _
set_option maxHeartbeats 2000000 in
theorem toks_copy (V : ByteArray) : ∀ (n : Nat) (a l c b0 : Int) (out L : List S35), Pos V 1 a l c → V.size < n + a.toNat → out.length ≤ 20000 → toks V n a l c out = (0, b0, L) →
    ∃ M, L = out ++ M ∧ (∀ x, x ∈ M → x.f1.size ≤ V.size) ∧ ∀ (S : ByteArray) (p : Nat), At S p (pcs M) → p + (pcs M).length = S.size → Stop S p ∧ ∀ (k : Int) (m : Nat) (a' l' c' : Int) (out' : List S35), blk S (S.size + 1) false a' l' c' = (0, (p : Int), k, 1) → out'.length = out.length → S.size < m + p →
      ∃ M', toks S m a' l' c' out' = (0, 0, out' ++ M') ∧ Sm k M M'
  | 0, a, l, c, b0, out, L, hP, hn, hl, h => by have := hP.a1; have := hP.a0; omega
  | n + 1, a, l, c, b0, out, L, hP, hn, hl, h => by
    have hbk := blk_pos V 1 (by omega) (V.size + 1) false a l c hP
    obtain ⟨q, hq⟩ : ∃ q, blk V (V.size + 1) false a l c = q := ⟨_, rfl⟩
    rw [hq] at hbk
    obtain ⟨q1, q2, q3, q4⟩ := q
    simp only at hbk
    obtain ⟨hP2, hx⟩ := hbk
    have ha0 := hP.a0
    rw [toks_step V n a l c out q1 q2 q3 q4 hq] at h
    by_cases c1 : q1 ≠ 0
    · rw [if_pos c1] at h
      exact absurd (congrArg (fun z => z.1) h) c1
    · rw [if_neg c1] at h
      by_cases c2 : (V.size : Int) ≤ q2
      · rw [if_pos c2] at h
        have hL : out = L := congrArg (fun z => z.2.2) h
        refine ⟨[], by rw [← hL, List.append_nil], fun x hx => absurd hx (List.not_mem_nil), fun S p hA hp => ?_⟩
        have hp2 : p = S.size := hp
        refine ⟨.inl (by omega), fun k m a' l' c' out' hb ho hm => ⟨[], ?_, trivial⟩⟩
        obtain ⟨m, rfl⟩ : ∃ j, m = j + 1 := ⟨m - 1, by omega⟩
        rw [toks_step S m a' l' c' out' 0 p k 1 hb, if_neg (by simp), if_pos (by omega), List.append_nil]
      · rw [if_neg c2] at h
        by_cases c3 : wrongB V q2 = true
        · rw [if_pos c3] at h
          exact absurd (congrArg (fun z => z.1) h) (show ¬ (3 : Int) = 0 by decide)
        · rw [if_neg c3] at h
          by_cases c4 : (20000 : Int) ≤ out.length
          · rw [if_pos c4] at h
            exact absurd (congrArg (fun z => z.1) h) (show ¬ (10 : Int) = 0 by decide)
          · rw [if_neg c4] at h
            by_cases c5 : (lexR V q2 q3 q4).1 ≠ 0
            · rw [if_pos c5] at h
              exact absurd (congrArg (fun z => z.1) h) c5
            · rw [if_neg c5] at h
              have hpos := lexR_pos V 1 q2 q3 q4 (by omega) hP2 (by omega) (Decidable.not_not.1 c5)
              obtain ⟨Q, hQ⟩ : ∃ Q, lexR V q2 q3 q4 = Q := ⟨_, rfl⟩
              rw [hQ] at h hpos c5
              obtain ⟨b1, b2, x, e', l2, c2'⟩ := Q
              simp only at h hpos c5
              obtain rfl : b1 = 0 := Decidable.not_not.1 c5
              have hq20 := hP2.a0
              obtain ⟨qn, rfl⟩ : ∃ qn : Nat, q2 = (qn : Int) := ⟨q2.toNat, by omega⟩
              obtain ⟨M0, hL, hsz, hgo⟩ := toks_copy V n e' l2 c2' b0 (out ++ [x]) L hpos.1 (by omega) (by rw [List.length_append, List.length_singleton]; omega) h
              have hone : ∀ (S : ByteArray) (p : Nat) (l' c' : Int), At S p (pieceL x ++ [10]) → _ := fun S p l' c' hA => lex_copy V S qn p q3 q4 l' c' x b2 e' l2 c2' (by omega) hQ hA
              refine ⟨x :: M0, by rw [hL, List.append_assoc]; rfl, ?_, fun S p hA hp => ?_⟩
              · intro y hy
                rcases List.mem_cons.1 hy with rfl | hy
                · exact lex_size V qn q3 q4 b2 y e' l2 c2' (by omega) (by omega) hQ
                · exact hsz y hy
              · have e : pcs (x :: M0) = (pieceL x ++ [10]) ++ pcs M0 := List.flatMap_cons
                rw [e] at hA hp
                have hA1 := hA.left; have hA2 := hA.right
                rw [List.length_append, List.length_append, List.length_singleton] at hp
                rw [List.length_append, List.length_singleton] at hA2
                obtain ⟨st, go⟩ := hgo S (p + ((pieceL x).length + 1)) hA2 (by omega)
                have h1 := hone S p
                refine ⟨.inr (h1 0 0 hA1).1, fun k m a' l' c' out' hb ho hm => ?_⟩
                obtain ⟨m, rfl⟩ : ∃ j, m = j + 1 := ⟨m - 1, by omega⟩
                obtain ⟨-, hw, hlt, hpl, -, b3, c3', hlex⟩ := h1 k 1 hA1
                have hnl := blk_nl S (p + (pieceL x).length) hA1.right (by rw [Nat.add_assoc]; exact st) k c3'
                rw [Nat.add_assoc] at hnl
                obtain ⟨M', hM, hsm⟩ := go (k + 1) m ((p + (pieceL x).length : Nat) : Int) k c3' (out' ++ [⟨x.f0, x.f1, x.f2, p, k, 1⟩]) hnl (by rw [List.length_append, List.length_append, ho]; rfl) (by omega)
                refine ⟨⟨x.f0, x.f1, x.f2, p, k, 1⟩ :: M', ?_, ⟨⟨rfl, rfl, rfl, rfl, rfl⟩, hsm⟩⟩
                rw [toks_step S m a' l' c' out' 0 p k 1 hb, if_neg (by simp), if_neg (by omega), if_neg (by rw [hw]; simp), if_neg (by rw [ho]; exact c4), hlex, if_neg (by simp), hM, List.append_assoc]
                rfl
theorem tokR_copy (V S : ByteArray) (L : List S35) (b0 : Int) (h : tokR V = (0, b0, L)) (hS : bytesOf S = pcs L) (hl : longB S = false) :
    ∃ M, tokR S = (0, 0, M) ∧ Sm 1 L M := by
  unfold tokR at h ⊢
  rw [hl, if_neg (by simp)]
  by_cases hV : longB V = true
  · rw [if_pos hV] at h
    exact absurd (congrArg (fun z => z.1) h) (show ¬ (2 : Int) = 0 by decide)
  · rw [if_neg hV] at h
    obtain ⟨M, hM, -, hgo⟩ := toks_copy V (V.size + 1) 0 1 1 b0 [] L ⟨by omega, by omega, by omega, by omega⟩ (by omega) (by simp) h
    rw [List.nil_append] at hM
    subst hM
    have hA : At S 0 (pcs L) := At.of [] (pcs L) [] (by rw [hS]; simp)
    have hz : 0 + (pcs L).length = S.size := by rw [← hS, bytesOf_length, Nat.zero_add]
    obtain ⟨st, go⟩ := hgo S 0 hA hz
    exact go 1 (S.size + 1) 0 1 1 [] (blk_halt S 0 st (by omega) S.size 1 1) rfl (by omega)
theorem tokR_small (V : ByteArray) (L : List S35) (b0 : Int) (h : tokR V = (0, b0, L)) : ∀ x, x ∈ L → x.f1.size ≤ 65536 := by
  unfold tokR at h
  by_cases hV : longB V = true
  · rw [if_pos hV] at h
    exact absurd (congrArg (fun z => z.1) h) (show ¬ (2 : Int) = 0 by decide)
  · rw [if_neg hV] at h
    obtain ⟨M, hM, hsz, -⟩ := toks_copy V (V.size + 1) 0 1 1 b0 [] L ⟨by omega, by omega, by omega, by omega⟩ (by omega) (by simp) h
    rw [List.nil_append] at hM
    subst hM
    have hv : ¬ (65536 : Int) < (V.size : Int) := by
      unfold longB at hV
      simpa using hV
    intro x hx
    have := hsz x hx
    omega
end Go.Proofs.YtgiaogocdihhhaaDoor.Tex
/- Tokens, there and back: what the law reads. -/
namespace Go.Proofs.YtgiaogocdihhhaaDoor.Tex
open Go.RowKit Go.Proofs.YtgiaogocdihhhaaDoorW.PrintWords Go.Proofs.YtgiaogocdihhhaaDoorW.PrintLast Go.Proofs.YtgiaogocdihhhaaDoorW.PrintMore Go.Proofs.YtgiaogocdihhhaaDoor.PFnExactTokens
set_option linter.unusedVariables false
set_option linter.unusedSimpArgs false
theorem Sm.len : ∀ (k : Int) (L M : List S35), Sm k L M → M.length = L.length
  | k, [], [], _ => rfl
  | k, x :: xs, y :: ys, h => by rw [List.length_cons, List.length_cons, Sm.len (k + 1) xs ys h.2]
theorem Sm.get : ∀ (k : Int) (L M : List S35), Sm k L M → ∀ j, j < L.length → (M.getD j z35).f0 = (L.getD j z35).f0 ∧ (M.getD j z35).f1 = (L.getD j z35).f1 ∧ (M.getD j z35).f2 = (L.getD j z35).f2 ∧ (M.getD j z35).f4 = k + (j : Int) ∧ (M.getD j z35).f5 = 1
  | k, [], [], _, j, hj => by simp at hj
  | k, x :: xs, y :: ys, h, 0, hj => by
    refine ⟨h.1.1, h.1.2.1, h.1.2.2.1, ?_, h.1.2.2.2.2⟩
    show y.f4 = k + ((0 : Nat) : Int)
    rw [h.1.2.2.2.1]
    simp
  | k, x :: xs, y :: ys, h, j + 1, hj => by
    have := Sm.get (k + 1) xs ys h.2 j (by simpa using hj)
    refine ⟨this.1, this.2.1, this.2.2.1, ?_, this.2.2.2.2⟩
    show (ys.getD j z35).f4 = k + ((j + 1 : Nat) : Int)
    rw [this.2.2.2.1]
    omega
theorem bytes_app (a b : ByteArray) : bytesOf (a ++ b) = bytesOf a ++ bytesOf b := by
  unfold Go.Proofs.YtgiaogocdihhhaaDoorW.PrintWords.bytesOf
  rw [ByteArray.data_append, Array.toList_append, List.map_append]
theorem bytes_str : ∀ (xs : List Int), (∀ x, x ∈ xs → 0 ≤ x ∧ x ≤ 255) → bytesOf (strOfNums xs) = xs := by
  intro xs h
  have hd : (strOfNums xs).data.toList = Lib.bytesOf xs := rfl
  unfold Go.Proofs.YtgiaogocdihhhaaDoorW.PrintWords.bytesOf
  rw [hd]
  unfold Lib.bytesOf
  rw [List.map_map]
  conv => rhs; rw [← List.map_id xs]
  apply List.map_congr_left
  intro x hx
  have := h x hx
  show (((UInt8.ofNat x.toNat).toNat : Nat) : Int) = x
  rw [UInt8.toNat_ofNat']
  omega
theorem bytes_in (V : ByteArray) : ∀ y, y ∈ bytesOf V → 0 ≤ y ∧ y ≤ 255 := by
  intro y hy
  obtain ⟨j, hj⟩ := List.mem_iff_getElem?.1 hy
  have hl : j < (bytesOf V).length := by
    rcases Nat.lt_or_ge j (bytesOf V).length with q | q
    · exact q
    · rw [List.getElem?_eq_none q] at hj; cases hj
  have e : (bytesOf V).getD j 0 = y := by rw [List.getD_eq_getElem?_getD, hj]; rfl
  rw [bytes_get] at e
  rw [← e]
  exact bt_range V j
theorem qp_in (V : ByteArray) (i : Int) : ∀ y, y ∈ qp V i → 0 ≤ y ∧ y ≤ 255 := by
  intro y hy
  unfold qp at hy
  split at hy
  · simp only [List.mem_cons, List.not_mem_nil, or_false] at hy
    omega
  · split at hy
    · simp only [List.mem_cons, List.not_mem_nil, or_false] at hy
      rename_i h
      omega
    · split at hy
      · have h1 := bt_range hexS (bt V i / 16)
        have h2 := bt_range hexS (bt V i % 16)
        simp only [List.mem_cons, List.not_mem_nil, or_false] at hy
        rcases hy with h | h | h | h <;> omega
      · exact bytes_in _ y hy
theorem tq_in (V : ByteArray) : ∀ n i, ∀ y, y ∈ tq V n i → 0 ≤ y ∧ y ≤ 255
  | 0, i, y, hy => by
    have : y = 34 := by simpa [tq] using hy
    omega
  | n + 1, i, y, hy => by
    rw [tq] at hy
    split at hy
    · rcases List.mem_append.1 hy with h | h
      · exact qp_in V i y h
      · exact tq_in V n _ y h
    · have : y = 34 := by simpa using hy
      omega
theorem quote_bytes (V : ByteArray) (h : V.size ≤ 65536) : bytesOf (quoteS V) = quoteL V := by
  unfold quoteS
  have hl : longB V = false := by unfold longB; exact decide_eq_false (by omega)
  rw [hl, if_neg (by simp)]
  apply bytes_str
  rw [quote_tq]
  intro y hy
  rcases List.mem_append.1 hy with h | h
  · have : y = 34 := by simpa using h
    omega
  · exact tq_in V _ _ y h
theorem pcs_take (L : List S35) (j : Nat) (h : j < L.length) : pcs (L.take (j + 1)) = pcs (L.take j) ++ (pieceL (L.getD j z35) ++ [10]) := by
  have e : L.take (j + 1) = L.take j ++ [L.getD j z35] := by
    rw [List.take_add_one, List.getD_eq_getElem?_getD, List.getElem?_eq_getElem h]
    rfl
  unfold pcs
  rw [e, List.flatMap_append]
  simp
theorem quote_size2 (s : ByteArray) : (quoteS s).size ≤ 2 + 4 * s.size := by
  unfold quoteS
  split
  · exact Nat.zero_le _
  · rw [str_size]
    have h := go_range (a0 := [34]) (qp_len s) s.size
    have : (quoteL s).length = (go s (qp s) [34] s.size).2.length + 1 := by unfold quoteL all; rw [List.length_append]; rfl
    rw [this]
    simp only [List.length_singleton] at h
    omega
end Go.Proofs.YtgiaogocdihhhaaDoor.Tex
