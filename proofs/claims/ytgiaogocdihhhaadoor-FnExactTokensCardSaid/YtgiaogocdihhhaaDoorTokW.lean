/- Tokens: the law's marks, the plain side. -/
import Derived.Test.YtgiaogocdihhhaaDoorPFnExactTokensx5
import Derived.Test.YtgiaogocdihhhaaDoorPFnExactTokensx6
namespace Go.Proofs.YtgiaogocdihhhaaDoor.Tex
open Go.RowKit Go.Proofs.YtgiaogocdihhhaaDoorW.PrintWords Go.Proofs.YtgiaogocdihhhaaDoorW.PrintLast Go.Proofs.YtgiaogocdihhhaaDoorW.PrintMore Go.Proofs.YtgiaogocdihhhaaDoor.PFnExactTokens
set_option linter.unusedVariables false
set_option linter.unusedSimpArgs false
theorem w64_in (n : Int) (h : -9223372036854775808 ≤ n ∧ n ≤ 9223372036854775807) : wrap64 n = n := by unfold wrap64; omega
theorem size_one (x : Int) : (strOfNums [x]).size = 1 := rfl
theorem mtl : ∀ (K : Nat) (k : Int) (acc : ByteArray), 0 ≤ k → k < 10 ^ K → k < 1000000000000 → acc.size + K ≤ 1000 → ∃ r, laws_markText.l0 (K + 1) k acc = some r
  | 0, k, acc, h0, h1, h2, h3 => by
    have hk : k = 0 := by simp at h1; omega
    subst hk
    exact ⟨_, by unfold laws_markText.l0; rw [if_neg (by decide), if_pos (by omega)]⟩
  | K + 1, k, acc, h0, h1, h2, h3 => by
    by_cases hk : k > 0
    · have hd : Int.tdiv k 10 = k / 10 := Int.tdiv_eq_ediv_of_nonneg h0
      have hp : k / 10 < 10 ^ K := by
        have e : (10 : Int) ^ (K + 1) = 10 ^ K * 10 := Int.pow_succ 10 K
        rw [e] at h1
        omega
      obtain ⟨r, hr⟩ := mtl K (k / 10) (strOfNums [(wrap64 (48 + (Int.tmod k 10))) % 256] ++ acc) (by omega) hp (by omega) (by rw [ByteArray.size_append, size_one]; omega)
      refine ⟨r, ?_⟩
      rw [laws_markText.l0, if_pos hk, Option.bind_some, if_pos (by rw [size_one]; omega), hd, w64_in _ (by omega)]
      exact hr
    · exact ⟨_, by rw [laws_markText.l0, if_neg hk, if_pos (by omega)]⟩
theorem mtf (k : Int) (h : k < 1000000000000) : ∃ r, laws_markText.f 20 k = some r := by
  unfold laws_markText.f
  by_cases hk : k ≤ 0
  · rw [if_pos hk]
    exact ⟨_, rfl⟩
  · rw [if_neg hk]
    exact mtl 19 k _ (by omega) (by omega) h (by decide)
/-- The mark's text. -/
def mt (k : Int) : ByteArray := (laws_markText.f 20 k).getD ⟨#[]⟩
theorem mt_ge (k : Int) (h : k < 1000000000000) : ∀ n, laws_markText.f (20 + n) k = some (mt k)
  | 0 => by
    obtain ⟨r, hr⟩ := mtf k h
    unfold mt
    rw [hr]
    rfl
  | n + 1 => laws_markText.mono k (20 + n) _ (mt_ge k h n)
def marks : Int → Nat → List S35
  | _, 0 => []
  | x, n + 1 => ⟨x, mt (x + 1), x + 1 + 1, x + 1 + 1 + 1, x + 1 + 1 + 1 + 1, x + 1 + 1 + 1 + 1 + 1⟩ :: marks (x + 1 + 1 + 1 + 1 + 1 + 1) n
theorem marks_len : ∀ n x, (marks x n).length = n
  | 0, _ => rfl
  | n + 1, x => by rw [marks, List.length_cons, marks_len n]
theorem rd_set (l : List S35) (i : Nat) (x : S35) (h : i < l.length) : rd_T35 (l.set i x) (i : Int) = x := by
  unfold rd_T35
  rw [Int.toNat_natCast, List.getD_eq_getElem?_getD, List.getElem?_set_self h]
  rfl
set_option maxHeartbeats 4000000 in
theorem markL : ∀ (n : Nat) (i : Nat) (x : Int) (pre rest : List S35), pre.length = i → rest.length = n → i + n ≤ 1000000 → 0 ≤ x → x + 6 * (n : Int) < 1000000000 →
    laws_markTokenS.l0 (21 + n) (pre ++ rest) x (i : Int) = some (x + 6 * (n : Int), pre ++ marks x n)
  | 0, i, x, pre, rest, hp, hr, hn, h0, h1 => by
    have e : rest = [] := List.eq_nil_of_length_eq_zero hr
    subst e
    rw [laws_markTokenS.l0, if_neg (by simp; omega)]
    simp [marks]
  | n + 1, i, x, pre, rest, hp, hr, hn, h0, h1 => by
    obtain ⟨y, ys, rfl⟩ : ∃ y ys, rest = y :: ys := by
      cases rest with
      | nil => simp at hr
      | cons y ys => exact ⟨y, ys, rfl⟩
    have hl : i < (pre ++ y :: ys).length := by simp; omega
    have hl1 : (i : Int) < ((pre ++ y :: ys).length : Int) := by exact_mod_cast hl
    have hi0 : (0 : Int) ≤ (i : Int) := Int.natCast_nonneg i
    have hm := mt_ge (x + 1) (by omega) (1 + n)
    have hk : 20 + (1 + n) = 21 + n := by omega
    rw [hk] at hm
    have ih := markL n (i + 1) (x + 1 + 1 + 1 + 1 + 1 + 1) (pre ++ [⟨x, mt (x + 1), x + 1 + 1, x + 1 + 1 + 1, x + 1 + 1 + 1 + 1, x + 1 + 1 + 1 + 1 + 1⟩]) ys (by simp; omega) (by simpa using hr) (by omega) (by omega) (by omega)
    have w1 := w64_in (x + 1) (by omega)
    have w2 := w64_in (x + 1 + 1) (by omega)
    have w3 := w64_in (x + 1 + 1 + 1) (by omega)
    have w4 := w64_in (x + 1 + 1 + 1 + 1) (by omega)
    have w5 := w64_in (x + 1 + 1 + 1 + 1 + 1) (by omega)
    have w6 := w64_in (x + 1 + 1 + 1 + 1 + 1 + 1) (by omega)
    have wi := w64_in ((i : Int) + 1) (by omega)
    rw [show 21 + (n + 1) = (21 + n) + 1 from rfl, laws_markTokenS.l0, if_pos hl1, if_pos hi0]
    simp only [w1, w2, w3, w4, w5, w6, wi, Option.bind_some, hm, Int.toNat_natCast]
    rw [rd_set _ _ _ hl]
    simp only [List.set_set]
    rw [rd_set _ _ _ hl]
    simp only [List.set_set]
    rw [rd_set _ _ _ hl]
    simp only [List.set_set]
    rw [rd_set _ _ _ hl]
    simp only [List.set_set]
    rw [rd_set _ _ _ hl]
    simp only [List.set_set]
    have hs : ∀ z : S35, (pre ++ y :: ys).set i z = (pre ++ [z]) ++ ys := by
      intro z
      rw [← hp, List.set_append_right _ _ (Nat.le_refl _), Nat.sub_self]
      simp
    rw [hs]
    have e2 : ((i + 1 : Nat) : Int) = (i : Int) + 1 := by omega
    rw [e2] at ih
    rw [ih, marks]
    simp
    omega
set_option maxHeartbeats 4000000 in
theorem heldL : ∀ (n : Nat) (i : Nat) (x : Int) (pre : List S35), pre.length = i → i + n ≤ 1000000 → 0 ≤ x → x + 6 * (n : Int) < 1000000000 →
    laws_heldTokenS.l0 (21 + n) (pre ++ marks x n) x (i : Int) = some (x + 6 * (n : Int))
  | 0, i, x, pre, hp, hn, h0, h1 => by
    rw [laws_heldTokenS.l0, if_neg (by simp [marks]; omega)]
    simp
  | n + 1, i, x, pre, hp, hn, h0, h1 => by
    have hm := mt_ge (x + 1) (by omega) (1 + n)
    have hk : 20 + (1 + n) = 21 + n := by omega
    rw [hk] at hm
    have ih := heldL n (i + 1) (x + 1 + 1 + 1 + 1 + 1 + 1) (pre ++ [⟨x, mt (x + 1), x + 1 + 1, x + 1 + 1 + 1, x + 1 + 1 + 1 + 1, x + 1 + 1 + 1 + 1 + 1⟩]) (by simp; omega) (by omega) (by omega) (by omega)
    have w1 := w64_in (x + 1) (by omega)
    have w2 := w64_in (x + 1 + 1) (by omega)
    have w3 := w64_in (x + 1 + 1 + 1) (by omega)
    have w4 := w64_in (x + 1 + 1 + 1 + 1) (by omega)
    have w5 := w64_in (x + 1 + 1 + 1 + 1 + 1) (by omega)
    have w6 := w64_in (x + 1 + 1 + 1 + 1 + 1 + 1) (by omega)
    have wi := w64_in ((i : Int) + 1) (by omega)
    have hi0 : (0 : Int) ≤ (i : Int) := Int.natCast_nonneg i
    have hl1 : (i : Int) < ((pre ++ marks x (n + 1)).length : Int) := by rw [List.length_append, marks_len]; clear hm ih w1 w2 w3 w4 w5 w6 wi; omega
    have hrd : rd_T35 (pre ++ marks x (n + 1)) (i : Int) = ⟨x, mt (x + 1), x + 1 + 1, x + 1 + 1 + 1, x + 1 + 1 + 1 + 1, x + 1 + 1 + 1 + 1 + 1⟩ := by
      unfold rd_T35
      rw [Int.toNat_natCast, List.getD_eq_getElem?_getD, List.getElem?_append_right (by omega), hp, Nat.sub_self, marks]
      rfl
    rw [show 21 + (n + 1) = (21 + n) + 1 from rfl, laws_heldTokenS.l0, if_pos hl1, if_pos hi0, hrd]
    simp only [w1, w2, w3, w4, w5, w6, wi, Option.bind_some, hm, if_true]
    have e2 : ((i + 1 : Nat) : Int) = (i : Int) + 1 := by omega
    rw [e2] at ih
    have e3 : pre ++ marks x (n + 1) = (pre ++ [⟨x, mt (x + 1), x + 1 + 1, x + 1 + 1 + 1, x + 1 + 1 + 1 + 1, x + 1 + 1 + 1 + 1 + 1⟩]) ++ marks (x + 1 + 1 + 1 + 1 + 1 + 1) n := by rw [marks]; simp
    rw [e3, ih]
    congr 1
    omega
theorem eqL : ∀ (n : Nat) (i : Nat) (l : List S35), i + n = l.length → l.length ≤ 1000000 → laws_eqTokenS.l0 (n + 1) l l (i : Int) = some true
  | 0, i, l, h, hl => by rw [laws_eqTokenS.l0, if_neg (by omega)]
  | n + 1, i, l, h, hl => by
    have ih := eqL n (i + 1) l (by omega) hl
    have wi := w64_in ((i : Int) + 1) (by omega)
    have e2 : ((i + 1 : Nat) : Int) = (i : Int) + 1 := by omega
    rw [e2] at ih
    rw [laws_eqTokenS.l0, if_pos (by omega), if_pos (by omega), if_pos (by omega)]
    unfold laws_eqToken.f
    simp only [if_true, Option.bind_some, wi]
    exact ih
theorem eqF (l : List S35) (hl : l.length ≤ 1000000) : laws_eqTokenS.f (l.length + 1) l l = some true := by
  unfold laws_eqTokenS.f
  rw [if_pos rfl]
  exact eqL l.length 0 l (by omega) hl
theorem markF (l : List S35) (hl : l.length ≤ 1000000) : laws_markTokenS.f (21 + l.length) l 1 = some (1 + 6 * (l.length : Int), marks 1 l.length) :=
  markL l.length 0 1 [] l rfl rfl (by omega) (by decide) (by omega)
theorem heldF (n : Nat) (hl : n ≤ 1000000) : laws_heldTokenS.f (21 + n) (marks 1 n) 1 = some (1 + 6 * (n : Int)) :=
  heldL n 0 1 [] rfl (by omega) (by decide) (by omega)
end Go.Proofs.YtgiaogocdihhhaaDoor.Tex
