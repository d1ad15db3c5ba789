/- Tokens: the number that digits are. -/
import Derived.Test.YtgiaogocdihhhaaDoorTokE
namespace Go.Proofs.YtgiaogocdihhhaaDoor.Tex
open Go.RowKit Go.Proofs.YtgiaogocdihhhaaDoorW.PrintWords Go.Proofs.YtgiaogocdihhhaaDoorW.PrintLast Go.Proofs.YtgiaogocdihhhaaDoorW.PrintMore Go.Proofs.YtgiaogocdihhhaaDoor.PFnExactTokens
set_option linter.unusedVariables false
set_option linter.unusedSimpArgs false

/-- The number of the first digits. -/
def nv (T : ByteArray) : Nat → Int
  | 0 => 0
  | i + 1 => 10 * nv T i + (bt T (i : Int) - 48)
def numV (T : ByteArray) : Int := nv T T.size
def Digs (T : ByteArray) : Prop := ∀ i : Int, 0 ≤ i → i < (T.size : Int) → 48 ≤ bt T i ∧ bt T i ≤ 57
theorem nv_bound (T : ByteArray) (h : Digs T) : ∀ i, i ≤ T.size → 0 ≤ nv T i ∧ nv T i < ((10 ^ i : Nat) : Int)
  | 0, _ => ⟨Int.le_refl _, show (0 : Int) < 1 by decide⟩
  | i + 1, hi => by
    have ih := nv_bound T h i (by omega)
    have hd := h (i : Int) (by omega) (by omega)
    show 0 ≤ 10 * nv T i + (bt T (i : Int) - 48) ∧ 10 * nv T i + (bt T (i : Int) - 48) < ((10 ^ (i + 1) : Nat) : Int)
    rw [Nat.pow_succ]
    omega
theorem nv_small (T : ByteArray) (h : Digs T) (hs : T.size ≤ 18) (i : Nat) (hi : i < T.size) : 0 ≤ nv T i ∧ nv T i < 100000000000000000 := by
  have h1 := nv_bound T h i (by omega)
  have h2 : 10 ^ i ≤ 10 ^ 17 := Nat.pow_le_pow_right (by decide) (by omega)
  have h3 : 10 ^ 17 = 100000000000000000 := by decide
  omega
theorem numV_small (T : ByteArray) (h : Digs T) (hs : T.size ≤ 18) : 0 ≤ numV T ∧ numV T < 1000000000000000000 := by
  have h1 := nv_bound T h T.size (Nat.le_refl _)
  have h2 : 10 ^ T.size ≤ 10 ^ 18 := Nat.pow_le_pow_right (by decide) hs
  have h3 : 10 ^ 18 = 1000000000000000000 := by decide
  unfold numV
  omega
theorem inum_step (T : ByteArray) (h : Digs T) (hs : T.size ≤ 18) (k i : Nat) (hi : i < T.size) : impl_numText.l0 (k + 1) T T (nv T i) (T.size : Int) (i : Int) = impl_numText.l0 k T T (nv T (i + 1)) (T.size : Int) ((i + 1 : Nat) : Int) := by
  have hd := h (i : Int) (by omega) (by omega)
  have hb := nv_small T h hs i hi
  have e1 : wrap64 (10 * nv T i) = 10 * nv T i := wrap_ok (by omega) (by omega)
  have e2 : wrap64 (10 * nv T i + (bt T (i : Int) - 48)) = 10 * nv T i + (bt T (i : Int) - 48) := wrap_ok (by omega) (by omega)
  have e3 : wrap64 ((i : Int) + 1) = ((i + 1 : Nat) : Int) := (wrap_ok (by omega) (by omega)).trans (by omega)
  rw [impl_numText.l0, if_pos (by omega), if_pos (by omega), if_pos (by omega), if_neg (by omega), if_neg (by omega), e1, show (bt T (i : Int) - 48) % 256 = bt T (i : Int) - 48 by omega, e2, e3]
  rfl
theorem inum_from (T : ByteArray) (h : Digs T) (hs : T.size ≤ 18) : ∀ (k i : Nat), i ≤ T.size → T.size ≤ i + k → impl_numText.l0 (k + 1) T T (nv T i) (T.size : Int) (i : Int) = some (numV T, true)
  | 0, i, hi, hk => by
    obtain rfl : i = T.size := by omega
    rw [impl_numText.l0, if_neg (by omega), if_neg (by omega)]
    rfl
  | k + 1, i, hi, hk => by
    by_cases hlt : i < T.size
    · rw [inum_step T h hs (k + 1) i hlt]
      exact inum_from T h hs k (i + 1) (by omega) (by omega)
    · obtain rfl : i = T.size := by omega
      rw [impl_numText.l0, if_neg (by omega), if_neg (by omega)]
      rfl
theorem inum_ok (T : ByteArray) (h : Digs T) (h1 : 1 ≤ T.size) (hs : T.size ≤ 18) (hz : T.size = 1 ∨ bt T 0 ≠ 48) : impl_numText.f 40 T = some (numV T, true) := by
  have hd := h 0 (by omega) (by omega)
  have hp : strings_TrimPrefix.f T ⟨#[45]⟩ = some T := by
    unfold strings_TrimPrefix.f
    rw [if_neg]
    intro hh
    unfold Lib.hasPrefix at hh
    obtain ⟨t, ht⟩ := List.isPrefixOf_iff_prefix.1 hh
    have hl0 := congrArg List.length ht
    have e0 : T[0]'(by omega) = 45 := by
      show T.data[0]'(by have : T.data.size = T.size := rfl; omega) = 45
      have := congrArg (fun l => l[0]?) ht
      simp only [Array.getElem?_toList] at this
      rw [Array.getElem?_eq_getElem (by have : T.data.size = T.size := rfl; omega)] at this
      exact (Option.some.inj this).symm
    have : bt T 0 = 45 := by
      unfold bt
      rw [dif_pos (show (0 : Int).toNat < T.size by simp; omega)]
      show ((T[0]'(by omega)).toNat : Int) = _
      rw [e0]
      rfl
    omega
  have hl := inum_from T h hs 38 0 (by omega) (by omega)
  have hl' : impl_numText.l0 39 T T 0 (T.size : Int) 0 = some (numV T, true) := hl
  unfold impl_numText.f
  rw [hp]
  simp only [Option.bind_some]
  rw [if_neg (by omega), if_neg (by omega), if_pos (by omega)]
  by_cases h48 : bt T 0 = 48
  · rw [if_pos h48, if_neg (by omega)]
    have e1 : decide ((T.size : Int) > 1) = false := decide_eq_false (by omega)
    rw [e1, impl_numText.j0, if_neg (by decide)]
    exact hl'
  · rw [if_neg h48, impl_numText.j0, if_neg (by decide)]
    exact hl'
theorem numC (T : ByteArray) (w : World) (h : Digs T) (h1 : 1 ≤ T.size) (hs : T.size ≤ 18) (hz : T.size = 1 ∨ bt T 0 ≠ 48) : Calls Tryd.prog 58 #[.string T] w fun e w' => e = .returned (.tuple #[.int .i64 (numV T), .bool true]) ∧ Below w.heap.size w w' :=
  impl_numText.calls 40 T _ _ w (inum_ok T h h1 hs hz)
theorem snum_step (T : ByteArray) (h : Digs T) (hs : T.size ≤ 18) (k i : Nat) (hi : i < T.size) : spec_l00Number.l0 (k + 1) T 1 (nv T i) (i : Int) = spec_l00Number.l0 k T 1 (nv T (i + 1)) ((i + 1 : Nat) : Int) := by
  have hd := h (i : Int) (by omega) (by omega)
  have hb := nv_small T h hs i hi
  have e1 : wrap64 (nv T i * 10) = nv T i * 10 := wrap_ok (by omega) (by omega)
  have e2 : wrap64 (bt T (i : Int)) = bt T (i : Int) := wrap_ok (by omega) (by omega)
  have e4 : wrap64 (nv T i * 10 + bt T (i : Int)) = nv T i * 10 + bt T (i : Int) := wrap_ok (by omega) (by omega)
  have e5 : wrap64 (nv T i * 10 + bt T (i : Int) - 48) = nv T (i + 1) := (wrap_ok (by omega) (by omega)).trans (by show _ = 10 * nv T i + (bt T (i : Int) - 48); omega)
  have e3 : wrap64 ((i : Int) + 1) = ((i + 1 : Nat) : Int) := (wrap_ok (by omega) (by omega)).trans (by omega)
  rw [spec_l00Number.l0, if_pos (by omega), if_pos (by omega), if_neg (by omega), if_neg (by omega), e1, e2, e4, e5, e3]
theorem snum_from (T : ByteArray) (h : Digs T) (hs : T.size ≤ 18) : ∀ (k i : Nat), i ≤ T.size → T.size ≤ i + k → spec_l00Number.l0 (k + 1) T 1 (nv T i) (i : Int) = some (numV T, true)
  | 0, i, hi, hk => by
    obtain rfl : i = T.size := by omega
    have hv := numV_small T h hs
    rw [spec_l00Number.l0, if_neg (by omega), show (1 : Int) * nv T T.size = numV T by unfold numV; omega, wrap_ok (by omega) (by omega)]
  | k + 1, i, hi, hk => by
    by_cases hlt : i < T.size
    · rw [snum_step T h hs (k + 1) i hlt]
      exact snum_from T h hs k (i + 1) (by omega) (by omega)
    · obtain rfl : i = T.size := by omega
      have hv := numV_small T h hs
      rw [spec_l00Number.l0, if_neg (by omega), show (1 : Int) * nv T T.size = numV T by unfold numV; omega, wrap_ok (by omega) (by omega)]
theorem snum_ok (T : ByteArray) (h : Digs T) (h1 : 1 ≤ T.size) (hs : T.size ≤ 18) (hz : T.size = 1 ∨ bt T 0 ≠ 48) : spec_l00Number.f 40 T = some (numV T, true) := by
  have hd := h 0 (by omega) (by omega)
  have hl' : spec_l00Number.l0 37 T 1 0 0 = some (numV T, true) := snum_from T h hs 36 0 (by omega) (by omega)
  have hj2 : spec_l00Number.j2 38 T 1 false = some (numV T, true) := by rw [spec_l00Number.j2, if_neg (by decide)]; exact hl'
  have hj1 : spec_l00Number.j1 39 T 1 = some (numV T, true) := by
    rw [spec_l00Number.j1, if_neg (by omega), if_neg (by omega), if_pos (by omega)]
    by_cases h48 : bt T 0 = 48
    · rw [if_pos h48, if_neg (by omega), show decide ((1 : Int) < 0) = false from rfl]
      exact hj2
    · rw [if_neg h48]
      exact hj2
  unfold spec_l00Number.f
  have e45 : (bt T 0 == 45) = false := by simp; omega
  rw [if_pos (by omega), if_pos (by omega), e45, spec_l00Number.j0, if_neg (by decide)]
  exact hj1
theorem snumC (T : ByteArray) (w : World) (h : Digs T) (h1 : 1 ≤ T.size) (hs : T.size ≤ 18) (hz : T.size = 1 ∨ bt T 0 ≠ 48) : Calls Tryd.prog 66 #[.string T] w fun e w' => e = .returned (.tuple #[.int .i64 (numV T), .bool true]) ∧ Below w.heap.size w w' :=
  (spec_l00Number.calls 40 T _ _ w (snum_ok T h h1 hs hz)).mono fun e w' ⟨h1, h2⟩ => ⟨h1, drawn_below h2⟩
end Go.Proofs.YtgiaogocdihhhaaDoor.Tex
