/- Tokens: what blanks look at, told of bytes; plain laws. -/
import Derived.Test.YtgiaogocdihhhaaDoorTokB
namespace Go.Proofs.YtgiaogocdihhhaaDoor.Tex
open Go.RowKit Go.Proofs.YtgiaogocdihhhaaDoorW.PrintWords Go.Proofs.YtgiaogocdihhhaaDoorW.PrintLast Go.Proofs.YtgiaogocdihhhaaDoorW.PrintMore
set_option linter.unusedVariables false
set_option linter.unusedSimpArgs false

theorem rune_high (s : ByteArray) (a : Int) (hb : 128 ≤ bv s a.toNat) : 128 ≤ rI s a := by
  unfold rI
  rw [dec_eq]
  obtain ⟨b0, h0⟩ : ∃ b0, bv s a.toNat = b0 := ⟨_, rfl⟩
  rw [h0] at hb ⊢
  unfold Lib.decodeN
  repeat' split
  all_goals (simp only; omega)
theorem rI_is (s : ByteArray) (a : Int) (h0 : 0 ≤ a) (h : a < (s.size : Int)) (v : Nat) (hv : v < 128) : rI s a = (v : Int) ↔ bv s a.toNat = v := by
  rcases Nat.lt_or_ge (bv s a.toNat) 128 with q | q
  · rw [(rune_low s a h0 h _ q rfl).1]
    omega
  · have := rune_high s a q
    omega
/-- The byte at a place, as the walks have it. -/
def bI (s : ByteArray) (a : Int) : Int := (bv s a.toNat : Int)
theorem rI_10 (s : ByteArray) (a : Int) (h0 : 0 ≤ a) (h : a < (s.size : Int)) : (rI s a == 10) = (bI s a == 10) := by
  have h1 := rI_is s a h0 h 10 (by omega)
  have : (rI s a = 10) ↔ (bI s a = 10) := by unfold bI; omega
  rw [Bool.eq_iff_iff]
  simpa using this
theorem blB_byte (s : ByteArray) (a : Int) (h0 : 0 ≤ a) (h : a < (s.size : Int)) : blB (rI s a) = blB (bI s a) := by
  have h1 := rI_is s a h0 h 10 (by omega)
  have h2 := rI_is s a h0 h 32 (by omega)
  have h3 := rI_is s a h0 h 9 (by omega)
  have h4 := rI_is s a h0 h 13 (by omega)
  have h5 : (rI s a = 32 ∨ rI s a = 9 ∨ rI s a = 10 ∨ rI s a = 13) ↔ (bI s a = 32 ∨ bI s a = 9 ∨ bI s a = 10 ∨ bI s a = 13) := by unfold bI; omega
  unfold blB
  rw [Bool.eq_iff_iff]
  simpa [or_assoc] using h5
theorem sl2_iff (s : ByteArray) (a : Int) (h0 : 0 ≤ a) (h : a < (s.size : Int)) : sl2 s a = ((bI s a == 47) && decide (a + 1 < (s.size : Int)) && (bI s (a + 1) == 47)) := by
  have hz : s.data.size = s.size := rfl
  have hd : (s.extract a.toNat s.size).data.toList = s.data.toList.drop a.toNat := by
    rw [ByteArray.data_extract, Array.toList_extract]
    simp [List.extract_eq_take_drop]
    apply List.take_of_length_le
    rw [List.length_drop, Array.length_toList]
    omega
  unfold sl2 Lib.hasPrefix
  rw [hd]
  have e1 : s.data.toList.drop a.toNat = s.data[a.toNat]'(by omega) :: s.data.toList.drop (a.toNat + 1) := by
    rw [List.drop_eq_getElem_cons (by rw [Array.length_toList]; omega)]
    simp
  rw [e1]
  have b1 : bI s a = ((s.data[a.toNat]'(by omega)).toNat : Int) := by
    unfold bI bv
    show (((s.data[a.toNat]!).toNat : Nat) : Int) = _
    rw [getElem!_pos _ _ (by omega)]
  have to47 : ∀ u : UInt8, ((47 : UInt8) == u) = (((u.toNat : Nat) : Int) == 47) := by
    intro u
    rw [Bool.eq_iff_iff]
    simp only [beq_iff_eq]
    constructor
    · intro e; subst e; rfl
    · intro e
      apply UInt8.toNat_inj.1
      show (47 : Nat) = u.toNat
      omega
  by_cases h2 : a + 1 < (s.size : Int)
  · have e2 : s.data.toList.drop (a.toNat + 1) = s.data[a.toNat + 1]'(by omega) :: s.data.toList.drop (a.toNat + 2) := by
      rw [List.drop_eq_getElem_cons (by rw [Array.length_toList]; omega)]
      simp
    have b2 : bI s (a + 1) = ((s.data[a.toNat + 1]'(by omega)).toNat : Int) := by
      unfold bI bv
      show (((s.data[(a + 1).toNat]!).toNat : Nat) : Int) = _
      rw [show (a + 1).toNat = a.toNat + 1 by omega, getElem!_pos _ _ (by omega)]
    rw [e2, b1, b2, decide_eq_true h2]
    simp only [List.isPrefixOf_cons_cons, List.isPrefixOf_nil_left, Bool.and_true, to47]
  · have e2 : s.data.toList.drop (a.toNat + 1) = [] := List.drop_eq_nil_of_le (by rw [Array.length_toList]; omega)
    rw [e2, decide_eq_false h2, List.isPrefixOf_cons_cons]
    simp [List.isPrefixOf]
end Go.Proofs.YtgiaogocdihhhaaDoor.Tex
