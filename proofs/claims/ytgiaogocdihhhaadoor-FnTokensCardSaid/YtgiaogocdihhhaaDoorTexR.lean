/- Texts: a text that is gone through rune by rune, each giving a row of bytes; plain. -/
import Derived.Test.YtgiaogocdihhhaaDoorTexS
namespace Go.Proofs.YtgiaogocdihhhaaDoor.Tex
open Go.RowKit Go.Proofs.YtgiaogocdihhhaaDoorW.PrintWords Go.Proofs.YtgiaogocdihhhaaDoorW.PrintLast Go.Proofs.YtgiaogocdihhhaaDoorW.PrintMore
set_option linter.unusedVariables false
set_option linter.unusedSimpArgs false

/-- The place and the bytes behind k rounds. -/
def go (s : ByteArray) (P : Int → List Int) (a0 : List Int) : Nat → Int × List Int
  | 0 => (0, a0)
  | k + 1 => if (go s P a0 k).1 < (s.size : Int) then ((go s P a0 k).1 + nI s (go s P a0 k).1, (go s P a0 k).2 ++ P (go s P a0 k).1) else go s P a0 k
section
variable {s : ByteArray} {P : Int → List Int} {a0 : List Int}
theorem go_in {k : Nat} (h : (go s P a0 k).1 < (s.size : Int)) : go s P a0 (k + 1) = ((go s P a0 k).1 + nI s (go s P a0 k).1, (go s P a0 k).2 ++ P (go s P a0 k).1) := by
  rw [go, if_pos h]
theorem go_out {k : Nat} (h : ¬ (go s P a0 k).1 < (s.size : Int)) : go s P a0 (k + 1) = go s P a0 k := by
  rw [go, if_neg h]
theorem go_range (hP : ∀ i, 0 ≤ i → i < (s.size : Int) → ((P i).length : Int) ≤ 4 * nI s i) : ∀ k, 0 ≤ (go s P a0 k).1 ∧ (go s P a0 k).1 ≤ (s.size : Int) ∧ ((go s P a0 k).2.length : Int) ≤ a0.length + 4 * (go s P a0 k).1
  | 0 => ⟨Int.le_refl _, Int.natCast_nonneg _, by show (a0.length : Int) ≤ a0.length + 4 * 0; omega⟩
  | k + 1 => by
    obtain ⟨h0, h1, h2⟩ := go_range hP k
    by_cases h : (go s P a0 k).1 < (s.size : Int)
    · rw [go_in h]
      have hr := rI_range s _ h0 h
      have hp := hP _ h0 h
      refine ⟨by show 0 ≤ (go s P a0 k).1 + _; omega, by show (go s P a0 k).1 + _ ≤ _; omega, ?_⟩
      show (((go s P a0 k).2 ++ P (go s P a0 k).1).length : Int) ≤ a0.length + 4 * ((go s P a0 k).1 + nI s (go s P a0 k).1)
      rw [List.length_append]
      omega
    · rw [go_out h]; exact ⟨h0, h1, h2⟩
theorem go_low (hP : ∀ i, 0 ≤ i → i < (s.size : Int) → ((P i).length : Int) ≤ 4 * nI s i) : ∀ k : Nat, (k : Int) ≤ (go s P a0 k).1 ∨ (go s P a0 k).1 = (s.size : Int)
  | 0 => .inl (by show ((0 : Nat) : Int) ≤ 0; omega)
  | k + 1 => by
    obtain ⟨h0, h1, h2⟩ := go_range (a0 := a0) hP k
    by_cases h : (go s P a0 k).1 < (s.size : Int)
    · rw [go_in h]
      have hr := rI_range s _ h0 h
      rcases go_low hP k with e | e
      · left; show ((k + 1 : Nat) : Int) ≤ (go s P a0 k).1 + _; omega
      · omega
    · rw [go_out h]; right; omega
theorem go_stay {k : Nat} (h : ¬ (go s P a0 k).1 < (s.size : Int)) : ∀ m, go s P a0 (k + m) = go s P a0 k
  | 0 => rfl
  | m + 1 => by
    have ih := go_stay h m
    show go s P a0 (k + m + 1) = _
    rw [go_out (by rw [ih]; exact h), ih]
/-- The bytes behind all of the text. -/
def all (s : ByteArray) (P : Int → List Int) (a0 : List Int) : List Int := (go s P a0 s.size).2
theorem go_end (hP : ∀ i, 0 ≤ i → i < (s.size : Int) → ((P i).length : Int) ≤ 4 * nI s i) {k : Nat} (h : ¬ (go s P a0 k).1 < (s.size : Int)) : (go s P a0 k).2 = all s P a0 := by
  unfold all
  by_cases hk : k ≤ s.size
  · obtain ⟨m, hm⟩ : ∃ m, s.size = k + m := ⟨s.size - k, by omega⟩
    have := go_stay h m
    rw [← hm] at this
    rw [this]
  · obtain ⟨m, hm⟩ : ∃ m, k = s.size + m := ⟨k - s.size, by omega⟩
    have hl := go_low (a0 := a0) hP s.size
    have hr := go_range (a0 := a0) hP s.size
    have h2 : ¬ (go s P a0 s.size).1 < (s.size : Int) := by omega
    have := go_stay h2 m
    rw [← hm] at this
    rw [this]
end

def hexS : ByteArray := ⟨#[48, 49, 50, 51, 52, 53, 54, 55, 56, 57, 97, 98, 99, 100, 101, 102]⟩
/-- The bytes of a rune's own. -/
def sub (s : ByteArray) (i : Int) : ByteArray := s.extract i.toNat (i + nI s i).toNat
theorem sub_size (s : ByteArray) (i : Int) (h0 : 0 ≤ i) (h : i < (s.size : Int)) : ((sub s i).size : Int) = nI s i := by
  have hr := rI_range s i h0 h
  unfold sub
  rw [ByteArray.size_extract]
  omega
/-- What Quote writes for the rune at a place. -/
def qp (s : ByteArray) (i : Int) : List Int :=
  if rI s i = 10 then [92, 110] else if rI s i = 34 ∨ rI s i = 92 then [92, rI s i]
  else if rI s i < 32 ∨ rI s i = 127 ∨ wrongB s i = true then [92, 120, bt hexS (bt s i / 16), bt hexS (bt s i % 16)] else bytesOf (sub s i)
theorem qp_len (s : ByteArray) (i : Int) (h0 : 0 ≤ i) (h : i < (s.size : Int)) : ((qp s i).length : Int) ≤ 4 * nI s i := by
  have hr := rI_range s i h0 h
  unfold qp
  repeat' split
  · simp; omega
  · simp; omega
  · simp; omega
  · rw [bytesOf_length, sub_size s i h0 h]; omega
def quoteL (s : ByteArray) : List Int := all s (qp s) [34] ++ [34]
def quoteS (s : ByteArray) : ByteArray := if longB s = true then ⟨#[]⟩ else strOfNums (quoteL s)
end Go.Proofs.YtgiaogocdihhhaaDoor.Tex
