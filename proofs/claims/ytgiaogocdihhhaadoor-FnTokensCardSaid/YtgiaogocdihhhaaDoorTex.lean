/- Texts, the plain side: what spec.l01Rune answers is what the model's own decoder answers. -/
import Derived.Test.YtgiaogocdihhhaaDoorPFnExactRuneAtx1
import Derived.Lib.DecodeNEq
namespace Go.Proofs.YtgiaogocdihhhaaDoor.Tex
open Go.RowKit Go.Proofs.YtgiaogocdihhhaaDoorW.PrintWords Go.Proofs.YtgiaogocdihhhaaDoorW.PrintLast Go.Proofs.YtgiaogocdihhhaaDoorW.PrintMore
open Go.Proofs.YtgiaogocdihhhaaDoor.PFnExactRuneAt
set_option linter.unusedVariables false
set_option linter.unusedSimpArgs false

/-- The rune at a place, and how many bytes it has. -/
def dec (s : ByteArray) (i : Nat) : Nat × Nat := Utf8.decode s i
def bv (s : ByteArray) (i : Nat) : Nat := (s.get! i).toNat
theorem bv_lt (s : ByteArray) (i : Nat) : bv s i < 256 := (s.get! i).toBitVec.isLt
theorem dec_eq (s : ByteArray) (i : Nat) : dec s i = Lib.decodeN (s.size - i) (bv s i) (bv s (i + 1)) (bv s (i + 2)) (bv s (i + 3)) := Lib.decode_at s i
theorem bt_bv (s : ByteArray) (i : Nat) : bt s (i : Int) = (bv s i : Int) := by
  unfold bt bv
  cases s with
  | mk d =>
    by_cases h : i < d.size
    · have h2 : ((i : Int)).toNat < (ByteArray.mk d).size := by show ((i : Int)).toNat < d.size; omega
      have e1 : (ByteArray.mk d).get! i = d[i] := getElem!_pos d i h
      rw [dif_pos h2, e1]
      rfl
    · have h2 : ¬ ((i : Int)).toNat < (ByteArray.mk d).size := by show ¬ ((i : Int)).toNat < d.size; omega
      have e1 : (ByteArray.mk d).get! i = default := getElem!_neg d i h
      rw [dif_neg h2, e1]
      rfl
theorem wrap_ok {x : Int} (h0 : -9223372036854775808 ≤ x) (h1 : x ≤ 9223372036854775807) : wrap64 x = x := by
  unfold wrap64; omega

def cont (s : ByteArray) (i : Nat) : Bool := decide (i < s.size) && decide (128 ≤ bv s i ∧ bv s i ≤ 191)
theorem tail_step (k : Nat) (s : ByteArray) (a : Int) (n : Int) (x : Nat) (hs : s.size ≤ 1099511627776) (ha : 0 ≤ a ∧ a ≤ 1099511627776) (hn : 0 ≤ n ∧ n ≤ 3) (hx : (x : Int) ≤ 1099511627780) :
    spec_l01Tail.l0 (k + 1) s a n (x : Int) = if (x : Int) < a + n then (if cont s x = true then spec_l01Tail.l0 k s a n ((x + 1 : Nat) : Int) else some false) else some true := by
  simp only [spec_l01Tail.l0]
  rw [wrap_ok (by omega) (by omega), wrap_ok (x := (x : Int) + 1) (by omega) (by omega), bt_bv]
  by_cases h1 : (x : Int) < a + n
  · rw [if_pos h1, if_pos h1]
    by_cases h2 : x < s.size
    · rw [if_neg (by omega), if_pos (by omega), if_pos (by omega)]
      unfold cont
      by_cases h3 : bv s x < 128
      · rw [if_pos (by omega), if_neg (by simp; omega)]
      · rw [if_neg (by omega)]
        by_cases h4 : bv s x > 191
        · rw [if_pos (by omega), if_neg (by simp; omega)]
        · rw [if_neg (by omega), if_pos (by simp; omega)]; rfl
    · rw [if_pos (by omega)]
      unfold cont
      rw [if_neg (by simp; omega)]
  · rw [if_neg h1, if_neg h1]
theorem tail_in (k : Nat) (s : ByteArray) (a : Int) (n : Int) (x : Nat) (hs : s.size ≤ 1099511627776) (ha : 0 ≤ a ∧ a ≤ 1099511627776) (hn : 0 ≤ n ∧ n ≤ 3) (hx : (x : Int) ≤ 1099511627780) (h : (x : Int) < a + n) :
    spec_l01Tail.l0 (k + 1) s a n (x : Int) = if cont s x = true then spec_l01Tail.l0 k s a n ((x + 1 : Nat) : Int) else some false := by
  rw [tail_step k s a n x hs ha hn hx, if_pos h]
theorem tail_out (k : Nat) (s : ByteArray) (a : Int) (n : Int) (x : Nat) (hs : s.size ≤ 1099511627776) (ha : 0 ≤ a ∧ a ≤ 1099511627776) (hn : 0 ≤ n ∧ n ≤ 3) (hx : (x : Int) ≤ 1099511627780) (h : ¬ (x : Int) < a + n) :
    spec_l01Tail.l0 (k + 1) s a n (x : Int) = some true := by
  rw [tail_step k s a n x hs ha hn hx, if_neg h]
theorem tail1 (k : Nat) (s : ByteArray) (i : Nat) (hs : s.size ≤ 1099511627776) (hi : i < s.size) : spec_l01Tail.f (k + 2) s ((i : Int) + 1) 1 = some (cont s (i + 1)) := by
  unfold spec_l01Tail.f
  have e : ((i : Int) + 1) = ((i + 1 : Nat) : Int) := by omega
  rw [e, tail_in (k + 1) s _ 1 (i + 1) hs (by omega) (by omega) (by omega) (by omega), tail_out k s _ 1 (i + 1 + 1) hs (by omega) (by omega) (by omega) (by omega)]
  cases cont s (i + 1) <;> rfl
theorem tail2 (k : Nat) (s : ByteArray) (i : Nat) (hs : s.size ≤ 1099511627776) (hi : i < s.size) : spec_l01Tail.f (k + 3) s ((i : Int) + 1) 2 = some (cont s (i + 1) && cont s (i + 2)) := by
  unfold spec_l01Tail.f
  have e : ((i : Int) + 1) = ((i + 1 : Nat) : Int) := by omega
  rw [e, tail_in (k + 2) s _ 2 (i + 1) hs (by omega) (by omega) (by omega) (by omega), tail_in (k + 1) s _ 2 (i + 1 + 1) hs (by omega) (by omega) (by omega) (by omega), tail_out k s _ 2 (i + 1 + 1 + 1) hs (by omega) (by omega) (by omega) (by omega)]
  show _ = some (cont s (i + 1) && cont s (i + 1 + 1))
  cases cont s (i + 1) <;> cases cont s (i + 1 + 1) <;> rfl
theorem tail3 (k : Nat) (s : ByteArray) (i : Nat) (hs : s.size ≤ 1099511627776) (hi : i < s.size) : spec_l01Tail.f (k + 4) s ((i : Int) + 1) 3 = some (cont s (i + 1) && cont s (i + 2) && cont s (i + 3)) := by
  unfold spec_l01Tail.f
  have e : ((i : Int) + 1) = ((i + 1 : Nat) : Int) := by omega
  rw [e, tail_in (k + 3) s _ 3 (i + 1) hs (by omega) (by omega) (by omega) (by omega), tail_in (k + 2) s _ 3 (i + 1 + 1) hs (by omega) (by omega) (by omega) (by omega), tail_in (k + 1) s _ 3 (i + 1 + 1 + 1) hs (by omega) (by omega) (by omega) (by omega), tail_out k s _ 3 (i + 1 + 1 + 1 + 1) hs (by omega) (by omega) (by omega) (by omega)]
  show _ = some (cont s (i + 1) && cont s (i + 1 + 1) && cont s (i + 1 + 1 + 1))
  cases cont s (i + 1) <;> cases cont s (i + 1 + 1) <;> cases cont s (i + 1 + 1 + 1) <;> rfl

theorem l0_more (k : Nat) (s : ByteArray) (i : Nat) (n r : Int) (x : Nat) (hs : s.size ≤ 1099511627776) (hx : x ≤ 4) (hn : (x : Int) ≤ n) (hl : i + x < s.size) (hr : 0 ≤ r ∧ r ≤ 1099511627776) :
    spec_l01Rune.l0 (k + 1) s (i : Int) n r (x : Int) = spec_l01Rune.l0 k s (i : Int) n (r * 64 + (bv s (i + x) : Int) - 128) ((x + 1 : Nat) : Int) := by
  have hb := bv_lt s (i + x)
  have e : (i : Int) + (x : Int) = ((i + x : Nat) : Int) := by omega
  simp only [spec_l01Rune.l0]
  rw [if_pos hn, e, wrap_ok (x := ((i + x : Nat) : Int)) (by omega) (by omega), if_pos (by omega), if_pos (by omega), bt_bv, wrap_ok (x := (bv s (i + x) : Int)) (by omega) (by omega), wrap_ok (x := r * 64) (by omega) (by omega), wrap_ok (x := r * 64 + _) (by omega) (by omega), wrap_ok (x := _ - 128) (by omega) (by omega), wrap_ok (x := (x : Int) + 1) (by omega) (by omega)]
  rfl
def least (n : Int) : Int := if n = 1 then 128 else if n = 2 then 2048 else 65536
theorem l0_end (k : Nat) (s : ByteArray) (i : Int) (n r : Int) (x : Int) (hn1 : n = 1 ∨ n = 2 ∨ n = 3) (hx : ¬ x ≤ n) :
    spec_l01Rune.l0 (k + 1) s i n r x = if r < least n then some (65533, 1) else if r > 1114111 then some (65533, 1) else if r ≥ 55296 then (if r ≤ 57343 then some (65533, 1) else some (r, n + 1)) else some (r, n + 1) := by
  simp only [spec_l01Rune.l0]
  rw [if_neg hx]
  simp only [Option.bind_some]
  have hw : wrap64 (n + 1) = n + 1 := wrap_ok (by omega) (by omega)
  rcases hn1 with rfl | rfl | rfl
  · rw [hw, if_pos (by decide), if_pos (by decide)]; rfl
  · rw [hw, if_pos (by decide), if_pos (by decide)]; rfl
  · rw [hw, if_pos (by decide), if_pos (by decide)]; rfl
def fin (r n : Int) : Int × Int := if r < least n then (65533, 1) else if r > 1114111 then (65533, 1) else if r ≥ 55296 then (if r ≤ 57343 then (65533, 1) else (r, n + 1)) else (r, n + 1)
theorem l0_fin (k : Nat) (s : ByteArray) (i : Int) (n r : Int) (x : Int) (hn1 : n = 1 ∨ n = 2 ∨ n = 3) (hx : ¬ x ≤ n) : spec_l01Rune.l0 (k + 1) s i n r x = some (fin r n) := by
  rw [l0_end k s i n r x hn1 hx]
  unfold fin
  repeat' split
  all_goals rfl
theorem run1 (k : Nat) (s : ByteArray) (i : Nat) (r : Int) (hs : s.size ≤ 1099511627776) (hl : i + 1 < s.size) (hr : 0 ≤ r ∧ r ≤ 100) : spec_l01Rune.l0 (k + 2) s (i : Int) 1 r 1 = some (fin (r * 64 + (bv s (i + 1) : Int) - 128) 1) :=
  (l0_more (k + 1) s i 1 r 1 hs (by omega) (by omega) hl (by omega)).trans (l0_fin k s _ 1 _ ((1 + 1 : Nat) : Int) (.inl rfl) (by omega))
theorem run2 (k : Nat) (s : ByteArray) (i : Nat) (r : Int) (hs : s.size ≤ 1099511627776) (hl : i + 2 < s.size) (hr : 0 ≤ r ∧ r ≤ 100) (h1 : 128 ≤ bv s (i + 1)) : spec_l01Rune.l0 (k + 3) s (i : Int) 2 r 1 = some (fin ((r * 64 + (bv s (i + 1) : Int) - 128) * 64 + (bv s (i + 2) : Int) - 128) 2) := by
  have b1 := bv_lt s (i + 1)
  exact (l0_more (k + 2) s i 2 r 1 hs (by omega) (by omega) (by omega) (by omega)).trans ((l0_more (k + 1) s i 2 _ 2 hs (by omega) (by omega) hl (by omega)).trans (l0_fin k s _ 2 _ ((2 + 1 : Nat) : Int) (.inr (.inl rfl)) (by omega)))
theorem run3 (k : Nat) (s : ByteArray) (i : Nat) (r : Int) (hs : s.size ≤ 1099511627776) (hl : i + 3 < s.size) (hr : 0 ≤ r ∧ r ≤ 100) (h1 : 128 ≤ bv s (i + 1)) (h2 : 128 ≤ bv s (i + 2)) : spec_l01Rune.l0 (k + 4) s (i : Int) 3 r 1 = some (fin (((r * 64 + (bv s (i + 1) : Int) - 128) * 64 + (bv s (i + 2) : Int) - 128) * 64 + (bv s (i + 3) : Int) - 128) 3) := by
  have b1 := bv_lt s (i + 1)
  have b2 := bv_lt s (i + 2)
  exact (l0_more (k + 3) s i 3 r 1 hs (by omega) (by omega) (by omega) (by omega)).trans ((l0_more (k + 2) s i 3 _ 2 hs (by omega) (by omega) (by omega) (by omega)).trans ((l0_more (k + 1) s i 3 _ 3 hs (by omega) (by omega) hl (by omega)).trans (l0_fin k s _ 3 _ ((3 + 1 : Nat) : Int) (.inr (.inr rfl)) (by omega))))

/-- What the specification reckons, in numbers. -/
def specN (n b0 b1 b2 b3 : Nat) : Int × Int :=
  if b0 < 128 then ((b0 : Int), 1)
  else if 194 ≤ b0 ∧ b0 ≤ 223 then (if 1 < n ∧ (128 ≤ b1 ∧ b1 ≤ 191) then fin (((b0 : Int) - 192) * 64 + b1 - 128) 1 else (65533, 1))
  else if 224 ≤ b0 ∧ b0 ≤ 239 then (if (1 < n ∧ (128 ≤ b1 ∧ b1 ≤ 191)) ∧ (2 < n ∧ (128 ≤ b2 ∧ b2 ≤ 191)) then fin ((((b0 : Int) - 224) * 64 + b1 - 128) * 64 + b2 - 128) 2 else (65533, 1))
  else if 240 ≤ b0 ∧ b0 ≤ 244 then (if ((1 < n ∧ (128 ≤ b1 ∧ b1 ≤ 191)) ∧ (2 < n ∧ (128 ≤ b2 ∧ b2 ≤ 191))) ∧ (3 < n ∧ (128 ≤ b3 ∧ b3 ≤ 191)) then fin (((((b0 : Int) - 240) * 64 + b1 - 128) * 64 + b2 - 128) * 64 + b3 - 128) 3 else (65533, 1))
  else (65533, 1)
set_option maxRecDepth 100000 in
set_option maxHeartbeats 4000000 in
theorem specN_eq (n b0 b1 b2 b3 : Nat) (h0 : b0 < 256) (h1 : b1 < 256) (h2 : b2 < 256) (h3 : b3 < 256) : specN n b0 b1 b2 b3 = (((Lib.decodeN n b0 b1 b2 b3).1 : Int), ((Lib.decodeN n b0 b1 b2 b3).2 : Int)) := by
  unfold specN
  by_cases c0 : b0 < 128
  · rw [if_pos c0]; simp [Lib.decodeN, c0]
  · rw [if_neg c0]
    by_cases c1 : 194 ≤ b0 ∧ b0 ≤ 223
    · rw [if_pos c1]
      unfold Lib.decodeN fin least
      repeat' split
      all_goals first | (exfalso; omega) | (apply Prod.ext <;> simp only <;> omega)
    · rw [if_neg c1]
      by_cases c2 : 224 ≤ b0 ∧ b0 ≤ 239
      · rw [if_pos c2]
        unfold Lib.decodeN fin least
        repeat' split
        all_goals first | (exfalso; omega) | (apply Prod.ext <;> simp only <;> omega)
      · rw [if_neg c2]
        by_cases c3 : 240 ≤ b0 ∧ b0 ≤ 244
        · rw [if_pos c3]
          unfold Lib.decodeN fin least
          repeat' split
          all_goals first | (exfalso; omega) | (apply Prod.ext <;> simp only <;> omega)
        · rw [if_neg c3]
          unfold Lib.decodeN
          repeat' split
          all_goals first | (exfalso; omega) | rfl | (apply Prod.ext <;> simp only <;> omega)
theorem cont_iff (s : ByteArray) (i j : Nat) (hi : i < s.size) : cont s (i + j) = true ↔ (j < s.size - i ∧ (128 ≤ bv s (i + j) ∧ bv s (i + j) ≤ 191)) := by
  unfold cont
  rw [Bool.and_eq_true, decide_eq_true_eq, decide_eq_true_eq]
  constructor
  · rintro ⟨a, b⟩; exact ⟨by omega, b⟩
  · rintro ⟨a, b⟩; exact ⟨by omega, b⟩
theorem rune_spec (s : ByteArray) (i : Nat) (hs : s.size ≤ 1099511627776) (hi : i < s.size) : spec_l01Rune.f 12 s (i : Int) = some (specN (s.size - i) (bv s i) (bv s (i + 1)) (bv s (i + 2)) (bv s (i + 3))) := by
  have hb := bv_lt s i
  unfold spec_l01Rune.f
  rw [if_pos (by omega), if_pos (by omega), bt_bv, wrap_ok (by omega) (by omega)]
  unfold specN
  by_cases c0 : bv s i < 128
  · rw [if_pos (by omega), if_pos c0]
  rw [if_neg (by omega), if_neg c0]
  have hw : wrap64 ((i : Int) + 1) = (i : Int) + 1 := wrap_ok (by omega) (by omega)
  have bad : ∀ k (n r : Int), spec_l01Rune.j3 (k + 1) s (i : Int) n r true = some (65533, 1) := fun k n r => by simp [spec_l01Rune.j3]
  have good : ∀ k (n r : Int), spec_l01Rune.j3 (k + 1) s (i : Int) n r false = spec_l01Rune.l0 k s (i : Int) n r 1 := fun k n r => by simp [spec_l01Rune.j3]
  have k1 := cont_iff s i 1 hi
  have k2 := cont_iff s i 2 hi
  have k3 := cont_iff s i 3 hi
  by_cases c1 : 194 ≤ bv s i ∧ bv s i ≤ 223
  · rw [if_pos (show (bv s i : Int) ≥ 194 by omega), if_pos c1]
    rw [show decide ((bv s i : Int) ≤ 223) = true from decide_eq_true (by omega)]
    simp only [spec_l01Rune.j0, spec_l01Rune.j2, if_true]
    rw [if_neg (by decide), hw, wrap_ok (x := (bv s i : Int) - 192) (by omega) (by omega), tail1 8 s i hs hi]
    simp only [Option.bind_some]
    cases hc : cont s (i + 1) with
    | false => rw [if_neg (by rw [← k1, hc]; decide)]; exact bad _ _ _
    | true =>
      rw [hc] at k1
      have kk := k1.1 rfl
      rw [if_pos kk]
      exact (good _ _ _).trans (run1 _ s i _ hs (by omega) (by omega))
  by_cases c2 : 224 ≤ bv s i ∧ bv s i ≤ 239
  · rw [if_pos (show (bv s i : Int) ≥ 194 by omega), if_neg c1, if_pos c2]
    rw [show decide ((bv s i : Int) ≤ 223) = false from decide_eq_false (by omega)]
    simp only [spec_l01Rune.j0, spec_l01Rune.j1, spec_l01Rune.j2, Bool.false_eq_true, if_false]
    rw [if_pos (show (bv s i : Int) ≥ 224 by omega), show decide ((bv s i : Int) ≤ 239) = true from decide_eq_true (by omega), if_pos rfl, if_neg (by decide), hw, wrap_ok (x := (bv s i : Int) - 224) (by omega) (by omega), tail2 6 s i hs hi]
    simp only [Option.bind_some]
    cases hc : (cont s (i + 1) && cont s (i + 2)) with
    | false => rw [if_neg (by rw [← k1, ← k2, ← Bool.and_eq_true, hc]; decide)]; exact bad _ _ _
    | true =>
      have kk : cont s (i + 1) = true ∧ cont s (i + 2) = true := by rw [← Bool.and_eq_true]; exact hc
      have q1 := k1.1 kk.1; have q2 := k2.1 kk.2
      rw [if_pos ⟨q1, q2⟩]
      exact (good _ _ _).trans (run2 _ s i _ hs (by omega) (by omega) (by omega))
  by_cases c3 : 240 ≤ bv s i ∧ bv s i ≤ 244
  · rw [if_pos (show (bv s i : Int) ≥ 194 by omega), if_neg c1, if_neg c2, if_pos c3]
    rw [show decide ((bv s i : Int) ≤ 223) = false from decide_eq_false (by omega)]
    simp only [spec_l01Rune.j0, spec_l01Rune.j1, spec_l01Rune.j2, Bool.false_eq_true, if_false]
    rw [if_pos (show (bv s i : Int) ≥ 224 by omega), show decide ((bv s i : Int) ≤ 239) = false from decide_eq_false (by omega), if_neg (by decide), if_pos (show (bv s i : Int) ≥ 240 by omega), if_pos (show (bv s i : Int) ≤ 244 by omega), if_neg (by decide), hw, wrap_ok (x := (bv s i : Int) - 240) (by omega) (by omega), tail3 5 s i hs hi]
    simp only [Option.bind_some]
    cases hc : (cont s (i + 1) && cont s (i + 2) && cont s (i + 3)) with
    | false => rw [if_neg (by rw [← k1, ← k2, ← k3, ← Bool.and_eq_true, ← Bool.and_eq_true, hc]; decide)]; exact bad _ _ _
    | true =>
      have kk : (cont s (i + 1) = true ∧ cont s (i + 2) = true) ∧ cont s (i + 3) = true := by rw [← Bool.and_eq_true, ← Bool.and_eq_true]; exact hc
      have q1 := k1.1 kk.1.1; have q2 := k2.1 kk.1.2; have q3 := k3.1 kk.2
      rw [if_pos ⟨⟨q1, q2⟩, q3⟩]
      exact (good _ _ _).trans (run3 _ s i _ hs (by omega) (by omega) (by omega) (by omega))
  rw [if_neg c1, if_neg c2, if_neg c3]
  have hz : ∀ k (r : Int), spec_l01Rune.j2 (k + 2) s (i : Int) 0 r = some (65533, 1) := fun k r => by simp only [spec_l01Rune.j2]; rw [if_pos trivial]; exact bad _ _ _
  have h1 : ∀ k, spec_l01Rune.j1 (k + 3) s (i : Int) (bv s i : Int) 0 0 false = some (65533, 1) := fun k => by
    simp only [spec_l01Rune.j1, Bool.false_eq_true, if_false]
    by_cases q : (bv s i : Int) ≥ 240
    · rw [if_pos q, if_neg (by omega)]; exact hz _ _
    · rw [if_neg q]; exact hz _ _
  have h0 : ∀ k, spec_l01Rune.j0 (k + 4) s (i : Int) (bv s i : Int) 0 0 false = some (65533, 1) := fun k => by
    simp only [spec_l01Rune.j0, Bool.false_eq_true, if_false]
    by_cases q : (bv s i : Int) ≥ 224
    · rw [if_pos q, show decide ((bv s i : Int) ≤ 239) = false from decide_eq_false (by omega)]; exact h1 _
    · rw [if_neg q]; exact h1 _
  by_cases q : (bv s i : Int) ≥ 194
  · rw [if_pos q, show decide ((bv s i : Int) ≤ 223) = false from decide_eq_false (by omega)]; exact h0 8
  · rw [if_neg q]; exact h0 8
theorem rune_dec (s : ByteArray) (i : Nat) (hs : s.size ≤ 1099511627776) (hi : i < s.size) : spec_l01Rune.f 12 s (i : Int) = some (((dec s i).1 : Int), ((dec s i).2 : Int)) := by
  rw [rune_spec s i hs hi, specN_eq _ _ _ _ _ (bv_lt _ _) (bv_lt _ _) (bv_lt _ _) (bv_lt _ _), ← dec_eq]
end Go.Proofs.YtgiaogocdihhhaaDoor.Tex
