/- Floats: bounds of what the operations give, and the order of numbers. -/
import Derived.Test.YtjldnehlcplccaaSum
namespace Go.Proofs.Ytjldnehlcplccaa.Flo
open Ieee Go
set_option linter.unusedSimpArgs false
set_option linter.unusedVariables false
/-- A number of less than 2^k, as it is read from a word. -/
def Bd (k : Int) (d : Datum) : Prop := ∃ s m i, d = .number s m i ∧ -1074 ≤ i ∧ (m.log2 : Int) + i < k ∧ m.log2 ≤ 53

theorem pow_le {a b : Nat} (h : a ≤ b) : 2 ^ a ≤ 2 ^ b := Nat.pow_le_pow_right (by decide) h
theorem lt_log (n : Nat) : n < 2 ^ (n.log2 + 1) := Nat.lt_log2_self
theorem log_le {n k : Nat} (h : n < 2 ^ (k + 1)) : n.log2 ≤ k := by
  rcases Nat.eq_zero_or_pos n with rfl | h0
  · simp
  · have := (Nat.log2_lt (by omega)).2 h
    omega

theorem cut_le (neg : Bool) (n drop L : Nat) (h1 : n < 2 ^ (L + 1)) (h2 : drop = 0 → L ≤ 52) (h3 : L ≤ drop + 52) (h4 : drop ≠ 0 → n.log2 = L) : Toward.even.cut neg n drop ≤ 2 ^ 53 := by
  unfold Toward.cut
  simp only
  by_cases hd : drop = 0
  · subst hd
    have hL := h2 rfl
    have hn : n < 2 ^ 53 := Nat.lt_of_lt_of_le h1 (pow_le (by omega))
    simp [Nat.mod_one]
    omega
  · have hlog := h4 hd
    rw [hlog, Nat.one_shiftLeft]
    have hg : ∃ g, min drop (L + 2) = g ∧ L ≤ g + 52 := ⟨_, rfl, by omega⟩
    obtain ⟨g, hg1, hg2⟩ := hg
    rw [hg1]
    have hlow : n / 2 ^ g < 2 ^ 53 := by
      rw [Nat.div_lt_iff_lt_mul (Nat.two_pow_pos _), ← Nat.pow_add]
      exact Nat.lt_of_lt_of_le h1 (pow_le (by omega))
    have hm : (decide (2 ^ g < 2 * (n % 2 ^ g)) || 2 ^ g == 2 * (n % 2 ^ g) && n / 2 ^ g % 2 == 1).toNat ≤ 1 := Bool.toNat_le _
    omega

theorem word_read (neg : Bool) (rung : Nat) (h : rung < double.infRung) : double.read (double.word neg rung) = if rung < 4503599627370496 then .number neg rung (-1074) else .number neg (4503599627370496 + rung % 4503599627370496) (-1074 + (rung / 4503599627370496 - 1 : Nat)) := by
  have hs : double.signWeight = 9223372036854775808 := rfl
  have hi : double.infRung = 9218868437227405312 := rfl
  have hb : double.binade = 4503599627370496 := rfl
  have hp : double.leastPlace = -1074 := rfl
  rw [hi] at h
  unfold Format.read Format.word
  simp only [hs, hi, hb, hp]
  cases neg
  · have e1 : rung % 9223372036854775808 = rung := by omega
    have e2 : rung / 9223372036854775808 = 0 := by omega
    simp [e1, e2, h]
  · have e1 : (9223372036854775808 + rung) % 9223372036854775808 = rung := by omega
    have e2 : (9223372036854775808 + rung) / 9223372036854775808 = 1 := by omega
    simp [e1, e2, h]

theorem log_binade (r : Nat) (h : r < 4503599627370496) : (4503599627370496 + r).log2 = 52 := by
  have h1 := log_le (n := 4503599627370496 + r) (k := 52) (by omega)
  have h2 : ¬ (4503599627370496 + r).log2 < 52 := by
    intro hh
    have := (Nat.log2_lt (n := 4503599627370496 + r) (k := 52) (by omega)).1 hh
    omega
  omega

theorem read_bd (neg : Bool) (rung : Nat) (k : Int) (h0 : 0 ≤ k) (h1 : k ≤ 1000) (h : (rung : Int) ≤ (k + 1023) * 4503599627370496) : Bd (k + 1) (double.read (double.word neg rung)) := by
  have hi : double.infRung = 9218868437227405312 := rfl
  rw [word_read neg rung (by rw [hi]; omega)]
  split
  · rename_i hr
    have := log_le (n := rung) (k := 52) (by omega)
    exact ⟨_, _, _, rfl, by omega, by omega, by omega⟩
  · rename_i hr
    have hl := log_binade (rung % 4503599627370496) (by omega)
    exact ⟨_, _, _, rfl, by omega, by rw [hl]; omega, by rw [hl]; omega⟩

theorem nearest_bd (neg : Bool) (mag : Nat) (place k : Int) (h0 : 0 ≤ k) (h1 : k ≤ 1000) (h : mag = 0 ∨ (mag.log2 : Int) + place < k) : Bd (k + 1) (double.read (double.nearest neg mag place)) := by
  have hi : double.infRung = 9218868437227405312 := rfl
  have hf : double.fractionBits = 52 := rfl
  have hb : double.binade = 4503599627370496 := rfl
  have hp : double.leastPlace = -1074 := rfl
  unfold Format.nearest
  by_cases hm : mag = 0
  · rw [if_pos hm]
    exact read_bd neg 0 k h0 h1 (by omega)
  · rw [if_neg hm]
    have hl : (mag.log2 : Int) + place < k := by rcases h with h | h; exact absurd h hm; exact h
    simp only [hi, hf, hb, hp]
    obtain ⟨last, hlast⟩ : ∃ last, max (place + (mag.log2 : Int) - ((52 : Nat) : Int)) (-1074) = last := ⟨_, rfl⟩
    rw [hlast]
    have hc : Toward.even.cut neg (mag <<< (place - last).toNat) (last - place).toNat ≤ 2 ^ 53 := by
      have hlt := lt_log mag
      by_cases hd : last ≤ place
      · have e0 : (last - place).toNat = 0 := by omega
        rw [e0]
        refine cut_le neg _ 0 (mag.log2 + (place - last).toNat) ?_ (fun _ => by omega) (by omega) (fun hh => absurd rfl hh)
        rw [Nat.shiftLeft_eq, show mag.log2 + (place - last).toNat + 1 = (mag.log2 + 1) + (place - last).toNat by omega, Nat.pow_add]
        exact Nat.mul_lt_mul_of_pos_right hlt (Nat.two_pow_pos _)
      · have e0 : (place - last).toNat = 0 := by omega
        rw [e0, Nat.shiftLeft_zero]
        exact cut_le neg mag _ mag.log2 hlt (fun hh => by omega) (by omega) (fun _ => rfl)
    obtain ⟨kept, hkept⟩ : ∃ kept, Toward.even.cut neg (mag <<< (place - last).toNat) (last - place).toNat = kept := ⟨_, rfl⟩
    rw [hkept] at hc ⊢
    have e53 : (2 : Nat) ^ 53 = 9007199254740992 := by decide
    rw [e53] at hc
    have hlast2 : (last + 1074).toNat ≤ (k + 1021).toNat := by
      clear hkept hc e53 hi hf hb hp
      omega
    clear hkept hi hf hb hp hlast
    refine read_bd neg _ k h0 h1 ?_
    rw [show last - -1074 = last + 1074 by omega]
    obtain ⟨q, hq⟩ : ∃ q, (last + 1074).toNat = q := ⟨_, rfl⟩
    rw [hq] at hlast2 ⊢
    have hm1 : min (q * 4503599627370496 + kept) 9218868437227405312 ≤ q * 4503599627370496 + kept := Nat.min_le_left _ _
    obtain ⟨Z, hZ⟩ : ∃ Z, min (q * 4503599627370496 + kept) 9218868437227405312 = Z := ⟨_, rfl⟩
    rw [hZ] at hm1 ⊢
    clear hZ e53 hq
    omega

theorem one_number {k : Int} {d : Datum} (h : Bd k d) : one d = d := by
  obtain ⟨s, m, i, rfl, _⟩ := h
  rfl
theorem Bd.mono {k l : Int} {d : Datum} (h : Bd k d) (hk : k ≤ l) : Bd l d := by
  obtain ⟨s, m, i, e, h1, h2, h3⟩ := h
  exact ⟨s, m, i, e, h1, by omega, h3⟩
theorem cd_bd (neg : Bool) (mag : Nat) (place k : Int) (h0 : 0 ≤ k) (h1 : k ≤ 1000) (h : mag = 0 ∨ (mag.log2 : Int) + place < k) : Bd (k + 1) (cd (double.write (.number neg mag place))) := by
  have := nearest_bd neg mag place k h0 h1 h
  unfold cd
  show Bd (k + 1) (one (double.read (double.nearest neg mag place)))
  rw [one_number this]
  exact this
theorem signed_abs (s : Bool) (m u : Nat) : (signed s m u).natAbs = m * 2 ^ u := by
  unfold signed
  rw [Nat.shiftLeft_eq]
  split <;> omega
theorem scale_lt {m : Nat} {i base k : Int} (h : (m.log2 : Int) + i < k) (hb : base ≤ i) : m * 2 ^ (i - base).toNat < 2 ^ (k - base).toNat := by
  have h1 := lt_log m
  have h2 : m * 2 ^ (i - base).toNat < 2 ^ (m.log2 + 1) * 2 ^ (i - base).toNat := Nat.mul_lt_mul_of_pos_right h1 (Nat.two_pow_pos _)
  rw [← Nat.pow_add] at h2
  exact Nat.lt_of_lt_of_le h2 (pow_le (by omega))
theorem opp_bd {k : Int} {d : Datum} (h : Bd k d) : Bd k d.opposite := by
  obtain ⟨s, m, i, rfl, h1, h2, h9⟩ := h
  exact ⟨!s, m, i, rfl, h1, h2, h9⟩
theorem sum_bd {k : Int} {x y : Datum} (hk0 : 0 ≤ k) (hk : k ≤ 900) (hx : Bd k x) (hy : Bd k y) : ∃ d, x.sum y = some d ∧ Bd (k + 2) (cd (double.write d)) := by
  obtain ⟨s, m, i, rfl, h1, h2, h9⟩ := hx
  obtain ⟨t, n, j, rfl, h3, h4, h8⟩ := hy
  refine ⟨_, rfl, ?_⟩
  refine (cd_bd _ _ _ (k + 1) (by omega) (by omega) ?_).mono (by omega)
  by_cases hz : signed s m (i - min i j).toNat + signed t n (j - min i j).toNat = 0
  · exact .inl (by rw [hz]; rfl)
  · right
    have a1 := signed_abs s m (i - min i j).toNat
    have a2 := signed_abs t n (j - min i j).toNat
    have b1 := scale_lt (base := min i j) h2 (by omega)
    have b2 := scale_lt (base := min i j) h4 (by omega)
    have hkb : min i j < k := by omega
    have e1 : (k + 1 - min i j).toNat = (k - min i j).toNat + 1 := by omega
    obtain ⟨P, hP⟩ : ∃ P, 2 ^ (k - min i j).toNat = P := ⟨_, rfl⟩
    rw [hP] at b1 b2
    obtain ⟨A, hA⟩ : ∃ A, signed s m (i - min i j).toNat = A := ⟨_, rfl⟩
    obtain ⟨B, hB⟩ : ∃ B, signed t n (j - min i j).toNat = B := ⟨_, rfl⟩
    rw [hA, hB] at hz ⊢
    rw [hA] at a1
    rw [hB] at a2
    have hlt : (A + B).natAbs < 2 ^ ((k - min i j).toNat + 1) := by
      rw [Nat.pow_succ, hP]
      omega
    have := log_le hlt
    omega
theorem sub_bd {k : Int} {x y : Datum} (hk0 : 0 ≤ k) (hk : k ≤ 900) (hx : Bd k x) (hy : Bd k y) : Bd (k + 2) (fop .sub x y) := by
  obtain ⟨d, h1, h2⟩ := sum_bd hk0 hk hx (opp_bd hy)
  unfold fop raw
  simp only [h1]
  exact h2
theorem add_bd {k : Int} {x y : Datum} (hk0 : 0 ≤ k) (hk : k ≤ 900) (hx : Bd k x) (hy : Bd k y) : Bd (k + 2) (fop .add x y) := by
  obtain ⟨d, h1, h2⟩ := sum_bd hk0 hk hx hy
  unfold fop raw
  simp only [h1]
  exact h2
theorem log_mul (m n : Nat) : (m * n).log2 ≤ m.log2 + n.log2 + 1 := by
  apply log_le
  have h1 := lt_log m
  have h2 := lt_log n
  have : m * n < 2 ^ (m.log2 + 1) * 2 ^ (n.log2 + 1) := Nat.mul_lt_mul'' h1 h2
  rw [← Nat.pow_add] at this
  exact Nat.lt_of_lt_of_le this (pow_le (by omega))
theorem mul_bd {k l : Int} {x y : Datum} (hk0 : 0 ≤ k) (hl0 : 0 ≤ l) (hk : k + l ≤ 900) (hx : Bd k x) (hy : Bd l y) : Bd (k + l + 1) (fop .mul x y) := by
  obtain ⟨s, m, i, rfl, h1, h2, h9⟩ := hx
  obtain ⟨t, n, j, rfl, h3, h4, h8⟩ := hy
  unfold fop raw
  simp only [Datum.product, Option.map_some, Option.getD_some]
  refine (cd_bd _ _ _ (k + l) (by omega) (by omega) (.inr ?_)).mono (by omega)
  have := log_mul m n
  omega
/-- A number of at least 1. -/
def Ge1 (d : Datum) : Prop := ∃ n j, d = .number false n j ∧ n ≠ 0 ∧ 0 ≤ (n.log2 : Int) + j
theorem quo_bd {k : Int} {x y : Datum} (hk0 : 0 ≤ k) (hk : k ≤ 900) (hx : Bd k x) (hy : Ge1 y) : Bd (k + 3) (fop .quo x y) := by
  obtain ⟨s, m, i, rfl, h1, h2, h9⟩ := hx
  obtain ⟨n, j, rfl, h3, h4⟩ := hy
  have hm := h9
  unfold fop raw
  simp only [Datum.quotient, if_neg h3, Option.map_some, Option.getD_some]
  refine (cd_bd _ _ _ (k + 2) (by omega) (by omega) (.inr ?_)).mono (by omega)
  obtain ⟨M, hM⟩ : ∃ M, 54 + n.log2 - m.log2 = M := ⟨_, rfl⟩
  rw [hM, Nat.shiftLeft_eq]
  have hn : 2 ^ n.log2 ≤ n := Nat.log2_self_le h3
  have hq : m * 2 ^ M / n ≤ m * 2 ^ M / 2 ^ n.log2 := Nat.div_le_div_left hn (Nat.two_pow_pos _)
  have hMn : M = (M - n.log2) + n.log2 := by omega
  have he : m * 2 ^ M / 2 ^ n.log2 = m * 2 ^ (M - n.log2) := by
    rw [show m * 2 ^ M = (m * 2 ^ (M - n.log2)) * 2 ^ n.log2 by rw [Nat.mul_assoc, ← Nat.pow_add, ← hMn]]
    exact Nat.mul_div_cancel _ (Nat.two_pow_pos _)
  have hlt : m * 2 ^ (M - n.log2) < 2 ^ (m.log2 + 1 + (M - n.log2)) := by
    rw [Nat.pow_add]
    exact Nat.mul_lt_mul_of_pos_right (lt_log m) (Nat.two_pow_pos _)
  have hb : (m * 2 ^ M % n != 0).toNat ≤ 1 := Bool.toNat_le _
  have hlog : (2 * (m * 2 ^ M / n) + (m * 2 ^ M % n != 0).toNat).log2 ≤ m.log2 + 1 + (M - n.log2) := by
    apply log_le
    rw [Nat.pow_succ]
    omega
  omega

/-- A number's value, in units of the least place. -/
def val : Datum → Int
  | .number s m i => signed s m (i + 1074).toNat
  | _ => 0
theorem signed_scale (s : Bool) (m u v : Nat) : signed s m (u + v) = signed s m u * ((2 ^ v : Nat) : Int) := by
  unfold signed
  rw [Nat.shiftLeft_eq, Nat.shiftLeft_eq, Nat.pow_add, ← Nat.mul_assoc]
  cases s <;> simp [Int.neg_mul]
theorem cmp_scale (a b : Int) (c : Nat) (hc : 0 < c) : compare (a * (c : Int)) (b * (c : Int)) = compare a b := by
  have h1 : (a * (c : Int) < b * (c : Int)) ↔ a < b := Int.mul_lt_mul_right (by omega)
  have h2 : (a * (c : Int) = b * (c : Int)) ↔ a = b := Int.mul_eq_mul_right_iff (by omega)
  simp only [compare, compareOfLessAndEq, h1, h2]
theorem order_val {k l : Int} {x y : Datum} (hx : Bd k x) (hy : Bd l y) : x.order y = some (compare (val x) (val y)) := by
  obtain ⟨s, m, i, rfl, h1, h2, h9⟩ := hx
  obtain ⟨t, n, j, rfl, h3, h4, h8⟩ := hy
  show some (compare (signed s m (i - min i j).toNat) (signed t n (j - min i j).toNat)) = some (compare (signed s m (i + 1074).toNat) (signed t n (j + 1074).toNat))
  have e1 : (i + 1074).toNat = (i - min i j).toNat + (min i j + 1074).toNat := by omega
  have e2 : (j + 1074).toNat = (j - min i j).toNat + (min i j + 1074).toNat := by omega
  rw [e1, e2, signed_scale, signed_scale, cmp_scale _ _ _ (Nat.two_pow_pos _)]
theorem cmp_lt (a b : Int) : (some (compare a b) == some Ordering.lt) = decide (a < b) := by
  simp only [compare, compareOfLessAndEq]
  by_cases h : a < b
  · simp [h]
  · by_cases h2 : a = b
    · simp [h2]
    · simp [h, h2]
theorem cmp_eq (a b : Int) : (some (compare a b) == some Ordering.eq) = decide (a = b) := by
  simp only [compare, compareOfLessAndEq]
  by_cases h : a < b
  · have : a ≠ b := by omega
    simp [h, this]
  · by_cases h2 : a = b
    · simp [h2]
    · simp [h, h2]
theorem cmp_gt (a b : Int) : (some (compare a b) == some Ordering.gt) = decide (b < a) := by
  simp only [compare, compareOfLessAndEq]
  by_cases h : a < b
  · have : ¬ b < a := by omega
    simp [h, this]
  · by_cases h2 : a = b
    · simp [h2]
    · have : b < a := by omega
      simp [h, h2, this]

def bdB (k : Int) (d : Datum) : Bool := match d with
  | .number _ m i => decide (-1074 ≤ i) && decide ((m.log2 : Int) + i < k) && decide (m.log2 ≤ 53)
  | _ => false
theorem bd_of {k : Int} {d : Datum} (h : bdB k d = true) : Bd k d := by
  unfold bdB at h
  split at h
  · simp only [Bool.and_eq_true, decide_eq_true_eq] at h
    exact ⟨_, _, _, rfl, h.1.1, h.1.2, h.2⟩
  · cases h
def ge1B (d : Datum) : Bool := match d with
  | .number false n j => (n != 0) && decide (0 ≤ (n.log2 : Int) + j)
  | _ => false
theorem ge1_of {d : Datum} (h : ge1B d = true) : Ge1 d := by
  unfold ge1B at h
  split at h
  · simp only [Bool.and_eq_true, decide_eq_true_eq, bne_iff_ne] at h
    exact ⟨_, _, rfl, h.1, h.2⟩
  · cases h
end Go.Proofs.Ytjldnehlcplccaa.Flo
