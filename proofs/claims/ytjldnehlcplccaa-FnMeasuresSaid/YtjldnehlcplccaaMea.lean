/- FnMeasures, its plain part: what buckets, smoothing and the summary of drawn samples are. -/
import Derived.Test.YtjldnehlcplccaaWvs
import Derived.Test.YtjldnehlcplccaaSmp
import Derived.Test.YtjldnehlcplccaaBuk
import Derived.Test.YtjldnehlcplccaaSumL
namespace Go.Proofs.Ytjldnehlcplccaa.Flo
open Ieee Go Go.RowKit Go.Proofs.YtjldnehlcplccaaW.PrintWords
set_option linter.unusedSimpArgs false
set_option linter.unusedVariables false

def Num (b : Nat) : Prop := ∃ k, Bd k (cd b)
theorem ord_val {a b : Nat} (ha : Num a) (hb : Num b) : FloatKind.f64.format.order a b = some (compare (val (cd a)) (val (cd b))) := by
  obtain ⟨k, ha⟩ := ha
  obtain ⟨l, hb⟩ := hb
  rw [order_cd, order_val ha hb]
theorem Smp.num {b : Nat} (h : Smp (cd b)) : Num b := ⟨10, h.bd⟩
theorem num_ne {b : Nat} (h : Num b) : ∀ s f, cd b ≠ .nan s f := by
  obtain ⟨k, s, m, i, e, _⟩ := h
  intro t f hh
  rw [e] at hh
  cases hh
/-! ### the least and the greatest -/
theorem min_facts {X : Nat → Nat} {N : Nat} (hN : 0 < N) (hX : ∀ j, j < N → Num (X j)) : ∀ n, n ≤ N → (∃ j, j < N ∧ minAt X n = X j) ∧ ∀ j, j < n → val (cd (minAt X n)) ≤ val (cd (X j))
  | 0, _ => ⟨⟨0, hN, rfl⟩, fun j hj => absurd hj (by omega)⟩
  | n + 1, h => by
    obtain ⟨⟨i, hi, e⟩, hle⟩ := min_facts hN hX n (by omega)
    have ho := ord_val (hX n (by omega)) (a := X n) (b := minAt X n) (by rw [e]; exact hX i hi)
    show (∃ j, j < N ∧ (if (FloatKind.f64.format.order (X n) (minAt X n) == some .lt) then X n else minAt X n) = X j) ∧ ∀ j, j < n + 1 → val (cd (if (FloatKind.f64.format.order (X n) (minAt X n) == some .lt) then X n else minAt X n)) ≤ val (cd (X j))
    rw [ho, cmp_lt]
    by_cases hlt : val (cd (X n)) < val (cd (minAt X n))
    · rw [if_pos (by simpa using hlt)]
      refine ⟨⟨n, by omega, rfl⟩, fun j hj => ?_⟩
      by_cases hjn : j = n
      · subst hjn; omega
      · have := hle j (by omega); omega
    · rw [if_neg (by simpa using hlt)]
      refine ⟨⟨i, hi, e⟩, fun j hj => ?_⟩
      by_cases hjn : j = n
      · subst hjn; omega
      · exact hle j (by omega)
theorem max_facts {X : Nat → Nat} {N : Nat} (hN : 0 < N) (hX : ∀ j, j < N → Num (X j)) : ∀ n, n ≤ N → (∃ j, j < N ∧ maxAt X n = X j) ∧ ∀ j, j < n → val (cd (X j)) ≤ val (cd (maxAt X n))
  | 0, _ => ⟨⟨0, hN, rfl⟩, fun j hj => absurd hj (by omega)⟩
  | n + 1, h => by
    obtain ⟨⟨i, hi, e⟩, hle⟩ := max_facts hN hX n (by omega)
    have ho := ord_val (hX n (by omega)) (a := X n) (b := maxAt X n) (by rw [e]; exact hX i hi)
    show (∃ j, j < N ∧ (if (FloatKind.f64.format.order (X n) (maxAt X n) == some .gt) then X n else maxAt X n) = X j) ∧ ∀ j, j < n + 1 → val (cd (X j)) ≤ val (cd (if (FloatKind.f64.format.order (X n) (maxAt X n) == some .gt) then X n else maxAt X n))
    rw [ho, cmp_gt]
    by_cases hlt : val (cd (maxAt X n)) < val (cd (X n))
    · rw [if_pos (by simpa using hlt)]
      refine ⟨⟨n, by omega, rfl⟩, fun j hj => ?_⟩
      by_cases hjn : j = n
      · subst hjn; omega
      · have := hle j (by omega); omega
    · rw [if_neg (by simpa using hlt)]
      refine ⟨⟨i, hi, e⟩, fun j hj => ?_⟩
      by_cases hjn : j = n
      · subst hjn; omega
      · exact hle j (by omega)
/-- Whether one of the first n is m. -/
def isAt (X : Nat → Nat) (m : Nat) : Nat → Bool
  | 0 => false
  | n + 1 => isAt X m n || (FloatKind.f64.format.order (X n) m == some .eq)
theorem isAt_mem {X : Nat → Nat} {m : Nat} : ∀ n j, j < n → (FloatKind.f64.format.order (X j) m == some .eq) = true → isAt X m n = true
  | 0, j, h, _ => absurd h (by omega)
  | n + 1, j, h, e => by
    show (isAt X m n || (FloatKind.f64.format.order (X n) m == some .eq)) = true
    by_cases hj : j = n
    · subst hj; rw [e]; simp
    · rw [isAt_mem n j (by omega) e]; rfl
structure MM (X : Nat → Nat) (N mn mx : Nat) : Prop where
  low : isAt X mn N = true
  high : isAt X mx N = true
  ge : ∀ j, j < N → (FloatKind.f64.format.order (X j) mn == some .lt) = false
  le : ∀ j, j < N → (FloatKind.f64.format.order (X j) mx == some .gt) = false
  nmn : Num mn
  nmx : Num mx
theorem mm_ok {X : Nat → Nat} {N : Nat} (hN : 0 < N) (hX : ∀ j, j < N → Num (X j)) : MM X N (minAt X N) (maxAt X N) := by
  obtain ⟨⟨i, hi, e⟩, hle⟩ := min_facts hN hX N (Nat.le_refl _)
  obtain ⟨⟨k, hk, e2⟩, hge⟩ := max_facts hN hX N (Nat.le_refl _)
  have n1 : Num (minAt X N) := by rw [e]; exact hX i hi
  have n2 : Num (maxAt X N) := by rw [e2]; exact hX k hk
  refine ⟨isAt_mem N i hi ?_, isAt_mem N k hk ?_, ?_, ?_, n1, n2⟩
  · rw [ord_val (hX i hi) n1, cmp_eq, e]; simp
  · rw [ord_val (hX k hk) n2, cmp_eq, e2]; simp
  · intro j hj
    rw [ord_val (hX j hj) n1, cmp_lt]
    have := hle j hj
    exact decide_eq_false (by omega)
  · intro j hj
    rw [ord_val (hX j hj) n2, cmp_gt]
    have := hge j hj
    exact decide_eq_false (by omega)
/-! ### mean and spread are numbers -/
theorem ge1_small : ∀ n : Fin 30, ge1B (cd (floatOfInt .f64 ((n.val : Int) + 1))) = true := by decide +kernel
theorem ge1_at (n : Nat) (h : n < 30) : Ge1 (cd (floatOfInt .f64 ((n : Int) + 1))) := ge1_of (ge1_small ⟨n, h⟩)
theorem mean_bd {X : Nat → Datum} (hX : ∀ i, Bd 10 (X i)) : ∀ n : Nat, n ≤ 26 → Bd (10 + 7 * n) (meanAt X n)
  | 0, _ => show Bd (10 + 7 * ((0 : Nat) : Int)) (cd 0) from bd_of (by decide +kernel)
  | n + 1, h => by
    have ih := mean_bd hX n (by omega)
    have h1 := sub_bd (k := 10 + 7 * (n : Int)) (by omega) (by omega) ((hX n).mono (by omega)) ih
    have h2 := quo_bd (by omega) (by omega) h1 (ge1_at n (by omega))
    have h3 := add_bd (k := 10 + 7 * (n : Int) + 5) (by omega) (by omega) (ih.mono (by omega)) (h2.mono (by omega))
    exact h3.mono (by omega)
theorem sq_bd {X : Nat → Datum} (hX : ∀ i, Bd 10 (X i)) : ∀ n : Nat, n ≤ 26 → Bd (40 + 14 * n) (sqAt X n)
  | 0, _ => show Bd (40 + 14 * ((0 : Nat) : Int)) (cd 0) from bd_of (by decide +kernel)
  | n + 1, h => by
    have ih := sq_bd hX n (by omega)
    have h1 := sub_bd (k := 10 + 7 * (n : Int)) (by omega) (by omega) ((hX n).mono (by omega)) (mean_bd hX n (by omega))
    have h2 := sub_bd (k := 17 + 7 * (n : Int)) (by omega) (by omega) ((hX n).mono (by omega)) ((mean_bd hX (n + 1) h).mono (by omega))
    have h3 := mul_bd (by omega) (by omega) (by omega) h1 h2
    have h4 := add_bd (k := 40 + 14 * (n : Int)) (by omega) (by omega) ih (h3.mono (by omega))
    exact h4.mono (by omega)
theorem var_bd {X : Nat → Datum} (hX : ∀ i, Bd 10 (X i)) (n : Nat) (h0 : 1 ≤ n) (h : n ≤ 26) : Bd 500 (fop .quo (sqAt X n) (cd (floatOfInt .f64 (n : Int)))) := by
  have h1 := ge1_at (n - 1) (by omega)
  rw [show ((n - 1 : Nat) : Int) + 1 = (n : Int) by omega] at h1
  exact (quo_bd (by omega) (by omega) (sq_bd hX n h) h1).mono (by omega)
theorem bd_zero : Bd 10 (cd 0) := bd_of (by decide +kernel)
theorem smp_all {xs : List Nat} (h : ∀ j : Nat, j < xs.length → Smp (cd (rdOf 0 xs (j : Int)))) (i : Nat) : Bd 10 (cd (rdOf 0 xs (i : Int))) := by
  by_cases hi : i < xs.length
  · exact (h i hi).bd
  · have : rdOf 0 xs (i : Int) = 0 := by
      unfold rdOf
      simp [hi]
    rw [this]
    exact bd_zero
/-! ### buckets -/
structure Cnt (C : List Int) (N : Nat) : Prop where
  four : ∃ a b c d : Int, C = [a, b, c, d] ∧ 0 ≤ a ∧ 0 ≤ b ∧ 0 ≤ c ∧ 0 ≤ d ∧ a + b + c + d = N
theorem wrap_small {x : Int} (h0 : 0 ≤ x) (h1 : x ≤ 1000) : wrap64 x = x := by
  unfold wrap64
  omega
theorem cnt_ok (bs xs : List Nat) (hb : bs.length = 3) : ∀ i : Nat, i ≤ 26 → Cnt (cnt bs xs i) i
  | 0, _ => ⟨0, 0, 0, 0, by unfold cnt; rw [hb]; rfl, by decide, by decide, by decide, by decide, rfl⟩
  | i + 1, h => by
    obtain ⟨a, b, c, d, e, ha, hb', hc, hd, hs⟩ := (cnt_ok bs xs hb i (by omega)).four
    have hp := pos_le bs (rdOf 0 xs (i : Int))
    unfold cnt
    rw [e]
    obtain ⟨p, hpe⟩ : ∃ p, pos bs (rdOf 0 xs (i : Int)) = p := ⟨_, rfl⟩
    rw [hpe] at hp ⊢
    rw [hb] at hp
    rcases p with _ | _ | _ | _ | p
    · refine ⟨a + 1, b, c, d, ?_, by omega, hb', hc, hd, by omega⟩
      show [wrap64 (a + 1), b, c, d] = _
      rw [wrap_small (by omega) (by omega)]
    · refine ⟨a, b + 1, c, d, ?_, ha, by omega, hc, hd, by omega⟩
      show [a, wrap64 (b + 1), c, d] = _
      rw [wrap_small (by omega) (by omega)]
    · refine ⟨a, b, c + 1, d, ?_, ha, hb', by omega, hd, by omega⟩
      show [a, b, wrap64 (c + 1), d] = _
      rw [wrap_small (by omega) (by omega)]
    · refine ⟨a, b, c, d + 1, ?_, ha, hb', hc, by omega, by omega⟩
      show [a, b, c, wrap64 (d + 1)] = _
      rw [wrap_small (by omega) (by omega)]
    · omega
theorem bounds_asc : ∀ r : Fin 100, asc [13860109328209412096, floatOfInt .f64 (r.val : Int), 4639481672377565184] = true := by decide +kernel
theorem buk_ok {xs : List Nat} (h : xs.length ≤ 26) (r : Nat) (hr : r < 100) : bkCode xs [13860109328209412096, floatOfInt .f64 (r : Int), 4639481672377565184] = 0 ∧ Cnt (bkOut xs [13860109328209412096, floatOfInt .f64 (r : Int), 4639481672377565184]) xs.length := by
  have hc : bkCode xs [13860109328209412096, floatOfInt .f64 (r : Int), 4639481672377565184] = 0 := by
    unfold bkCode
    rw [if_neg (by omega), if_neg (by simp), if_pos (bounds_asc ⟨r, hr⟩)]
  refine ⟨hc, ?_⟩
  unfold bkOut
  rw [if_pos hc]
  exact cnt_ok _ _ rfl _ h
theorem Cnt.len {C : List Int} {N : Nat} (h : Cnt C N) : C.length = 4 := by
  obtain ⟨a, b, c, d, e, _⟩ := h.four
  rw [e]; rfl
theorem Cnt.part {C : List Int} {N : Nat} (h : Cnt C N) (i : Nat) (hi : i ≤ 4) : 0 ≤ sumTo C i ∧ sumTo C i ≤ N := by
  obtain ⟨a, b, c, d, e, ha, hb, hc, hd, hs⟩ := h.four
  subst e
  have h0 : sumTo [a, b, c, d] 0 = 0 := rfl
  have h1 : sumTo [a, b, c, d] 1 = 0 + a := rfl
  have h2 : sumTo [a, b, c, d] 2 = 0 + a + b := rfl
  have h3 : sumTo [a, b, c, d] 3 = 0 + a + b + c := rfl
  have h4 : sumTo [a, b, c, d] 4 = 0 + a + b + c + d := rfl
  rcases i with _ | _ | _ | _ | _ | i
  · rw [h0]; omega
  · rw [h1]; omega
  · rw [h2]; omega
  · rw [h3]; omega
  · rw [h4]; omega
  · omega
theorem Cnt.all {C : List Int} {N : Nat} (h : Cnt C N) : sumTo C 4 = N := by
  obtain ⟨a, b, c, d, e, ha, hb, hc, hd, hs⟩ := h.four
  subst e
  have h4 : sumTo [a, b, c, d] 4 = 0 + a + b + c + d := rfl
  rw [h4]; omega
/-! ### smoothed by nought -/
theorem flat_at {X : Nat → Datum} {N : Nat} (hX : ∀ i, i < N → Smp (X i)) : ∀ j, j < N → sAt (cd 0) X (j + 1) = X 0
  | 0, _ => rfl
  | j + 1, h => by
    show fop .add (sAt (cd 0) X (j + 1)) (fop .mul (cd 0) (fop .sub (X (j + 1)) (sAt (cd 0) X (j + 1)))) = X 0
    rw [flat_at hX j (by omega)]
    exact step0 (hX (j + 1) h) (hX 0 (by omega))
theorem flat_ok {xs out : List Nat} (hl : xs.length ≤ 26) (h : ∀ j : Nat, j < xs.length → Smp (cd (rdOf 0 xs (j : Int)))) (ho : out.map cd = smo (cd 0) xs) :
    out.length = xs.length ∧ ∀ j : Nat, j < xs.length → (FloatKind.f64.format.order (rdOf 0 out (j : Int)) (rdOf 0 xs 0) == some .eq) = true := by
  unfold smo at ho
  rw [if_neg (by omega)] at ho
  have hlen : out.length = xs.length := by have := congrArg List.length ho; simpa using this
  refine ⟨hlen, fun j hj => ?_⟩
  have h1 := congrArg (fun l => l[j]?) ho
  simp only [List.getElem?_map] at h1
  have h2 := rdOf_get 0 out (j : Int) (by omega) (by omega)
  rw [show ((j : Int)).toNat = j by omega] at h2
  rw [h2, List.getElem?_range hj] at h1
  simp only [Option.map_some, Option.some.injEq] at h1
  rw [order_cd, h1, flat_at (X := fun i => cd (rdOf 0 xs (i : Int))) (N := xs.length) h j hj]
  show ((cd (rdOf 0 xs 0)).order (cd (rdOf 0 xs 0)) == some .eq) = true
  have h3 : ∀ s f, cd (rdOf 0 xs 0) ≠ .nan s f := num_ne (Smp.num (h 0 (by omega)))
  rw [order_self _ h3]
  rfl
end Go.Proofs.Ytjldnehlcplccaa.Flo
