/- Floats: the waves and shares of one whole number, 1 to 1000, reckoned by the kernel. -/
import Derived.Test.YtjldnehlcplccaaWrd
import Derived.Test.YtjldnehlcplccaaWav
namespace Go.Proofs.Ytjldnehlcplccaa.Flo
open Ieee Go Go.RowKit Go.Proofs.YtjldnehlcplccaaW.PrintWords
set_option linter.unusedSimpArgs false
set_option linter.unusedVariables false

/-- The values of f over a list, worked out, into k. -/
noncomputable def mapK {α : Type} (f : Nat → Nat) (l : List Nat) : (List Nat → α) → α := List.rec (motive := fun _ => (List Nat → α) → α) (fun k => k []) (fun a _ r k => frc (f a) fun b => r fun bs => k (b :: bs)) l
theorem mapK_eq {α : Type} (f : Nat → Nat) (l : List Nat) (k : List Nat → α) : mapK f l k = k (l.map f) := by
  induction l generalizing k with
  | nil => rfl
  | cons a l ih =>
    show frc (f a) (fun b => mapK f l fun bs => k (b :: bs)) = _
    rw [frc_eq, ih]
    rfl
def eight : List Nat := [0, 1, 2, 3, 4, 5, 6, 7]
noncomputable def dW (x j : Nat) : Nat := frc (mulW x (cB.getD j 0)) fun a => frc (mulW 0 (sB.getD j 0)) fun b => subW a b
noncomputable def gW (x j : Nat) : Nat := frc (mulW x (sB.getD j 0)) fun a => frc (mulW 0 (cB.getD j 0)) fun b => addW a b
noncomputable def sumW (D : List Nat) (k : Nat) (n : Nat) : Nat := Nat.rec (motive := fun _ => Nat) 0 (fun j acc => frc acc fun a => frc (Nat.mod (Nat.mul k j) 8) fun q => frc (D.getD q 0) fun d => addW a d) n
def okW (hi lo w : Nat) : Bool := rdK w (fun _ m _ => cond (Nat.beq m 0) true (((cd w).order (cd hi) != some .gt) && ((cd w).order (cd lo) != some .lt))) false
def signB (s : Bool) (w : Nat) : Bool := rdK w (fun t _ _ => cond s t (cond t false true)) false
noncomputable def chk (n : Nat) : Bool := frc (floatOfInt .f64 (n : Int)) fun x => frc (wop .quo x 4652007308841189376) fun hi => frc (wop .quo (Nat.add x 9223372036854775808) 4652007308841189376) fun lo =>
  mapK (dW x) eight fun D => mapK (gW x) eight fun G => mapK (fun k => sumW D k 8) eight fun R => mapK (fun k => sumW G k 8) eight fun I =>
    signB false hi && signB true lo && ((cd (R.getD 0 0)).order (cd (mulW 4620693217682128896 x)) == some .eq) && ((cd (I.getD 0 0)).order (cd 0) == some .eq) && (R.drop 1).all (okW hi lo) && (I.drop 1).all (okW hi lo)
      && ((cd (wop .quo x (floatOfInt .f64 (2 * n : Nat)))).order (cd 4602678819172646912) == some .eq) && (cd (Nat.add x 9223372036854775808) == (cd x).opposite)
theorem chk_0 : allK chk 1 100 = true := by decide +kernel
theorem chk_1 : allK chk 101 100 = true := by decide +kernel
theorem chk_2 : allK chk 201 100 = true := by decide +kernel
theorem chk_3 : allK chk 301 100 = true := by decide +kernel
theorem chk_4 : allK chk 401 100 = true := by decide +kernel
theorem chk_5 : allK chk 501 100 = true := by decide +kernel
theorem chk_6 : allK chk 601 100 = true := by decide +kernel
theorem chk_7 : allK chk 701 100 = true := by decide +kernel
theorem chk_8 : allK chk 801 100 = true := by decide +kernel
theorem chk_9 : allK chk 901 100 = true := by decide +kernel
theorem chk_ok {n : Nat} (h0 : 1 ≤ n) (h : n ≤ 1000) : chk n = true := by
  by_cases h1 : n < 101
  · exact all_part chk_0 _ (by omega) (by omega)
  by_cases h1 : n < 201
  · exact all_part chk_1 _ (by omega) (by omega)
  by_cases h1 : n < 301
  · exact all_part chk_2 _ (by omega) (by omega)
  by_cases h1 : n < 401
  · exact all_part chk_3 _ (by omega) (by omega)
  by_cases h1 : n < 501
  · exact all_part chk_4 _ (by omega) (by omega)
  by_cases h1 : n < 601
  · exact all_part chk_5 _ (by omega) (by omega)
  by_cases h1 : n < 701
  · exact all_part chk_6 _ (by omega) (by omega)
  by_cases h1 : n < 801
  · exact all_part chk_7 _ (by omega) (by omega)
  by_cases h1 : n < 901
  · exact all_part chk_8 _ (by omega) (by omega)
  · exact all_part chk_9 _ (by omega) (by omega)
theorem signB_out {s : Bool} {w : Nat} (h : signB s w = true) : ∃ m p, cd w = .number s m p := by
  unfold signB at h
  rcases rdK_eq w (fun t _ _ => cond s t (cond t false true)) false with ⟨t, m, p, hx, e⟩ | e
  · rw [e] at h
    have : t = s := by cases s <;> cases t <;> first | rfl | cases h
    subst this
    exact ⟨_, _, hx⟩
  · rw [e] at h; cases h
theorem signed_zero (s : Bool) (u : Nat) : signed s 0 u = 0 := by
  unfold signed
  rw [Nat.shiftLeft_eq, Nat.zero_mul]
  cases s <;> rfl
theorem okW_out {hi lo w : Nat} (h : okW hi lo w = true) (hs : signB false hi = true) (ht : signB true lo = true) : ((cd w).order (cd hi) == some .gt) = false ∧ ((cd w).order (cd lo) == some .lt) = false := by
  obtain ⟨mh, ph, eh⟩ := signB_out hs
  obtain ⟨ml, pl, el⟩ := signB_out ht
  unfold okW at h
  rcases rdK_eq w (fun _ m _ => cond (Nat.beq m 0) true (((cd w).order (cd hi) != some .gt) && ((cd w).order (cd lo) != some .lt))) false with ⟨t, m, p, hx, e⟩ | e
  · rw [e] at h
    rcases hm : Nat.beq m 0 with _ | _
    · rw [hm] at h
      simp only [cond_false, Bool.and_eq_true, bne_iff_ne, ne_eq] at h
      exact ⟨beq_eq_false_iff_ne.2 h.1, beq_eq_false_iff_ne.2 h.2⟩
    · have h0 : m = 0 := Nat.eq_of_beq_eq_true hm
      subst h0
      rw [hx, eh, el]
      show (some (compare (signed t 0 _) (signed false mh _)) == some .gt) = false ∧ (some (compare (signed t 0 _) (signed true ml _)) == some .lt) = false
      rw [signed_zero, signed_zero, cmp_gt, cmp_lt]
      constructor
      · apply decide_eq_false
        unfold signed
        rw [if_neg (by decide)]
        exact Int.not_lt.2 (Int.natCast_nonneg _)
      · apply decide_eq_false
        unfold signed
        rw [if_pos rfl]
        have := Int.natCast_nonneg (ml <<< (pl - min ((p : Int) - 1074) pl).toNat)
        exact Int.not_lt.2 (Int.neg_nonpos_of_nonneg this)
  · rw [e] at h; cases h
theorem getD_map8 (f : Nat → Nat) (q : Nat) (h : q < 8) : (eight.map f).getD q 0 = f q := by
  rcases q with _ | _ | _ | _ | _ | _ | _ | _ | q <;> first | rfl | omega
theorem rd_getD (L : List Nat) (q : Nat) (h : q < L.length) : rdOf 0 L (q : Int) = L.getD q 0 := by
  have h1 := rdOf_get 0 L (q : Int) (by omega) (by omega)
  rw [show ((q : Int)).toNat = q by omega] at h1
  rw [List.getD_eq_getElem?_getD, h1]
  rfl
theorem cd_dW (x q : Nat) : cd (dW x q) = fop .sub (fop .mul (cd x) (cd (cB.getD q 0))) (fop .mul (cd 0) (cd (sB.getD q 0))) := by
  unfold dW
  simp only [frc_eq, subW_eq, mulW_eq, cd_wop]
theorem cd_gW (x q : Nat) : cd (gW x q) = fop .add (fop .mul (cd x) (cd (sB.getD q 0))) (fop .mul (cd 0) (cd (cB.getD q 0))) := by
  unfold gW
  simp only [frc_eq, addW_eq, mulW_eq, cd_wop]
theorem sumW_succ (D : List Nat) (k n : Nat) : sumW D k (n + 1) = addW (sumW D k n) (D.getD (k * n % 8) 0) := by
  show frc (sumW D k n) (fun a => frc (Nat.mod (Nat.mul k n) 8) fun q => frc (D.getD q 0) fun d => addW a d) = _
  rw [frc_eq, frc_eq, frc_eq]
  rfl
theorem cd_re (x k : Nat) (X : Nat → Datum) : ∀ n, n ≤ 8 → (∀ i, i < 8 → X i = cd x) → cd (sumW (eight.map (dW x)) k n) = reAt X k n
  | 0, _, _ => rfl
  | n + 1, h, hX => by
    have hq : k * n % 8 < 8 := Nat.mod_lt _ (by decide)
    rw [sumW_succ, addW_eq, cd_wop, cd_re x k X n (by omega) hX, getD_map8 _ _ hq, cd_dW]
    show _ = fop .add (reAt X k n) (fop .sub (fop .mul (X n) (tc k n)) (fop .mul (cd 0) (ts k n)))
    unfold tc ts
    rw [hX n (by omega), rd_getD cB _ hq, rd_getD sB _ hq]
theorem cd_im (x k : Nat) (X : Nat → Datum) : ∀ n, n ≤ 8 → (∀ i, i < 8 → X i = cd x) → cd (sumW (eight.map (gW x)) k n) = imAt X k n
  | 0, _, _ => rfl
  | n + 1, h, hX => by
    have hq : k * n % 8 < 8 := Nat.mod_lt _ (by decide)
    rw [sumW_succ, addW_eq, cd_wop, cd_im x k X n (by omega) hX, getD_map8 _ _ hq, cd_gW]
    show _ = fop .add (imAt X k n) (fop .add (fop .mul (X n) (ts k n)) (fop .mul (cd 0) (tc k n)))
    unfold tc ts
    rw [hX n (by omega), rd_getD cB _ hq, rd_getD sB _ hq]
/-- What the law asks of the waves of eight times n, and of n's shares. -/
structure WavOk (n : Nat) (X : Nat → Datum) : Prop where
  first : ((reAt X 0 8).order (fop .mul (cd 4620693217682128896) (cd (floatOfInt .f64 (n : Int)))) == some .eq) = true
  second : ((imAt X 0 8).order (cd 0) == some .eq) = true
  re : ∀ k, 1 ≤ k → k < 8 → ((reAt X k 8).order (fop .quo (cd (floatOfInt .f64 (n : Int))) (cd 4652007308841189376)) == some .gt) = false ∧ ((reAt X k 8).order (fop .quo (cd (floatOfInt .f64 (n : Int))).opposite (cd 4652007308841189376)) == some .lt) = false
  im : ∀ k, 1 ≤ k → k < 8 → ((imAt X k 8).order (fop .quo (cd (floatOfInt .f64 (n : Int))) (cd 4652007308841189376)) == some .gt) = false ∧ ((imAt X k 8).order (fop .quo (cd (floatOfInt .f64 (n : Int))).opposite (cd 4652007308841189376)) == some .lt) = false
  half : ((fop .quo (cd (floatOfInt .f64 (n : Int))) (cd (floatOfInt .f64 (2 * n : Nat)))).order (cd 4602678819172646912) == some .eq) = true
theorem all_get {p : Nat → Bool} {f : Nat → Nat} (h : ((eight.map f).drop 1).all p = true) (k : Nat) (h1 : 1 ≤ k) (h2 : k < 8) : p (f k) = true := by
  rw [List.all_eq_true] at h
  apply h
  rcases k with _ | _ | _ | _ | _ | _ | _ | _ | k <;> first | omega | (simp [eight])
theorem wav_ok {n : Nat} (h0 : 1 ≤ n) (h : n ≤ 1000) (X : Nat → Datum) (hX : ∀ i, i < 8 → X i = cd (floatOfInt .f64 (n : Int))) : WavOk n X := by
  have hc := chk_ok h0 h
  unfold chk at hc
  simp only [frc_eq, mapK_eq, Bool.and_eq_true, mulW_eq] at hc
  obtain ⟨⟨⟨⟨⟨⟨⟨s1, s2⟩, c1⟩, c2⟩, c3⟩, c4⟩, c5⟩, c6⟩ := hc
  have e6 := beq_iff_eq.1 c6
  rw [getD_map8 _ 0 (by decide), cd_re _ 0 X 8 (by decide) hX, cd_wop] at c1
  rw [getD_map8 _ 0 (by decide), cd_im _ 0 X 8 (by decide) hX] at c2
  refine ⟨c1, c2, ?_, ?_, ?_⟩
  · intro k k1 k2
    have := okW_out (all_get c3 k k1 k2) s1 s2
    rw [cd_re _ k X 8 (by decide) hX, cd_wop, cd_wop, e6] at this
    exact this
  · intro k k1 k2
    have := okW_out (all_get c4 k k1 k2) s1 s2
    rw [cd_im _ k X 8 (by decide) hX, cd_wop, cd_wop, e6] at this
    exact this
  · rw [cd_wop] at c5
    exact c5
end Go.Proofs.Ytjldnehlcplccaa.Flo
