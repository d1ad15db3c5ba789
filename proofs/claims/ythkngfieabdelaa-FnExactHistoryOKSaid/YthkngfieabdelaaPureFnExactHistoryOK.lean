/- The law FnExactHistoryOK answers true of every list of calls. No condition. -/
import Derived.Test.YthkngfieabdelaaPFnExactHistoryOKx2
namespace Go.Proofs.Ythkngfieabdelaa.Pure
open Go.RowKit Go.Proofs.Ythkngfieabdelaa.PFnExactHistoryOK Go.Proofs.YthkngfieabdelaaW.PrintWords

theorem rd79 (l : List S79) (n : Nat) (h : n < l.length) : rd_T79 l (n : Int) = l[n] := by
  unfold rd_T79; rw [List.getD_eq_getElem?_getD, Int.toNat_natCast, List.getElem?_eq_getElem h]; rfl
theorem rd77 (l : List S77) (n : Nat) (h : n < l.length) : rd_T77 l (n : Int) = l[n] := by
  unfold rd_T77; rw [List.getD_eq_getElem?_getD, Int.toNat_natCast, List.getElem?_eq_getElem h]; rfl
theorem wrap_succ (n : Nat) (h : n ≤ 1048576) : wrap64 ((n : Int) + 1) = ((n + 1 : Nat) : Int) := by unfold wrap64; omega

def cv (c : S79) : S77 := ⟨c.f0, c.f1, c.f2, c.f3, c.f4, c.f5⟩
theorem toS (l : List S79) (hl : l.length ≤ 1048576) : ∀ d n k, n + d = l.length → d < k → laws_toCallS.l0 k l ((l.take n).map cv ++ List.replicate d z77) (n : Int) = some (l.map cv) := by
  intro d
  induction d with
  | zero =>
    intro n k hn hk
    obtain ⟨k, rfl⟩ : ∃ m, k = m + 1 := ⟨k - 1, by omega⟩
    simp only [laws_toCallS.l0]
    rw [if_neg (by omega)]
    simp [List.take_of_length_le (show l.length ≤ n by omega)]
  | succ d ih =>
    intro n k hn hk
    obtain ⟨k, rfl⟩ : ∃ m, k = m + 1 := ⟨k - 1, by omega⟩
    have hlt : n < l.length := by omega
    simp only [laws_toCallS.l0]
    rw [if_pos (by omega), if_pos (by omega), rd79 l n hlt]
    simp only [laws_toCall.f, Option.bind_some]
    rw [if_pos (by simp; omega), wrap_succ n (by omega), ← ih (n + 1) k (by omega) (by omega)]
    congr 1
    rw [List.take_succ_eq_append_getElem hlt]
    apply List.ext_getElem?
    intro i
    simp only [Int.toNat_natCast, List.replicate_succ, List.map_append, List.map_cons, List.map_nil, List.append_assoc, List.cons_append, List.nil_append]
    rw [List.getElem?_set]
    have hln : ((l.take n).map cv).length = n := by simp; omega
    by_cases hi : n = i
    · subst hi
      rw [if_pos rfl, List.getElem?_append_right (by omega), hln]
      simp [cv]
      omega
    · rw [if_neg hi]
      by_cases h2 : i < n
      · rw [List.getElem?_append_left (by omega), List.getElem?_append_left (by omega)]
      · rw [List.getElem?_append_right (by omega), List.getElem?_append_right (by omega), hln]
        obtain ⟨j, hj⟩ : ∃ j, i - n = j + 1 := ⟨i - n - 1, by omega⟩
        rw [hj]; rfl

theorem toS_f (l : List S79) (hl : l.length ≤ 1048576) (k : Nat) (hk : l.length < k) : laws_toCallS.f k l = some (l.map cv) := by
  unfold laws_toCallS.f
  rw [if_pos (by omega), if_pos (by omega), Int.toNat_natCast]
  exact toS l hl l.length 0 k (by omega) hk

theorem eqC (c : S77) : laws_eqCall.f c.f0 c.f1 c.f2 c.f3 c.f4 c.f5 c.f0 c.f1 c.f2 c.f3 c.f4 c.f5 = some true := by unfold laws_eqCall.f; simp
theorem eqS (l : List S77) (hl : l.length ≤ 1048576) : ∀ d n k, n + d = l.length → d < k → laws_eqCallS.l0 k l l (n : Int) = some true := by
  intro d
  induction d with
  | zero =>
    intro n k hn hk
    obtain ⟨k, rfl⟩ : ∃ m, k = m + 1 := ⟨k - 1, by omega⟩
    simp only [laws_eqCallS.l0]
    rw [if_neg (by omega)]
  | succ d ih =>
    intro n k hn hk
    obtain ⟨k, rfl⟩ : ∃ m, k = m + 1 := ⟨k - 1, by omega⟩
    have hlt : n < l.length := by omega
    simp only [laws_eqCallS.l0]
    rw [if_pos (by omega), if_pos (by omega), if_pos (by omega), eqC]
    simp only [Option.bind_some, if_true]
    rw [wrap_succ n (by omega)]
    exact ih (n + 1) k (by omega) (by omega)
theorem eqS_f (l : List S77) (hl : l.length ≤ 1048576) (k : Nat) (hk : l.length < k) : laws_eqCallS.f k l l = some true := by
  unfold laws_eqCallS.f
  rw [if_pos rfl]
  exact eqS l hl l.length 0 k (by omega) hk

/-! what the reference looks at -/
def anyClash (prev : List S77) (c : S77) : Bool := prev.any fun d => d.f0 == c.f0 && clashC d c
def spFrom : List S77 → List S77 → Bool
  | _, [] => true
  | prev, c :: cs => if badC c then false else if anyClash prev c then false else spFrom (prev ++ [c]) cs
def Good (prev : List S77) : Prop := (∀ d ∈ prev, badC d = false) ∧ prev.Pairwise fun d e => d.f0 = e.f0 → clashC d e = false

theorem lastOf_some : ∀ (l : List S77) (t : Int) (e : S77), lastOf l t = some e → e ∈ l ∧ e.f0 = t
  | [], _, _, h => by simp [lastOf] at h
  | c :: l, t, e, h => by
    unfold lastOf at h
    cases hl : lastOf l t with
    | some d =>
      rw [hl] at h
      obtain rfl := Option.some.inj h
      have := lastOf_some l t d hl
      exact ⟨.tail _ this.1, this.2⟩
    | none =>
      rw [hl] at h
      by_cases hc : c.f0 = t
      · simp [hc] at h; subst h; exact ⟨.head _, hc⟩
      · simp [hc] at h

theorem anyClash_last : ∀ (prev : List S77) (c : S77), Good prev → anyClash prev c = match lastOf prev c.f0 with
    | some e => clashC e c
    | none => false
  | [], _, _ => rfl
  | x :: l, c, hg => by
    have hgl : Good l := ⟨fun d hd => hg.1 d (.tail _ hd), (List.pairwise_cons.1 hg.2).2⟩
    have hx := (List.pairwise_cons.1 hg.2).1
    have ih := anyClash_last l c hgl
    have e0 : anyClash (x :: l) c = ((x.f0 == c.f0 && clashC x c) || anyClash l c) := by simp [anyClash]
    rw [e0, lastOf]
    cases hl : lastOf l c.f0 with
    | none =>
      rw [hl] at ih
      simp only at ih
      rw [ih]
      by_cases hc : x.f0 = c.f0
      · simp [hc]
      · simp [hc]
    | some e =>
      rw [hl] at ih
      simp only at ih
      rw [ih]
      obtain ⟨he, het⟩ := lastOf_some l c.f0 e hl
      simp only
      by_cases hc : x.f0 = c.f0
      · have h1 := hx e he (by rw [hc, het])
        have h2 := hg.1 e (.tail _ he)
        cases h3 : clashC e c with
        | true => simp
        | false =>
          have : clashC x c = false := by
            simp [clashC, badC] at h1 h2 h3 ⊢
            refine ⟨h1.1, ?_⟩
            by_cases h4 : e.f5 < e.f4
            · exact absurd (h2.2 h4).1 (by omega)
            · omega
          simp [this]
      · simp [hc]

theorem sp_eq : ∀ (cs prev : List S77), Good prev → spFrom prev cs = okFrom prev cs
  | [], _, _ => by rw [spFrom, okFrom]
  | c :: cs, prev, hg => by
    rw [spFrom, okFrom, anyClash_last prev c hg]
    cases hb : badC c with
    | true => rfl
    | false =>
      have next : anyClash prev c = false → Good (prev ++ [c]) := by
        intro hn
        refine ⟨?_, ?_⟩
        · intro d hd
          rcases List.mem_append.1 hd with h | h
          · exact hg.1 d h
          · rw [List.mem_singleton.1 h]; exact hb
        · rw [List.pairwise_append]
          refine ⟨hg.2, by simp, ?_⟩
          intro d hd e he
          rw [List.mem_singleton.1 he]
          intro hde
          unfold anyClash at hn
          rw [List.any_eq_false] at hn
          have := hn d hd
          simpa [hde] using this
      cases hl : lastOf prev c.f0 with
      | none =>
        have hn : anyClash prev c = false := by rw [anyClash_last prev c hg, hl]
        simp only [Bool.false_eq_true, if_false]
        exact sp_eq cs _ (next hn)
      | some d =>
        cases hcl : clashC d c with
        | true => simp [hcl]
        | false =>
          have hn : anyClash prev c = false := by rw [anyClash_last prev c hg, hl]; exact hcl
          simp only [Bool.false_eq_true, if_false, hcl]
          exact sp_eq cs _ (next hn)

theorem l0_step (l : List S77) (n k : Nat) (h : n < l.length) : spec_HistoryOK.l0 (k + 1) l (n : Int) = spec_HistoryOK.j1 k l (n : Int) (badC l[n]) l[n].f0 l[n].f1 l[n].f2 l[n].f3 l[n].f4 l[n].f5 := by
  simp only [spec_HistoryOK.l0]
  rw [if_pos (by omega), if_pos (by omega), rd77 l n h]
  generalize l[n] = c
  by_cases h1 : c.f0 < 0
  · rw [if_pos h1, show badC c = true by simp [badC, h1]]
  rw [if_neg h1]
  by_cases h2 : c.f0 > 3
  · rw [if_pos h2, show badC c = true by simp [badC, h2]]
  rw [if_neg h2]
  by_cases h3 : c.f4 < 0
  · rw [if_pos h3, show badC c = true by simp [badC, h3]]
  rw [if_neg h3]
  by_cases h4 : c.f5 = -1
  · rw [if_pos h4, show badC c = (c.f3 != 0) by
      have e : (-1 : Int) < c.f4 := by omega
      simp [badC, h1, h3, h4, e]; omega]
  rw [if_neg h4]
  by_cases h5 : c.f5 < c.f4
  · rw [if_pos h5, show badC c = true by simp [badC, h4, h5]]
  · rw [if_neg h5, show badC c = false by simp [badC]; omega]

theorem l1_loop (l : List S77) (hl : l.length ≤ 1048576) (n : Nat) (hn : n < l.length) (c : S77) : ∀ d m k, m + d = n →
    spec_HistoryOK.l1 (d + 1 + k) l (n : Int) (m : Int) c.f0 c.f1 c.f2 c.f3 c.f4 c.f5 = if anyClash ((l.take n).drop m) c then some false else spec_HistoryOK.l0 k l ((n + 1 : Nat) : Int) := by
  intro d
  induction d with
  | zero =>
    intro m k hm
    rw [show 0 + 1 + k = k + 1 by omega]
    simp only [spec_HistoryOK.l1]
    rw [if_neg (by omega), List.drop_eq_nil_of_le (by simp; omega), wrap_succ n (by omega)]
    rfl
  | succ d ih =>
    intro m k hm
    rw [show d + 1 + 1 + k = (d + 1 + k) + 1 by omega]
    simp only [spec_HistoryOK.l1]
    have hml : m < l.length := by omega
    have hd : (l.take n).drop m = l[m] :: (l.take n).drop (m + 1) := by
      rw [List.drop_eq_getElem_cons (by simp; omega)]
      simp
    rw [if_pos (by omega), if_pos (by omega), if_pos (by omega), rd77 l m hml, wrap_succ m (by omega), ih (m + 1) k (by omega), hd]
    have e0 : anyClash (l[m] :: (l.take n).drop (m + 1)) c = ((l[m].f0 == c.f0 && clashC l[m] c) || anyClash ((l.take n).drop (m + 1)) c) := by simp [anyClash]
    rw [e0]
    generalize l[m] = x
    by_cases h1 : x.f0 = c.f0
    · rw [if_pos h1]
      by_cases h2 : x.f5 = -1
      · rw [if_pos h2, show clashC x c = true by simp [clashC, h2]]; simp [h1]
      · rw [if_neg h2]
        by_cases h3 : x.f5 > c.f4
        · rw [if_pos h3, show clashC x c = true by simp [clashC]; omega]; simp [h1]
        · rw [if_neg h3, show clashC x c = false by simp [clashC]; omega]; simp
    · rw [if_neg h1]; simp [h1]

theorem sp_run (l : List S77) (hl : l.length ≤ 1048576) : ∀ d n, n + d = l.length → ∃ K, ∀ k, K ≤ k → spec_HistoryOK.l0 k l (n : Int) = some (spFrom (l.take n) (l.drop n)) := by
  intro d
  induction d with
  | zero =>
    intro n hn
    refine ⟨1, fun k hk => ?_⟩
    obtain ⟨k, rfl⟩ : ∃ m, k = m + 1 := ⟨k - 1, by omega⟩
    simp only [spec_HistoryOK.l0]
    rw [if_neg (by omega), List.drop_eq_nil_of_le (by omega), spFrom]
  | succ d ih =>
    intro n hn
    obtain ⟨K, hK⟩ := ih (n + 1) (by omega)
    have hlt : n < l.length := by omega
    refine ⟨K + n + 3, fun k hk => ?_⟩
    obtain ⟨k, rfl⟩ : ∃ m, k = (n + 1 + m) + 1 + 1 := ⟨k - n - 3, by omega⟩
    rw [l0_step l n _ hlt]
    simp only [spec_HistoryOK.j1]
    rw [List.drop_eq_getElem_cons hlt, spFrom]
    cases hb : badC l[n] with
    | true => simp
    | false =>
      have hk2 : K ≤ k := by omega
      have := l1_loop l hl n hlt l[n] n 0 k (by omega)
      simp only [Bool.false_eq_true, if_false]
      rw [show ((0 : Nat) : Int) = 0 from rfl] at this
      rw [this, hK k hk2, List.take_succ_eq_append_getElem hlt]
      simp only [List.drop_zero]
      split <;> rfl

theorem FnExactHistoryOK (l : List S79) (hl : l.length ≤ 9223372036854775807) : ∃ k, laws_FnExactHistoryOK.f k l = some true := by
  by_cases hb : l.length ≤ 1048576
  · have hb' : (l.map cv).length ≤ 1048576 := by simpa using hb
    obtain ⟨K, hK⟩ := sp_run (l.map cv) hb' (l.map cv).length 0 (by omega)
    refine ⟨K + l.length + 1, ?_⟩
    unfold laws_FnExactHistoryOK.f laws_szCallS.f
    have hw : wrap64 (1048576 - (l.length : Int)) = 1048576 - (l.length : Int) := by unfold wrap64; omega
    rw [hw, if_neg (by omega)]
    simp only [Option.bind_some]
    rw [if_neg (by omega), toS_f l hb _ (by omega)]
    have hs : spec_HistoryOK.f (K + l.length + 1) (l.map cv) = some (hOK (l.map cv)) := by
      unfold spec_HistoryOK.f hOK
      by_cases h10 : (l.map cv).length > 10
      · rw [if_pos (by omega), if_pos h10]
      · rw [if_neg (by omega), if_neg h10]
        have h0 := hK (K + l.length + 1) (by omega)
        rw [show ((0 : Nat) : Int) = 0 from rfl] at h0
        rw [h0]
        simp only [List.take_zero, List.drop_zero]
        rw [sp_eq _ [] ⟨by simp, by simp⟩]
    simp only [Option.bind_some, hs, impl_HistoryOK.f, bne_self_eq_false, Bool.false_eq_true, if_false]
    rw [eqS_f (l.map cv) hb' _ (by simp; omega)]
    rfl
  · refine ⟨0, ?_⟩
    unfold laws_FnExactHistoryOK.f laws_szCallS.f
    have hw : wrap64 (1048576 - (l.length : Int)) < 0 := by unfold wrap64; omega
    rw [if_pos hw]
    rfl
end Go.Proofs.Ythkngfieabdelaa.Pure
