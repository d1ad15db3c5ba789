/- Transactions: every schedule is serial, through a touch, a commit, a step, a run. Plain. -/
import Derived.Test.YtonhmkllfbagmaaPlD
namespace Go.Proofs.Ytonhmkllfbagmaa.Tx
open Go.RowKit Go.Proofs.YtonhmkllfbagmaaW.PrintWords Go.Proofs.Ytonhmkllfbagmaa.PFnExactTxFair
set_option linter.unusedVariables false
set_option linter.unusedSimpArgs false
theorem sapL_snoc (B : Nat → Int) (l : List S63) (o : S63) : sapL B (l ++ [o]) = sap (sapL B l) o := by unfold sapL; rw [List.foldl_append]; rfl
theorem conf_ok {S : St} {nc t : Nat} (h : conf S nc t = false) : ∀ c, c < nc → 0 ≤ S.read t c → S.read t c = S.vers c := by
  intro c hc h0
  unfold conf at h
  rw [List.any_eq_false] at h
  have := h c (List.mem_range.2 hc)
  simp only [Bool.and_eq_true, decide_eq_true_eq, bne_iff_ne, ne_eq, not_and, Decidable.not_not] at this
  exact this h0
def sv (S : St) (t c : Nat) : Int := if S.wrote t c = true then S.kept t c else S.cells c
structure ActD (S S' : St) (t : Nat) (x : S63) (num : Int) : Prop where
  ev : S'.events = S.events ++ [⟨(t : Int), S.tx t, S.try_ t, x.f0, x.f1, num⟩]
  cells : S'.cells = S.cells
  vers : S'.vers = S.vers
  tx : S'.tx = S.tx
  try_ : S'.try_ = S.try_
  begun : S'.begun = S.begun
  at_ : S'.at_ t = inc (S.at_ t)
  ato : ∀ i, i ≠ t → S'.at_ i = S.at_ i
  oth : ∀ i, i ≠ t → S'.read i = S.read i ∧ S'.wrote i = S.wrote i ∧ S'.kept i = S.kept i
  rd : ∀ c, S'.read t c = if (x.f0 ≠ 2 ∧ S.wrote t x.f1.toNat = false) ∧ c = x.f1.toNat then S.vers c else S.read t c
  wr : ∀ c, S'.wrote t c = if x.f0 ≠ 1 ∧ c = x.f1.toNat then true else S.wrote t c
  kp : ∀ c, S'.kept t c = if x.f0 ≠ 1 ∧ c = x.f1.toNat then (if x.f0 = 2 then x.f2 else wrap64 (x.f2 + sv S t x.f1.toNat)) else S.kept t c
  num : x.f0 ≠ 2 → num = wrap64 (x.f2 + sv S t x.f1.toNat)
theorem up2 {α : Type} (f : Nat → Nat → α) (t c : Nat) (v : α) (m : Nat) : up f t (up (f t) c v) t m = if m = c then v else f t m := by
  rw [up_self]; rfl
theorem see_sv (S : St) (t c : Nat) : (see S t c).1 = sv S t c := by unfold Tx.see sv; split <;> rfl
theorem see_rd (S : St) (t c m : Nat) : (see S t c).2.read t m = if S.wrote t c = false ∧ m = c then S.vers c else S.read t m := by
  unfold Tx.see
  by_cases h : S.wrote t c = true
  · rw [if_pos h, if_neg (fun hh => by rw [h] at hh; cases hh.1)]
  · have h' : S.wrote t c = false := by simpa using h
    rw [if_neg h]
    show up S.read t (up (S.read t) c (S.vers c)) t m = _
    rw [up2]
    by_cases e : m = c
    · rw [if_pos e, if_pos ⟨h', e⟩]
    · rw [if_neg e, if_neg (fun hh => e hh.2)]
theorem see_oth (S : St) (t c i : Nat) (hi : i ≠ t) : (see S t c).2.read i = S.read i := by
  unfold Tx.see
  split
  · rfl
  · exact up_ne _ _ _ _ hi
theorem see_all (S : St) (t c : Nat) : (see S t c).2.cells = S.cells ∧ (see S t c).2.try_ = S.try_ ∧ (see S t c).2.wrote = S.wrote ∧ (see S t c).2.kept = S.kept := by
  unfold Tx.see; split <;> exact ⟨rfl, rfl, rfl, rfl⟩
theorem actD (S : St) (t : Nat) (x : S63) (hx : x.f0 = 1 ∨ x.f0 = 2 ∨ x.f0 = 3) : ∃ num, ActD S (act S t x) t x num := by
  obtain ⟨s1, s2, s3, s4, s5, -⟩ := see_same S t x.f1.toNat
  obtain ⟨q1, q2, q3, q4⟩ := see_all S t x.f1.toNat
  have e0 := see_sv S t x.f1.toNat
  have hrd := see_rd S t x.f1.toNat
  have hoth := see_oth S t x.f1.toNat
  rcases hx with h | h | h
  · refine ⟨wrap64 (x.f2 + sv S t x.f1.toNat), ?_⟩
    unfold Tx.act
    rw [if_pos h, e0]
    refine ⟨?_, q1, s4, s2, q2, s1, ?_, fun i hi => ?_, fun i hi => ⟨hoth i hi, congrFun q3 i, congrFun q4 i⟩, fun c => ?_, fun c => ?_, fun c => ?_, fun _ => rfl⟩
    · show (see S t x.f1.toNat).2.events ++ [⟨(t : Int), (see S t x.f1.toNat).2.tx t, (see S t x.f1.toNat).2.try_ t, _, _, _⟩] = _
      rw [s5, s2, q2]
    · show up (see S t x.f1.toNat).2.at_ t (inc ((see S t x.f1.toNat).2.at_ t)) t = _
      rw [up_self, s3]
    · show up (see S t x.f1.toNat).2.at_ t _ i = _
      rw [up_ne _ _ _ _ hi, s3]
    · show (see S t x.f1.toNat).2.read t c = _
      rw [hrd c]
      by_cases e : c = x.f1.toNat
      · subst e
        by_cases w : S.wrote t x.f1.toNat = false
        · rw [if_pos ⟨w, rfl⟩, if_pos ⟨⟨by omega, w⟩, rfl⟩]
        · rw [if_neg (fun hh => w hh.1), if_neg (fun hh => w hh.1.2)]
      · rw [if_neg (fun hh => e hh.2), if_neg (fun hh => e hh.2)]
    · show (see S t x.f1.toNat).2.wrote t c = _
      rw [q3, if_neg (fun hh => hh.1 h)]
    · show (see S t x.f1.toNat).2.kept t c = _
      rw [q4, if_neg (fun hh => hh.1 h)]
  · refine ⟨x.f2, ?_⟩
    unfold Tx.act
    rw [if_neg (by omega), if_pos h]
    refine ⟨rfl, rfl, rfl, rfl, rfl, rfl, ?_, fun i hi => ?_, fun i hi => ⟨rfl, up_ne _ _ _ _ hi, up_ne _ _ _ _ hi⟩, fun c => ?_, fun c => ?_, fun c => ?_, fun hh => absurd h hh⟩
    · show up S.at_ t (inc (S.at_ t)) t = _
      rw [up_self]
    · show up S.at_ t _ i = _
      rw [up_ne _ _ _ _ hi]
    · show S.read t c = _
      rw [if_neg (fun hh => hh.1.1 h)]
    · show up S.wrote t (up (S.wrote t) x.f1.toNat true) t c = _
      rw [up2]
      by_cases e : c = x.f1.toNat
      · rw [if_pos e, if_pos ⟨by omega, e⟩]
      · rw [if_neg e, if_neg (fun hh => e hh.2)]
    · show up S.kept t (up (S.kept t) x.f1.toNat x.f2) t c = _
      rw [up2]
      by_cases e : c = x.f1.toNat
      · rw [if_pos e, if_pos ⟨by omega, e⟩, if_pos h]
      · rw [if_neg e, if_neg (fun hh => e hh.2)]
  · refine ⟨wrap64 (x.f2 + sv S t x.f1.toNat), ?_⟩
    unfold Tx.act
    rw [if_neg (by omega), if_neg (by omega), e0]
    refine ⟨?_, q1, s4, s2, q2, s1, ?_, fun i hi => ?_, fun i hi => ⟨hoth i hi, ?_, ?_⟩, fun c => ?_, fun c => ?_, fun c => ?_, fun _ => rfl⟩
    · show (see S t x.f1.toNat).2.events ++ [⟨(t : Int), (see S t x.f1.toNat).2.tx t, (see S t x.f1.toNat).2.try_ t, _, _, _⟩] = _
      rw [s5, s2, q2]
    · show up (see S t x.f1.toNat).2.at_ t (inc ((see S t x.f1.toNat).2.at_ t)) t = _
      rw [up_self, s3]
    · show up (see S t x.f1.toNat).2.at_ t _ i = _
      rw [up_ne _ _ _ _ hi, s3]
    · show up (see S t x.f1.toNat).2.wrote t _ i = _
      rw [up_ne _ _ _ _ hi, q3]
    · show up (see S t x.f1.toNat).2.kept t _ i = _
      rw [up_ne _ _ _ _ hi, q4]
    · show (see S t x.f1.toNat).2.read t c = _
      rw [hrd c]
      by_cases e : c = x.f1.toNat
      · subst e
        by_cases w : S.wrote t x.f1.toNat = false
        · rw [if_pos ⟨w, rfl⟩, if_pos ⟨⟨by omega, w⟩, rfl⟩]
        · rw [if_neg (fun hh => w hh.1), if_neg (fun hh => w hh.1.2)]
      · rw [if_neg (fun hh => e hh.2), if_neg (fun hh => e hh.2)]
    · show up (see S t x.f1.toNat).2.wrote t (up ((see S t x.f1.toNat).2.wrote t) x.f1.toNat true) t c = _
      rw [up2, q3]
      by_cases e : c = x.f1.toNat
      · rw [if_pos e, if_pos ⟨by omega, e⟩]
      · rw [if_neg e, if_neg (fun hh => e hh.2)]
    · show up (see S t x.f1.toNat).2.kept t (up ((see S t x.f1.toNat).2.kept t) x.f1.toNat _) t c = _
      rw [up2, q4]
      by_cases e : c = x.f1.toNat
      · rw [if_pos e, if_pos ⟨by omega, e⟩, if_neg (by omega)]
      · rw [if_neg e, if_neg (fun hh => e hh.2)]
theorem sim_one (x : S63) (c : Nat) (w : Nat → Bool) (k : Nat → Int) (B Q : Nat → Int) (s : Int) (hx : x.f0 = 1 ∨ x.f0 = 2 ∨ x.f0 = 3) (hs : ∀ c, (if w c = true then k c else B c) = Q c) (h3 : x.f0 = 3 → s = Q x.f1.toNat) :
    (if (if x.f0 ≠ 1 ∧ c = x.f1.toNat then true else w c) = true then (if x.f0 ≠ 1 ∧ c = x.f1.toNat then (if x.f0 = 2 then x.f2 else wrap64 (x.f2 + s)) else k c) else B c) = sap Q x c := by
  unfold sap
  rcases hx with h1 | h1 | h1
  · have n1 : ¬ (x.f0 ≠ 1 ∧ c = x.f1.toNat) := fun hh => hh.1 h1
    have n2 : ¬ x.f0 = 2 := by omega
    have n3 : ¬ x.f0 = 3 := by omega
    simp only [if_neg n1, if_neg n2, if_neg n3]
    exact hs c
  · by_cases ec : c = x.f1.toNat
    · have y1 : x.f0 ≠ 1 ∧ c = x.f1.toNat := ⟨by omega, ec⟩
      simp only [if_pos y1, if_pos h1, if_true]
      rw [ec, up_self]
    · have n1 : ¬ (x.f0 ≠ 1 ∧ c = x.f1.toNat) := fun hh => ec hh.2
      simp only [if_neg n1, if_pos h1]
      rw [up_ne _ _ _ _ ec]
      exact hs c
  · have n2 : ¬ x.f0 = 2 := by omega
    by_cases ec : c = x.f1.toNat
    · have y1 : x.f0 ≠ 1 ∧ c = x.f1.toNat := ⟨by omega, ec⟩
      simp only [if_pos y1, if_neg n2, if_pos h1, if_true]
      rw [ec, up_self, h3 h1, Int.add_comm]
    · have n1 : ¬ (x.f0 ≠ 1 ∧ c = x.f1.toNat) := fun hh => ec hh.2
      simp only [if_neg n1, if_neg n2, if_pos h1]
      rw [up_ne _ _ _ _ ec]
      exact hs c
section
variable {n nc : Nat} {T : List (List (List S63))} {C0 : Nat → Int} {S S' : St}
theorem TI.act_ (h : TI n nc T C0 S) (G : Good n T S) (t : Nat) (x : S63) (num : Int) (d : ActD S S' t x num) (hx : x.f0 = 1 ∨ x.f0 = 2 ∨ x.f0 = 3) (hcn : x.f1.toNat < nc) (hb : S.begun t = true) (hcf : ∀ c, c < nc → 0 ≤ S.read t c → S.read t c = S.vers c)
    (hat : 0 ≤ S.at_ t ∧ S.at_ t < ((opsOf T S t).length : Int)) (hop : (opsOf T S t).getD (S.at_ t).toNat z63 = x) (h8 : (opsOf T S t).length ≤ 8) : TI n nc T C0 S' := by
  obtain ⟨V, hV⟩ := h.cur t hb
  obtain ⟨E, hE⟩ : ∃ E, S.events = E := ⟨_, rfl⟩
  obtain ⟨e, he⟩ : ∃ e : S53, (⟨(t : Int), S.tx t, S.try_ t, x.f0, x.f1, num⟩ : S53) = e := ⟨_, rfl⟩
  have ee : S'.events = E ++ [e] := by rw [d.ev, hE, he]
  have f3 : e.f3 = x.f0 := by rw [← he]
  have hcm : cm (E ++ [e]) = cm E := by rw [cm_snoc, if_neg (by rw [f3]; omega)]
  have hid : ∀ (i : Nat) (a b : Int), idm i a b e ↔ (i = t ∧ a = S.tx t ∧ b = S.try_ t) := by
    intro i a b
    rw [← he]
    constructor
    · intro hh
      have h1 : (t : Int) = (i : Int) := hh.1
      exact ⟨by omega, hh.2.1.symm, hh.2.2.1.symm⟩
    · rintro ⟨rfl, rfl, rfl⟩
      exact ⟨rfl, rfl, rfl, by show x.f0 ≤ 3; omega⟩
  have hinc : inc (S.at_ t) = S.at_ t + 1 := inc_of (by omega) (by omega)
  -- what the try has seen, with this touch
  obtain ⟨isR, hR⟩ : ∃ isR : Bool, isR = decide (x.f0 ≠ 2 ∧ S.wrote t x.f1.toNat = false) := ⟨_, rfl⟩
  have hrd : ∀ c, S'.read t c = if isR = true ∧ c = x.f1.toNat then S.vers c else S.read t c := fun c => by rw [d.rd c, hR]; simp only [decide_eq_true_eq]
  obtain ⟨V', hV'⟩ : ∃ V' : Nat → Int, ∀ c, V' c = if isR = true ∧ c = x.f1.toNat then S.cells c else V c := ⟨_, fun _ => rfl⟩
  have hold : ∀ c, 0 ≤ S.read t c → V' c = V c ∧ S.cells c = V c ∧ 0 ≤ S'.read t c := by
    intro c hc
    obtain ⟨a1, a2, a3⟩ := hV.rd c hc
    have a4 := a3 (hcf c a1 hc)
    refine ⟨?_, a4, ?_⟩
    · rw [hV' c]; split
      · exact a4
      · rfl
    · rw [hrd c]; split
      · exact G.vr c
      · exact hc
  have hnew : ∀ c, 0 ≤ S'.read t c → c < nc ∧ S'.read t c ≤ S.vers c ∧ S.cells c = V' c := by
    intro c hc
    rw [hrd c] at hc ⊢
    by_cases hh : isR = true ∧ c = x.f1.toNat
    · rw [if_pos hh] at hc ⊢
      refine ⟨by rw [hh.2]; exact hcn, Int.le_refl _, ?_⟩
      rw [hV' c, if_pos hh]
    · rw [if_neg hh] at hc ⊢
      obtain ⟨a1, a2, a3⟩ := hV.rd c hc
      exact ⟨a1, a2, by rw [(hold c hc).1]; exact (hold c hc).2.1⟩
  have hopt : opsOf T S' t = opsOf T S t := by unfold opsOf; rw [d.tx]
  have hopi : ∀ i, opsOf T S' i = opsOf T S i := fun i => by unfold opsOf; rw [d.tx]
  obtain ⟨g, hg⟩ : ∃ g, tgE (opsOf T S t) t (S.tx t) (S.try_ t) E = g := ⟨_, rfl⟩
  have hga : (g.at_ : Int) = S.at_ t := by rw [← hg, ← hE]; exact hV.at_
  have hgw : ∀ c, g.wrote c = S.wrote t c := by rw [← hg, ← hE]; exact hV.wr
  have hgp : ∀ p ∈ g.pairs, 0 ≤ S.read t p.1 ∧ V p.1 = p.2 := by rw [← hg, ← hE]; exact hV.pr
  have hgat : g.at_ = (S.at_ t).toNat := by omega
  have hgx : (opsOf T S t).getD g.at_ z63 = x := by rw [hgat]; exact hop
  obtain ⟨g', hg'⟩ : ∃ g', tgE (opsOf T S t) t (S.tx t) (S.try_ t) (E ++ [e]) = g' := ⟨_, rfl⟩
  have hstep : g' = tgStep (opsOf T S t) g e := by rw [← hg', tgE_snoc, if_pos ((hid t _ _).2 ⟨rfl, rfl, rfl⟩), hg]
  have hp' : ∀ p ∈ g'.pairs, 0 ≤ S'.read t p.1 ∧ V' p.1 = p.2 := by
    intro p hp
    rw [hstep] at hp
    unfold tgStep at hp
    rw [hgx, hgw] at hp
    have old : ∀ p ∈ g.pairs, 0 ≤ S'.read t p.1 ∧ V' p.1 = p.2 := fun p hp => by
      obtain ⟨a, b⟩ := hgp p hp
      exact ⟨(hold p.1 a).2.2, (hold p.1 a).1.trans b⟩
    by_cases hh : x.f0 ≠ 2 ∧ S.wrote t x.f1.toNat = false
    · simp only [if_pos hh] at hp
      rcases List.mem_append.1 hp with hp | hp
      · exact old p hp
      · have hpe := List.mem_singleton.1 hp
        have hiR : isR = true := by rw [hR]; exact decide_eq_true hh
        rw [hpe]
        refine ⟨?_, ?_⟩
        · show 0 ≤ S'.read t x.f1.toNat
          rw [hrd, if_pos ⟨hiR, rfl⟩]; exact G.vr _
        · show V' x.f1.toNat = wrap64 (e.f5 - x.f2)
          rw [hV', if_pos ⟨hiR, rfl⟩, show e.f5 = num by rw [← he], d.num hh.1]
          unfold sv
          rw [if_neg (by rw [hh.2]; decide)]
          have := G.cr x.f1.toNat
          unfold wrap64 at this ⊢
          omega
    · simp only [if_neg hh] at hp
      exact old p hp
  refine ⟨?_, ?_, ?_, fun i a b hi q hq => ?_, fun i a b ha => ?_, fun i hi => ?_, fun i => ?_⟩
  · rw [d.cells, ee, hcm, ← hE]; exact h.ser
  · rw [d.tx, ee, hcm, ← hE]; exact h.nxt
  · rw [ee, hcm, ← hE]; exact h.ord
  · rw [ee] at hq
    rw [d.tx, d.try_, d.begun] at hi
    rcases List.mem_append.1 hq with hq | hq
    · rw [← hE] at hq; exact h.ids i a b hi q hq
    · rw [List.mem_singleton.1 hq, hid]
      rintro ⟨rfl, rfl, rfl⟩
      rcases hi with c | ⟨-, c⟩ | ⟨-, -, c⟩
      · omega
      · omega
      · rw [hb] at c; cases c
  · rw [ee]
    unfold stt
    rw [hcm]
    by_cases hc : i = t ∧ a = S.tx t ∧ b = S.try_ t
    · obtain ⟨rfl, rfl, rfl⟩ := hc
      have hto := h.tog i (S.tx i) (S.try_ i) ha
      rw [hE] at hto
      show (tgE (opsOf T S i) i (S.tx i) (S.try_ i) (E ++ [e])).ok = true ∧ ∃ k, k ≤ (cm E).length ∧ ∀ p ∈ (tgE (opsOf T S i) i (S.tx i) (S.try_ i) (E ++ [e])).pairs, _
      rw [hg']
      refine ⟨?_, (cm E).length, Nat.le_refl _, fun p hp => ?_⟩
      · rw [hstep]
        unfold tgStep
        have hok : g.ok = true := by rw [← hg]; exact hto.1
        simp only [hgx, hok, Bool.true_and, decide_eq_true_eq]
        refine ⟨by omega, by rw [← he], by rw [← he]⟩
      · obtain ⟨p1, p2⟩ := hp' p hp
        rw [List.take_length, ← hE, ← h.ser]
        exact (hnew p.1 p1).2.2.trans p2
    · rw [tgE_snoc, if_neg (fun hh => hc ((hid i a b).1 hh))]
      have hto := h.tog i a b ha
      unfold stt at hto
      rw [hE] at hto
      exact hto
  · rw [d.begun] at hi
    by_cases ei : i = t
    · subst ei
      refine ⟨V', fun c hc => ?_, fun B hB c => ?_, ?_, fun c => ?_, fun p hp => ?_⟩
      · obtain ⟨a, b, c'⟩ := hnew c hc
        rw [d.vers, d.cells]
        exact ⟨a, b, fun _ => c'⟩
      · have hBV : ∀ c, 0 ≤ S.read i c → B c = V c := fun c hc => by
          rw [hB c (hold c hc).2.2]; exact (hold c hc).1
        have hs := hV.sim B hBV
        have htk : (opsOf T S i).take (S'.at_ i).toNat = (opsOf T S i).take (S.at_ i).toNat ++ [x] := by
          rw [d.at_, hinc, show (S.at_ i + 1).toNat = (S.at_ i).toNat + 1 by omega, List.take_add_one]
          congr 1
          rw [List.getD_eq_getElem?_getD, List.getElem?_eq_getElem (by omega)] at hop
          rw [List.getElem?_eq_getElem (by omega)]
          show [_] = _
          rw [show (opsOf T S i)[(S.at_ i).toNat] = x from hop]
        rw [hopt, htk, sapL_snoc, d.wr c, d.kp c]
        obtain ⟨Q, hQ⟩ : ∃ Q, sapL B ((opsOf T S i).take (S.at_ i).toNat) = Q := ⟨_, rfl⟩
        rw [hQ] at hs ⊢
        exact sim_one x c (S.wrote i) (S.kept i) B Q (sv S i x.f1.toNat) hx hs (fun h3 => by
          unfold sv
          rw [← hs x.f1.toNat]
          by_cases w : S.wrote i x.f1.toNat = true
          · rw [if_pos w, if_pos w]
          · rw [if_neg w, if_neg w]
            have hiR : isR = true := by rw [hR]; exact decide_eq_true ⟨by omega, by simpa using w⟩
            rw [hB _ (by rw [hrd, if_pos ⟨hiR, rfl⟩]; exact G.vr _), hV', if_pos ⟨hiR, rfl⟩])
      · rw [hopt, d.tx, d.try_, ee, hg', hstep, d.at_, hinc]
        show ((g.at_ + 1 : Nat) : Int) = _
        omega
      · rw [hopt, d.tx, d.try_, ee, hg', hstep, d.wr c]
        unfold tgStep
        simp only [hgx]
        by_cases h1 : x.f0 ≠ 1
        · rw [if_pos h1]
          by_cases ec : c = x.f1.toNat
          · rw [if_pos ⟨h1, ec⟩, ec, up_self]
          · rw [if_neg (fun hh => ec hh.2), up_ne _ _ _ _ ec]; exact hgw c
        · rw [if_neg h1, if_neg (fun hh => h1 hh.1)]; exact hgw c
      · rw [hopt, d.tx, d.try_, ee, hg'] at hp
        exact hp' p hp
    · obtain ⟨U, hU⟩ := h.cur i hi
      obtain ⟨o1, o2, o3⟩ := d.oth i ei
      have hgi : tgE (opsOf T S i) i (S.tx i) (S.try_ i) (E ++ [e]) = tgE (opsOf T S i) i (S.tx i) (S.try_ i) S.events := by
        rw [tgE_snoc, if_neg (fun hh => ei ((hid i _ _).1 hh).1), hE]
      refine ⟨U, fun c hc => ?_, fun B hB c => ?_, ?_, fun c => ?_, fun p hp => ?_⟩
      · rw [o1] at hc ⊢; rw [d.vers, d.cells]; exact hU.rd c hc
      · rw [o2, o3, hopi, d.ato i ei]
        exact hU.sim B (fun c hc => hB c (by rw [o1]; exact hc)) c
      · rw [hopi, d.tx, d.try_, ee, hgi, d.ato i ei]; exact hU.at_
      · rw [hopi, d.tx, d.try_, ee, hgi, o2]; exact hU.wr c
      · rw [hopi, d.tx, d.try_, ee, hgi] at hp
        rw [o1]; exact hU.pr p hp
  · have := h.tr i
    rw [d.try_, ee, List.length_append, List.length_singleton, ← hE]
    omega
theorem TI.commit (h : TI n nc T C0 S) (G : Good n T S) (t : Nat) (ht : t < n) (hb : S.begun t = true) (hcf : ∀ c, c < nc → 0 ≤ S.read t c → S.read t c = S.vers c)
    (hat : S.at_ t = ((opsOf T S t).length : Int)) (htx : S.tx t < ((thr T t).length : Int)) (hl : (thr T t).length ≤ 8) (hv : ∀ c, S.vers c ≤ 1000000) : TI n nc T C0 (Tx.commit S t) := by
  obtain ⟨V, hV⟩ := h.cur t hb
  have h0 := (G.tx t).1
  have hinc : inc (S.tx t) = S.tx t + 1 := inc_of (by omega) (by omega)
  obtain ⟨E, hE⟩ : ∃ E, S.events = E := ⟨_, rfl⟩
  obtain ⟨e, he⟩ : ∃ e : S53, (⟨(t : Int), S.tx t, S.try_ t, 6, 0, 0⟩ : S53) = e := ⟨_, rfl⟩
  have ee : (Tx.commit S t).events = E ++ [e] := by rw [← hE, ← he]; rfl
  have hcm : cm (E ++ [e]) = cm E ++ [t] := by rw [cm_snoc, ← he]; simp
  have hg : ∀ ops (i : Nat) (x y : Int), tgE ops i x y (E ++ [e]) = tgE ops i x y E := fun ops i x y => by
    rw [tgE_snoc, if_neg (fun hh => by have h3 : e.f3 ≤ 3 := hh.2.2.2; rw [← he] at h3; exact absurd h3 (show ¬ (6 : Int) ≤ 3 by decide))]
  have hnx : (serL T C0 (cm E)).nx t = (S.tx t).toNat := by have := h.nxt t; rw [hE] at this; omega
  have hcells : (Tx.commit S t).cells = sapL S.cells (opsOf T S t) := by
    funext c
    have hs := hV.sim S.cells (fun c hc => by obtain ⟨a, b, d⟩ := hV.rd c hc; exact d (hcf c a hc)) c
    rw [List.take_of_length_le (by omega)] at hs
    exact hs
  have hser : serL T C0 (cm (E ++ [e])) = serO T (serL T C0 (cm E)) t := by rw [hcm, serL_snoc]
  have btx : ∀ i, (Tx.commit S t).tx i = if i = t then S.tx t + 1 else S.tx i := fun i => by
    show up S.tx t (inc (S.tx t)) i = _
    rw [hinc]; rfl
  have btr : ∀ i, (Tx.commit S t).try_ i = if i = t then 1 else S.try_ i := fun i => rfl
  have bbe : ∀ i, (Tx.commit S t).begun i = if i = t then false else S.begun i := fun i => rfl
  refine ⟨?_, fun i => ?_, ?_, fun i a b hi q hq => ?_, fun i a b ha => ?_, fun i hi => ?_, fun i => ?_⟩
  · rw [ee, hser, hcells]
    show _ = sapL (serL T C0 (cm E)).cells (opsAt T t ((serL T C0 (cm E)).nx t))
    rw [hnx, ← hE, ← h.ser]
    rfl
  · rw [ee, hser, btx i]
    show ((up (serL T C0 (cm E)).nx t ((serL T C0 (cm E)).nx t + 1) i : Nat) : Int) = _
    by_cases ei : i = t
    · subst ei; rw [up_self, if_pos rfl, hnx]; omega
    · rw [up_ne _ _ _ _ ei, if_neg ei, ← hE]; exact h.nxt i
  · rw [ee, hcm]
    intro j hj
    by_cases hlt : j < (cm E).length
    · rw [List.getElem_append_left hlt, List.take_append_of_le_length (by omega)]
      have := h.ord j (by rw [hE]; exact hlt)
      simpa only [hE] using this
    · obtain rfl : j = (cm E).length := by simp at hj; omega
      rw [List.getElem_append_right (Nat.le_refl _), List.take_append_of_le_length (Nat.le_refl _), List.take_length]
      simp only [Nat.sub_self, List.getElem_cons_zero]
      rw [hnx]
      exact ⟨ht, by omega⟩
  · rw [ee] at hq
    rw [btx i, btr i, bbe i] at hi
    rcases List.mem_append.1 hq with hq | hq
    · rw [← hE] at hq
      refine h.ids i a b ?_ q hq
      by_cases ei : i = t
      · subst ei
        rw [if_pos rfl, if_pos rfl, if_pos rfl] at hi
        exact .inl (by omega)
      · rw [if_neg ei, if_neg ei, if_neg ei] at hi
        exact hi
    · rw [List.mem_singleton.1 hq, ← he]
      intro hh
      exact absurd hh.2.2.2 (by show ¬ (6 : Int) ≤ 3; decide)
  · rw [ee, hg]
    obtain ⟨k1, k, k2, k3⟩ := h.tog i a b ha
    rw [hE] at k1 k2 k3
    refine ⟨k1, k, by rw [hcm, List.length_append]; omega, fun p hp => ?_⟩
    have := k3 p hp
    unfold stt at this ⊢
    rw [hcm, List.take_append_of_le_length k2]
    exact this
  · rw [bbe i] at hi
    by_cases ei : i = t
    · rw [if_pos ei] at hi; cases hi
    · rw [if_neg ei] at hi
      obtain ⟨U, hU⟩ := h.cur i hi
      have e1 : (Tx.commit S t).at_ i = S.at_ i := up_ne _ _ _ _ ei
      have e2 : (Tx.commit S t).tx i = S.tx i := by rw [btx i, if_neg ei]
      have e3 : (Tx.commit S t).try_ i = S.try_ i := by rw [btr i, if_neg ei]
      have e4 : opsOf T (Tx.commit S t) i = opsOf T S i := by unfold opsOf; rw [e2]
      refine ⟨U, fun c hc => ?_, fun B hB c => ?_, ?_, fun c => ?_, fun p hp => ?_⟩
      · obtain ⟨a, b, d⟩ := hU.rd c hc
        refine ⟨a, ?_, fun hh => ?_⟩
        · show S.read i c ≤ (if S.wrote t c = true then inc (S.vers c) else S.vers c)
          have := G.vr c; have := hv c
          split
          · rw [inc_of (by omega) (by omega)]; omega
          · exact b
        · have hh' : S.read i c = (if S.wrote t c = true then inc (S.vers c) else S.vers c) := hh
          show (if S.wrote t c = true then S.kept t c else S.cells c) = U c
          have := G.vr c; have := hv c
          by_cases w : S.wrote t c = true
          · rw [if_pos w, inc_of (by omega) (by omega)] at hh'
            omega
          · rw [if_neg w] at hh' ⊢
            exact d hh'
      · rw [e4, e1]
        exact hU.sim B hB c
      · rw [e4, e2, e3, ee, hg, e1, ← hE]; exact hU.at_
      · rw [e4, e2, e3, ee, hg, ← hE]; exact hU.wr c
      · rw [e4, e2, e3, ee, hg, ← hE] at hp; exact hU.pr p hp
  · rw [btr i, ee, List.length_append, List.length_singleton]
    have := h.tr i
    rw [hE] at this
    split <;> omega
theorem TI.stepS (h : TI n nc T C0 S) (G : Good n T S) (ok : OpsOK n nc T) (man : Int) (t : Nat) (ht : t < n) (htx : S.tx t < ((thr T t).length : Int)) (hv : ∀ c, S.vers c ≤ 1000000) (hE : S.events.length ≤ 1000000) : TI n nc T C0 (stepS man nc T S t) := by
  have key : ∀ S1 : St, TI n nc T C0 S1 → Good n T S1 → S1.begun t = true → S1.tx t < ((thr T t).length : Int) → (∀ c, S1.vers c ≤ 1000000) → S1.events.length ≤ 1000000 → TI n nc T C0 (step1 man nc T S1 t) := by
    intro S1 h1 G1 hb hlt hv1 hE1
    have hm := ok.ops t _ (opsOf_mem S1 t (G1.tx t).1 hlt)
    have hl := ok.th t
    have hat := G1.at_ t hb
    unfold Tx.step1
    split
    · exact h1.giveUp hE1 t
    rename_i hcf
    have hcf := conf_ok (show conf S1 nc t = false by simpa using hcf)
    split
    · rename_i he
      exact h1.commit G1 t ht hb hcf he hlt hl hv1
    rename_i hne
    have hlt2 : 0 ≤ S1.at_ t ∧ S1.at_ t < ((opsOf T S1 t).length : Int) := ⟨hat.1, by omega⟩
    obtain ⟨hx1, hx2, hx3, -, hx5⟩ := hm.2 _ (getD_mem (opsOf T S1 t) (S1.at_ t).toNat z63 (by omega))
    split
    · obtain ⟨num, d⟩ := actD S1 t ((opsOf T S1 t).getD (S1.at_ t).toNat z63) hx1
      exact h1.act_ G1 t _ num d hx1 (by omega) hb hcf hlt2 rfl hm.1
    obtain ⟨o1, o2, o3, o4, o5, o6, o7, o8⟩ := G1.owned man t ((opsOf T S1 t).getD (S1.at_ t).toNat z63).f1.toNat ht hb
    split
    · rename_i hown
      obtain ⟨num, d⟩ := actD (Tx.own man S1 t ((opsOf T S1 t).getD (S1.at_ t).toNat z63).f1.toNat).2 t ((opsOf T S1 t).getD (S1.at_ t).toNat z63) hx1
      have r1 := o2 hown
      have r2 := o7
      exact (h1.own hE1 man t _).act_ o1 t _ num d hx1 (by omega) r1 (fun c hc h0 => by rw [r2] at h0 ⊢; rw [o5]; exact hcf c hc h0) (by rw [opsOf_tx t o3, o4]; exact hlt2) (by rw [opsOf_tx t o3, o4]) (by rw [opsOf_tx t o3]; exact hm.1)
    · exact h1.own hE1 man t _
  unfold Tx.stepS
  by_cases e : S.begun t = true
  · rw [if_pos e]; exact key S h G e htx hv hE
  · rw [if_neg e]; exact key (Tx.begin_ S t) (h.begin_ t (by simpa using e)) (G.begin_ t) (up_self _ _ _) htx hv hE
end
end Go.Proofs.Ytonhmkllfbagmaa.Tx
