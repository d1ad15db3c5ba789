/- Transactions: a run told by its goes; commits in order. Plain. -/
import Derived.Test.YtonhmkllfbagmaaPlB
import Derived.Test.YtonhmkllfbagmaaRunI
namespace Go.Proofs.Ytonhmkllfbagmaa.Tx
open Go.RowKit Go.Proofs.YtonhmkllfbagmaaW.PrintWords Go.Proofs.Ytonhmkllfbagmaa.PFnExactTxFair
set_option linter.unusedVariables false
set_option linter.unusedSimpArgs false
/-! commits, one behind the other -/
/-- How many of the first k events are commits of thread t. -/
def nx : List S53 → Nat → Nat → Int
  | [], _, _ => 0
  | e :: E, 0, _ => 0
  | e :: E, k + 1, t => (if e.f3 = 6 ∧ e.f0 = (t : Int) then 1 else 0) + nx E k t
theorem nx_zero (E : List S53) (t : Nat) : nx E 0 t = 0 := by cases E <;> rfl
theorem nx_append (E F : List S53) (t : Nat) : ∀ k, k ≤ E.length → nx (E ++ F) k t = nx E k t := by
  induction E with
  | nil => intro k hk; simp at hk; subst hk; rw [nx_zero, nx_zero]
  | cons e E ih =>
    intro k hk
    cases k with
    | zero => rw [nx_zero, nx_zero]
    | succ k => simp only [List.cons_append, nx]; rw [ih k (by simpa using hk)]
theorem nx_succ (E : List S53) (t : Nat) : ∀ k (h : k < E.length), nx E (k + 1) t = nx E k t + (if E[k].f3 = 6 ∧ E[k].f0 = (t : Int) then 1 else 0) := by
  induction E with
  | nil => intro k h; exact absurd h (by simp)
  | cons e E ih =>
    intro k h
    cases k with
    | zero => simp [nx, nx_zero]
    | succ k =>
      have := ih k (by simpa using h)
      simp only [nx, List.getElem_cons_succ] at this ⊢
      rw [this]; omega
/-- Each commit's transaction is the number of its thread's commits ahead of it; tx are the numbers of all. -/
structure CX (n : Nat) (E : List S53) (tx : Nat → Int) : Prop where
  th : ∀ k (h : k < E.length), E[k].f3 = 6 → ∃ t : Nat, t < n ∧ E[k].f0 = (t : Int) ∧ nx E k t = E[k].f1
  tx : ∀ t, t < n → nx E E.length t = tx t
theorem CX.snoc {n : Nat} {E : List S53} {tx tx' : Nat → Int} {e : S53} (h : CX n E tx) (he : e.f3 = 6 → ∃ t : Nat, t < n ∧ e.f0 = (t : Int) ∧ tx t = e.f1) (ht : ∀ t, t < n → tx' t = tx t + (if e.f3 = 6 ∧ e.f0 = (t : Int) then 1 else 0)) : CX n (E ++ [e]) tx' := by
  refine ⟨fun k hk hc => ?_, fun t hn => ?_⟩
  · by_cases hlt : k < E.length
    · rw [List.getElem_append_left hlt] at hc ⊢
      obtain ⟨t, a, b, c⟩ := h.th k hlt hc
      exact ⟨t, a, b, (nx_append E [e] t k (Nat.le_of_lt hlt)).trans c⟩
    · obtain rfl : k = E.length := by simp at hk; omega
      rw [List.getElem_append_right (Nat.le_refl _)] at hc ⊢
      simp only [Nat.sub_self, List.getElem_cons_zero] at hc ⊢
      obtain ⟨t, a, b, c⟩ := he hc
      exact ⟨t, a, b, ((nx_append E [e] t _ (Nat.le_refl _)).trans (h.tx t a)).trans c⟩
  · rw [List.length_append, List.length_singleton, nx_succ _ _ _ (by simp), nx_append E [e] t _ (Nat.le_refl _), h.tx t hn, ht t hn]
    rw [List.getElem_append_right (Nat.le_refl _)]
    simp
theorem CX.other {n : Nat} {E : List S53} {tx : Nat → Int} {e : S53} (h : CX n E tx) (he : e.f3 ≠ 6) : CX n (E ++ [e]) tx :=
  h.snoc (fun c => absurd c he) (fun t _ => by rw [if_neg (fun c => he c.1)]; omega)
def CS (n : Nat) (S : St) : Prop := CX n S.events S.tx
section
variable {n nc : Nat} {T : List (List (List S63))} {S : St}
theorem CS.event (h : CS n S) (t : Nat) (op cell num : Int) (ho : op ≠ 6) : CS n (event S t op cell num) := CX.other h ho
theorem CS.giveUp (h : CS n S) (t : Nat) : CS n (giveUp S t) := CX.other h (by show (4 : Int) ≠ 6; decide)
theorem CS.see (h : CS n S) (t c : Nat) : CS n (see S t c).2 := by unfold Tx.see; split <;> exact h
theorem CS.act (h : CS n S) (t : Nat) (x : S63) (hx : x.f0 = 1 ∨ x.f0 = 2 ∨ x.f0 = 3) : CS n (act S t x) := by
  have hne : x.f0 ≠ 6 := by omega
  unfold Tx.act
  split
  · exact (h.see t x.f1.toNat).event t x.f0 _ _ hne
  · split
    · exact CS.event (S := put_ S t x.f1.toNat x.f2) h t x.f0 _ _ hne
    · exact CS.event (S := put_ (Tx.see S t x.f1.toNat).2 t x.f1.toNat _) (h.see t x.f1.toNat) t x.f0 _ _ hne
theorem CS.own (h : CS n S) (man : Int) (t c : Nat) : CS n (own man S t c).2 := by
  unfold Tx.own
  split
  · exact h
  · split
    · exact h.event t 5 _ _ (by decide)
    · split
      · exact h.giveUp _
      · exact h.giveUp t
theorem CS.commit (h : CS n S) (t : Nat) (ht : t < n) (h0 : 0 ≤ S.tx t) (h1 : S.tx t ≤ 1000) : CS n (commit S t) := by
  have hi : inc (S.tx t) = S.tx t + 1 := inc_of (by omega) (by omega)
  refine CX.snoc (e := ⟨(t : Int), S.tx t, S.try_ t, 6, 0, 0⟩) h (fun _ => ⟨t, ht, rfl, rfl⟩) (fun i hi2 => ?_)
  show up S.tx t (inc (S.tx t)) i = _
  by_cases e : i = t
  · subst e; rw [up_self, hi, if_pos ⟨rfl, rfl⟩]
  · rw [up_ne _ _ _ _ e, if_neg (fun c => e (by have h2 : (t : Int) = (i : Int) := c.2; omega))]; omega
theorem CS.stepS (h : CS n S) (G : Good n T S) (ok : OpsOK n nc T) (man : Int) (t : Nat) (ht : t < n) (htx : S.tx t < ((thr T t).length : Int)) : CS n (stepS man nc T S t) := by
  have key : ∀ S1 : St, CS n S1 → Good n T S1 → S1.begun t = true → S1.tx t < ((thr T t).length : Int) → CS n (step1 man nc T S1 t) := by
    intro S1 h1 G1 hb hlt
    have hm := ok.ops t _ (opsOf_mem S1 t (G1.tx t).1 hlt)
    have hl := ok.th t
    have hat := G1.at_ t hb
    unfold Tx.step1
    split
    · exact h1.giveUp t
    split
    · exact h1.commit t ht (G1.tx t).1 (by omega)
    rename_i hne
    have hx := (hm.2 _ (getD_mem (opsOf T S1 t) (S1.at_ t).toNat z63 (by omega))).1
    split
    · exact h1.act t _ hx
    split
    · exact (h1.own man t _).act t _ hx
    · exact h1.own man t _
  unfold Tx.stepS
  by_cases e : S.begun t = true
  · rw [if_pos e]; exact key S h G e htx
  · rw [if_neg e]; exact key (Tx.begin_ S t) h (G.begin_ t) (up_self _ _ _) htx
end
/-! a run told by its goes -/
def stepG (man : Int) (nc : Nat) (T : List (List (List S63))) (S : St) (t : Nat) : St := { stepS man nc T S t with goes := inc (stepS man nc T S t).goes }
def runN (man : Int) (nc : Nat) (T : List (List (List S63))) (S0 : St) (L : List Int) : Nat → St
  | 0 => S0
  | k + 1 => stepG man nc T (runN man nc T S0 L k) (L.getD k 0).toNat
/-- Goes that may be, each at its time. -/
def Lg (n : Nat) (man : Int) (nc : Nat) (T : List (List (List S63))) (S0 : St) (L : List Int) : Prop := ∀ k, k < L.length → ∃ t : Nat, L.getD k 0 = (t : Int) ∧ t < n ∧ (runN man nc T S0 L k).tx t < ((thr T t).length : Int)
section
variable {n nc : Nat} {T : List (List (List S63))} {man most : Int} {S0 : St}
theorem getD_left (L F : List Int) (k : Nat) (h : k < L.length) : (L ++ F).getD k 0 = L.getD k 0 := by
  rw [List.getD_eq_getElem?_getD, List.getD_eq_getElem?_getD, List.getElem?_append_left h]
theorem getD_last (L : List Int) (x : Int) : (L ++ [x]).getD L.length 0 = x := by
  rw [List.getD_eq_getElem?_getD, List.getElem?_append_right (Nat.le_refl _)]; simp
theorem runN_append (L F : List Int) : ∀ k, k ≤ L.length → runN man nc T S0 (L ++ F) k = runN man nc T S0 L k
  | 0, _ => rfl
  | k + 1, h => by
    show stepG man nc T (runN man nc T S0 (L ++ F) k) _ = stepG man nc T (runN man nc T S0 L k) _
    rw [runN_append L F k (by omega), getD_left L F k (by omega)]
/-- What goes in turn tell is a run. -/
def Told (n : Nat) (man : Int) (nc : Nat) (T : List (List (List S63))) (S0 : St) (x : FS) : Prop := Lg n man nc T S0 x.out ∧ x.S = runN man nc T S0 x.out x.out.length
theorem Told.go {x : FS} (h : Told n man nc T S0 x) (t : Nat) (ht : t < n) : Told n man nc T S0 (goOne man nc T most x t) := by
  unfold goOne
  split
  · rename_i hc
    obtain ⟨h1, h2⟩ := h
    refine ⟨fun k hk => ?_, ?_⟩
    · simp only [List.length_append, List.length_singleton] at hk
      by_cases e : k < x.out.length
      · obtain ⟨u, a, b, c⟩ := h1 k e
        refine ⟨u, (getD_left _ _ k e).trans a, b, ?_⟩
        rw [runN_append _ _ k (Nat.le_of_lt e)]
        exact c
      · obtain rfl : k = x.out.length := by omega
        refine ⟨t, getD_last _ _, ht, ?_⟩
        rw [runN_append _ _ _ (Nat.le_refl _), ← h2]
        exact hc.2
    · show _ = runN man nc T S0 (x.out ++ [(t : Int)]) (x.out ++ [(t : Int)]).length
      rw [List.length_append, List.length_singleton]
      show _ = stepG man nc T (runN man nc T S0 (x.out ++ [(t : Int)]) x.out.length) ((x.out ++ [(t : Int)]).getD x.out.length 0).toNat
      rw [runN_append _ _ _ (Nat.le_refl _), getD_last, ← h2]
      rfl
  · exact h
theorem Told.part {x : FS} (h : Told n man nc T S0 x) (hn : T.length = n) : ∀ k, k ≤ T.length → Told n man nc T S0 (part man nc T most x k)
  | 0, _ => h
  | k + 1, hk => by
    rw [part_succ]
    exact (Told.part h hn k (by omega)).go k (by omega)
theorem Told.rnd (hn : T.length = n) : ∀ k, Told n man nc T S0 (rnd man nc T most S0 k)
  | 0 => ⟨fun k hk => absurd hk (Nat.not_lt_zero k), rfl⟩
  | k + 1 => (Told.rnd hn k).part hn T.length (Nat.le_refl _)
theorem IsFair.told {x : FS} (hx : IsFair man nc T most S0 x) (hn : T.length = n) : Told n man nc T S0 x := by
  obtain ⟨k, rfl, -⟩ := hx
  exact Told.rnd hn k
structure RG (n : Nat) (T : List (List (List S63))) (k : Nat) (S : St) : Prop where
  g : Good n T S
  vr : ∀ c, S.vers c ≤ (k : Int)
  ev : S.events.length ≤ 2 * k
  cx : CS n S
theorem RG.run {L : List Int} (h0 : RG n T 0 S0) (ok : OpsOK n nc T) (hL : Lg n man nc T S0 L) (hl : L.length ≤ 1000) : ∀ k, k ≤ L.length → RG n T k (runN man nc T S0 L k)
  | 0, _ => h0
  | k + 1, hk => by
    have ih := RG.run h0 ok hL hl k (by omega)
    obtain ⟨t, e, ht, htx⟩ := hL k (by omega)
    have hs : runN man nc T S0 L (k + 1) = stepG man nc T (runN man nc T S0 L k) t := by
      show stepG man nc T (runN man nc T S0 L k) (L.getD k 0).toNat = _
      rw [e, Int.toNat_natCast]
    obtain ⟨a, b, c, -⟩ := ih.g.stepS ok man t ht htx (fun c => by have := ih.vr c; omega)
    have cx := ih.cx.stepS ih.g ok man t ht htx
    rw [hs]
    exact ⟨⟨a.own, a.tx, a.at_, a.st, a.rd, a.vr, a.done, a.cr, a.kr⟩, fun c => by have h1 := b c; have h2 := ih.vr c; show (stepS man nc T (runN man nc T S0 L k) t).vers c ≤ _; omega, by have := ih.ev; show (stepS man nc T (runN man nc T S0 L k) t).events.length ≤ _; omega, cx⟩
/-- Where goes end ahead of the most, all is done. -/
theorem IsFair.all {x : FS} (hx : IsFair man nc T most S0 x) (hl : (x.out.length : Int) < most) : ∀ t, t < T.length → ¬ x.S.tx t < ((thr T t).length : Int) := by
  obtain ⟨k, rfl, hk⟩ := hx
  intro t ht hlt
  have hst := rnd_stay hk 1
  have key : ∀ j, j ≤ T.length → (part man nc T most (Tx.rnd man nc T most S0 k) j).out.length ≤ (part man nc T most (Tx.rnd man nc T most S0 k) T.length).out.length := by
    have mono : ∀ d j, j + d = T.length → (part man nc T most (Tx.rnd man nc T most S0 k) j).out.length ≤ (part man nc T most (Tx.rnd man nc T most S0 k) (j + d)).out.length := by
      intro d
      induction d with
      | zero => intro j _; exact Nat.le_refl _
      | succ d ih =>
        intro j hj
        have h1 := ih (j + 1) (by omega)
        rw [show j + 1 + d = j + (d + 1) by omega] at h1
        refine Nat.le_trans ?_ h1
        rw [part_succ]
        unfold goOne
        split
        · simp
        · exact Nat.le_refl _
    intro j hj
    have := mono (T.length - j) j (by omega)
    rw [show j + (T.length - j) = T.length by omega] at this
    exact this
  have hend : part man nc T most (Tx.rnd man nc T most S0 k) T.length = Tx.rnd man nc T most S0 k := hst
  have hpt : ∀ j, j ≤ t → part man nc T most (Tx.rnd man nc T most S0 k) j = ⟨(Tx.rnd man nc T most S0 k).S, (Tx.rnd man nc T most S0 k).out, false⟩ := by
    intro j
    induction j with
    | zero => intro _; rfl
    | succ j ih =>
      intro hj
      have hp := ih (by omega)
      rw [part_succ, hp]
      unfold goOne
      split
      · rename_i hc
        have h1 := key (j + 1) (by omega)
        rw [part_succ, hp, hend] at h1
        unfold goOne at h1
        rw [if_pos hc] at h1
        simp only [List.length_append, List.length_singleton] at h1
        omega
      · rfl
  have h2 := key (t + 1) (by omega)
  rw [part_succ, hpt t (Nat.le_refl _), hend] at h2
  unfold goOne at h2
  rw [if_pos ⟨hl, hlt⟩] at h2
  simp only [List.length_append, List.length_singleton] at h2
  omega
end
end Go.Proofs.Ytonhmkllfbagmaa.Tx
