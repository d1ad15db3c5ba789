/- Transactions: what the law of serial schedules needs beside. Plain. -/
import Derived.Test.YtonhmkllfbagmaaSri
namespace Go.Proofs.Ytonhmkllfbagmaa.Tx
open Go.RowKit Go.Proofs.YtonhmkllfbagmaaW.PrintWords Go.Proofs.Ytonhmkllfbagmaa.PFnExactTxFair
set_option linter.unusedVariables false
set_option linter.unusedSimpArgs false
/-! tries are few -/
structure TB (S : St) : Prop where
  tr : ∀ t, 1 ≤ S.try_ t ∧ S.try_ t ≤ 1 + (S.events.length : Int)
  ev : ∀ e ∈ S.events, e.f2 ≤ 1 + (S.events.length : Int)
theorem TB.same {S S' : St} (h : TB S) (h1 : S'.try_ = S.try_) (h2 : S'.events = S.events) : TB S' := ⟨by rw [h1, h2]; exact h.tr, by rw [h2]; exact h.ev⟩
theorem TB.event {S : St} (h : TB S) (t : Nat) (op cell num : Int) : TB (Tx.event S t op cell num) := by
  have hl : ((Tx.event S t op cell num).events.length : Int) = (S.events.length : Int) + 1 := by
    show ((S.events ++ [_]).length : Int) = _
    rw [List.length_append, List.length_singleton]; omega
  refine ⟨fun i => ?_, fun e he => ?_⟩
  · rw [hl]; have := h.tr i; show 1 ≤ S.try_ i ∧ S.try_ i ≤ _; omega
  · rw [hl]
    rcases List.mem_append.1 he with he | he
    · have := h.ev e he; omega
    · rw [List.mem_singleton.1 he]; have := h.tr t; show S.try_ t ≤ _; omega
theorem TB.giveUp {S : St} (h : TB S) (hE : S.events.length ≤ 1000000) (t : Nat) : TB (Tx.giveUp S t) := by
  have h1 := h.event t 4 0 0
  have hl : ((Tx.event S t 4 0 0).events.length : Int) = (S.events.length : Int) + 1 := by
    show ((S.events ++ [_]).length : Int) = _
    rw [List.length_append, List.length_singleton]; omega
  have ht := h.tr t
  have hinc : inc (S.try_ t) = S.try_ t + 1 := inc_of (by omega) (by omega)
  refine ⟨fun i => ?_, h1.ev⟩
  show 1 ≤ up S.try_ t (inc (S.try_ t)) i ∧ up S.try_ t (inc (S.try_ t)) i ≤ 1 + ((Tx.event S t 4 0 0).events.length : Int)
  rw [hl]
  by_cases e : i = t
  · subst e; rw [up_self, hinc]; omega
  · rw [up_ne _ _ _ _ e]; have := h.tr i; omega
theorem TB.own {S : St} (h : TB S) (hE : S.events.length ≤ 1000000) (man : Int) (t c : Nat) : TB (Tx.own man S t c).2 := by
  unfold Tx.own
  split
  · exact h.same rfl rfl
  · split
    · exact h.event _ _ _ _
    · split
      · exact (h.giveUp hE _).same rfl rfl
      · exact h.giveUp hE _
theorem TB.see {S : St} (h : TB S) (t c : Nat) : TB (Tx.see S t c).2 := by
  unfold Tx.see
  split
  · exact h
  · exact h.same rfl rfl
theorem TB.act {S : St} (h : TB S) (t : Nat) (x : S63) : TB (Tx.act S t x) := by
  unfold Tx.act
  split
  · exact ((h.see t _).event t _ _ _).same rfl rfl
  · split
    · exact ((h.same (S' := put_ S t x.f1.toNat x.f2) rfl rfl).event t _ _ _).same rfl rfl
    · exact (((h.see t _).same (S' := put_ (Tx.see S t x.f1.toNat).2 t x.f1.toNat _) rfl rfl).event t _ _ _).same rfl rfl
theorem TB.commit {S : St} (h : TB S) (t : Nat) : TB (Tx.commit S t) := by
  have h1 := h.event t 6 0 0
  refine ⟨fun i => ?_, h1.ev⟩
  show 1 ≤ up S.try_ t 1 i ∧ up S.try_ t 1 i ≤ 1 + ((Tx.event S t 6 0 0).events.length : Int)
  by_cases e : i = t
  · subst e; rw [up_self]; omega
  · rw [up_ne _ _ _ _ e]; exact h1.tr i
theorem TB.stepS {S : St} (h : TB S) (hE : S.events.length ≤ 1000000) (man : Int) (nc : Nat) (T : List (List (List S63))) (t : Nat) : TB (Tx.stepS man nc T S t) := by
  have key : ∀ S1 : St, TB S1 → S1.events.length ≤ 1000000 → TB (step1 man nc T S1 t) := by
    intro S1 h1 hE1
    unfold step1
    split
    · exact h1.giveUp hE1 t
    · split
      · exact h1.commit t
      · split
        · exact h1.act t _
        · split
          · exact (h1.own hE1 _ _ _).act t _
          · exact h1.own hE1 _ _ _
  unfold Tx.stepS
  split
  · exact key S h hE
  · exact key _ (h.same rfl rfl) hE
theorem TB.run {n nc : Nat} {T : List (List (List S63))} {man : Int} {C : List Int} {L : List Int} (h0 : RG n T 0 (st0 C)) (ok : OpsOK n nc T) (hL : Lg n man nc T (st0 C) L) (hl : L.length ≤ 1000) : ∀ k, k ≤ L.length → TB (runN man nc T (st0 C) L k)
  | 0, _ => ⟨fun t => ⟨Int.le_refl _, Int.le_refl _⟩, fun e he => (by cases he)⟩
  | k + 1, hk => by
    have ih := TB.run h0 ok hL hl k (by omega)
    have hg := RG.run h0 ok hL hl k (by omega)
    have := ih.stepS (by have := hg.ev; omega) man nc T (L.getD k 0).toNat
    exact this.same rfl rfl
/-! orders of commits -/
theorem cm_take (E : List S53) (k : Nat) (h : k < E.length) : cm (E.take (k + 1)) = if E[k].f3 = 6 then cm (E.take k) ++ [E[k].f0.toNat] else cm (E.take k) := by
  rw [List.take_add_one, List.getElem?_eq_getElem h]
  exact cm_snoc _ _
theorem cm_app (E G : List S53) : cm (E ++ G) = cm E ++ cm G := by unfold cm; rw [List.filter_append, List.map_append]
theorem cm_pre (E : List S53) (k : Nat) : cm (E.take k) = (cm E).take (cm (E.take k)).length := by
  have h : cm E = cm (E.take k) ++ cm (E.drop k) := by rw [← cm_app, List.take_append_drop]
  rw [h, List.take_left']
  rfl
theorem cm_le (E : List S53) : (cm E).length ≤ E.length := by unfold cm; rw [List.length_map]; exact List.length_filter_le _ _
theorem OrdOK.pre {n : Nat} {T : List (List (List S63))} {C0 : Nat → Int} {L : List Nat} (h : OrdOK n T C0 L) (m : Nat) : OrdOK n T C0 (L.take m) := by
  intro j hj
  have hj2 : j < L.length := by rw [List.length_take] at hj; omega
  have hjm : j < m := by rw [List.length_take] at hj; omega
  have := h j hj2
  rw [List.getElem_take, List.take_take, Nat.min_eq_left (by omega)]
  exact this
/-! the states behind the commits -/
def sts (nc m : Nat) (F : Nat → Nat → Int) : List (List Int) := (List.range (m + 1)).map (fun k => row nc (F k))
theorem sts_len (nc m : Nat) (F : Nat → Nat → Int) : (sts nc m F).length = m + 1 := by simp [sts]
theorem sts_snoc (nc m : Nat) (F : Nat → Nat → Int) : sts nc (m + 1) F = sts nc m F ++ [row nc (F (m + 1))] := by unfold sts; rw [List.range_succ (n := m + 1), List.map_append]; rfl
theorem row_self (C : List Int) : row C.length (fun k => C.getD k 0) = C := by
  unfold row
  apply List.ext_getElem
  · simp
  · intro i h1 h2
    simp only [List.getElem_map, List.getElem_range]
    rw [List.getD_eq_getElem?_getD, List.getElem?_eq_getElem h2]; rfl
/-! the cells that a try has read -/
theorem tg_cells (ops : List S63) (t x y : Int) (P : Nat → Prop) (hP : ∀ o ∈ ops, P o.f1.toNat) (E : List S53) (hok : (tgE ops t x y E).ok = true) : ∀ p ∈ (tgE ops t x y E).pairs, P p.1 := by
  suffices H : ∀ k, k ≤ E.length → ∀ p ∈ (tgE ops t x y (E.take k)).pairs, P p.1 by
    have := H E.length (Nat.le_refl _)
    rwa [List.take_length] at this
  intro k
  induction k with
  | zero => intro _ p hp; cases hp
  | succ k ih =>
    intro hk p hp
    have ih := ih (by omega)
    have hok1 : (tgE ops t x y (E.take (k + 1))).ok = true := by
      rw [← List.take_append_drop (k + 1) E] at hok
      exact tgE_ok _ _ _ _ _ _ hok
    have hs : tgE ops t x y (E.take (k + 1)) = if idm t x y E[k] then tgStep ops (tgE ops t x y (E.take k)) E[k] else tgE ops t x y (E.take k) := by
      rw [List.take_add_one, List.getElem?_eq_getElem (by omega)]
      exact tgE_snoc _ _ _ _ _ _
    rw [hs] at hp hok1
    split at hp
    · rename_i hid
      rw [if_pos hid] at hok1
      unfold tgStep at hp hok1
      simp only [Bool.and_eq_true, decide_eq_true_eq] at hok1
      obtain ⟨-, hat, -, -⟩ := hok1
      dsimp only at hp
      split at hp
      · rcases List.mem_append.1 hp with hp | hp
        · exact ih p hp
        · rw [List.mem_singleton.1 hp]
          exact hP _ (getD_mem _ _ _ hat)
      · exact ih p hp
    · exact ih p hp
/-- What the law needs of a run that may be. -/
structure SW (C : List Int) (T : List (List (List S63))) (S : St) : Prop where
  le : S.events.length ≤ 240
  f2 : ∀ e ∈ S.events, e.f2 ≤ 1000
  th : ∀ k (h : k < S.events.length), S.events[k].f3 = 6 → ∃ t : Nat, t < T.length ∧ S.events[k].f0 = (t : Int)
  ord : ∀ k, OrdOK T.length T (fun k => C.getD k 0) (cm (S.events.take k))
  last : row C.length S.cells = row C.length (stt T (fun k => C.getD k 0) S.events (cm S.events).length)
  fst : C = row C.length (stt T (fun k => C.getD k 0) S.events 0)
  tog : ∀ (t x : Nat) (y : Int), t < T.length → x < (thr T t).length → (tgE (opsAt T t x) t x y S.events).ok = true ∧ ∃ k, k ≤ (cm S.events).length ∧ ∀ p ∈ (tgE (opsAt T t x) t x y S.events).pairs, p.1 < C.length ∧ stt T (fun k => C.getD k 0) S.events k p.1 = p.2
theorem sw {T : List (List (List S63))} {man : Int} {C : List Int} {L : List Int} (h0 : RG T.length T 0 (st0 C)) (ok : OpsOK T.length C.length T) (hL : Lg T.length man C.length T (st0 C) L) (hl : L.length ≤ 120) : SW C T (runN man C.length T (st0 C) L L.length) := by
  have h1 := TI.run h0 ok hL (by omega) L.length (Nat.le_refl _)
  have h2 := RG.run h0 ok hL (by omega) L.length (Nat.le_refl _)
  have h3 := TB.run h0 ok hL (by omega) L.length (Nat.le_refl _)
  generalize runN man C.length T (st0 C) L L.length = S at h1 h2 h3
  have hev := h2.ev
  refine ⟨by omega, fun e he => by have := h3.ev e he; omega, fun k h hc => ?_, fun k => ?_, ?_, ?_, fun t x y ht hx => ?_⟩
  · obtain ⟨t, a, b, -⟩ := h2.cx.th k h hc
    exact ⟨t, a, b⟩
  · rw [cm_pre]; exact h1.ord.pre _
  · rw [h1.ser]; unfold stt; rw [List.take_length]
  · exact (row_self C).symm
  · have h4 := h1.tog t (x : Int) y (Int.natCast_nonneg _)
    rw [Int.toNat_natCast] at h4
    obtain ⟨a, k, b, c⟩ := h4
    refine ⟨a, k, b, fun p hp => ⟨?_, c p hp⟩⟩
    refine tg_cells _ _ _ _ (fun i => i < C.length) (fun o ho => ?_) _ a p hp
    have := (ok.ops t (opsAt T t x) (by unfold opsAt; rw [List.getD_eq_getElem?_getD, List.getElem?_eq_getElem hx]; exact List.getElem_mem _)).2 o ho
    omega
end Go.Proofs.Ytonhmkllfbagmaa.Tx
