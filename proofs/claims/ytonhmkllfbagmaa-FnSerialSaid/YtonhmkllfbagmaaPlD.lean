/- Transactions: every schedule is serial. Plain. -/
import Derived.Test.YtonhmkllfbagmaaPlC
namespace Go.Proofs.Ytonhmkllfbagmaa.Tx
open Go.RowKit Go.Proofs.YtonhmkllfbagmaaW.PrintWords Go.Proofs.Ytonhmkllfbagmaa.PFnExactTxFair
set_option linter.unusedVariables false
set_option linter.unusedSimpArgs false
/-! transactions one behind the other -/
def sap (B : Nat → Int) (o : S63) : Nat → Int := if o.f0 = 2 then up B o.f1.toNat o.f2 else if o.f0 = 3 then up B o.f1.toNat (wrap64 (B o.f1.toNat + o.f2)) else B
def sapL (B : Nat → Int) (ops : List S63) : Nat → Int := ops.foldl sap B
structure SQ where
  cells : Nat → Int
  nx : Nat → Nat
def opsAt (T : List (List (List S63))) (t x : Nat) : List S63 := (thr T t).getD x []
def serO (T : List (List (List S63))) (q : SQ) (t : Nat) : SQ := ⟨sapL q.cells (opsAt T t (q.nx t)), up q.nx t (q.nx t + 1)⟩
def serL (T : List (List (List S63))) (C0 : Nat → Int) (ord : List Nat) : SQ := ord.foldl (serO T) ⟨C0, fun _ => 0⟩
theorem serL_snoc (T : List (List (List S63))) (C0 : Nat → Int) (ord : List Nat) (t : Nat) : serL T C0 (ord ++ [t]) = serO T (serL T C0 ord) t := by unfold serL; rw [List.foldl_append]; rfl
/-- The threads of the commits, in their order. -/
def cm (E : List S53) : List Nat := (E.filter (fun e => decide (e.f3 = 6))).map (fun e => e.f0.toNat)
theorem cm_snoc (E : List S53) (e : S53) : cm (E ++ [e]) = if e.f3 = 6 then cm E ++ [e.f0.toNat] else cm E := by
  unfold cm
  rw [List.filter_append, List.map_append]
  by_cases h : e.f3 = 6
  · simp [h]
  · simp [h]
/-! what a try has read -/
structure TG where
  at_ : Nat
  ok : Bool
  pairs : List (Nat × Int)
  wrote : Nat → Bool
def tg0 : TG := ⟨0, true, [], fun _ => false⟩
def tgStep (ops : List S63) (s : TG) (e : S53) : TG :=
  ⟨s.at_ + 1, s.ok && decide (s.at_ < ops.length ∧ (ops.getD s.at_ z63).f0 = e.f3 ∧ (ops.getD s.at_ z63).f1 = e.f4),
   if (ops.getD s.at_ z63).f0 ≠ 2 ∧ s.wrote (ops.getD s.at_ z63).f1.toNat = false then s.pairs ++ [((ops.getD s.at_ z63).f1.toNat, wrap64 (e.f5 - (ops.getD s.at_ z63).f2))] else s.pairs,
   if (ops.getD s.at_ z63).f0 ≠ 1 then up s.wrote (ops.getD s.at_ z63).f1.toNat true else s.wrote⟩
def idm (t x y : Int) (e : S53) : Prop := e.f0 = t ∧ e.f1 = x ∧ e.f2 = y ∧ e.f3 ≤ 3
instance (t x y : Int) (e : S53) : Decidable (idm t x y e) := inferInstanceAs (Decidable (_ ∧ _ ∧ _ ∧ _))
def tgE (ops : List S63) (t x y : Int) (E : List S53) : TG := E.foldl (fun s e => if idm t x y e then tgStep ops s e else s) tg0
theorem tgE_snoc (ops : List S63) (t x y : Int) (E : List S53) (e : S53) : tgE ops t x y (E ++ [e]) = if idm t x y e then tgStep ops (tgE ops t x y E) e else tgE ops t x y E := by unfold tgE; rw [List.foldl_append]; rfl
theorem tgE_none (ops : List S63) (t x y : Int) (E : List S53) (h : ∀ e ∈ E, ¬ idm t x y e) : tgE ops t x y E = tg0 := by
  unfold tgE
  generalize tg0 = s
  induction E generalizing s with
  | nil => rfl
  | cons e E ih =>
    rw [List.foldl_cons, if_neg (h e (by simp))]
    exact ih (fun a ha => h a (by simp [ha])) s
theorem tgE_ok (ops : List S63) (t x y : Int) (E F : List S53) : (tgE ops t x y (E ++ F)).ok = true → (tgE ops t x y E).ok = true := by
  unfold tgE
  rw [List.foldl_append]
  generalize E.foldl _ tg0 = s
  induction F generalizing s with
  | nil => exact id
  | cons e F ih =>
    intro h
    rw [List.foldl_cons] at h
    have := ih _ h
    split at this
    · unfold tgStep at this
      simp only [Bool.and_eq_true] at this
      exact this.1
    · exact this
/-! what holds of work as it stands -/
structure Cur (nc : Nat) (T : List (List (List S63))) (S : St) (t : Nat) (V : Nat → Int) : Prop where
  rd : ∀ c, 0 ≤ S.read t c → c < nc ∧ S.read t c ≤ S.vers c ∧ (S.read t c = S.vers c → S.cells c = V c)
  sim : ∀ B : Nat → Int, (∀ c, 0 ≤ S.read t c → B c = V c) → ∀ c, (if S.wrote t c = true then S.kept t c else B c) = sapL B ((opsOf T S t).take (S.at_ t).toNat) c
  at_ : ((tgE (opsOf T S t) t (S.tx t) (S.try_ t) S.events).at_ : Int) = S.at_ t
  wr : ∀ c, (tgE (opsOf T S t) t (S.tx t) (S.try_ t) S.events).wrote c = S.wrote t c
  pr : ∀ p ∈ (tgE (opsOf T S t) t (S.tx t) (S.try_ t) S.events).pairs, 0 ≤ S.read t p.1 ∧ V p.1 = p.2
def stt (T : List (List (List S63))) (C0 : Nat → Int) (E : List S53) (k : Nat) : Nat → Int := (serL T C0 ((cm E).take k)).cells
def OrdOK (n : Nat) (T : List (List (List S63))) (C0 : Nat → Int) (L : List Nat) : Prop := ∀ j (h : j < L.length), L[j] < n ∧ (serL T C0 (L.take j)).nx L[j] < (thr T L[j]).length
structure TI (n nc : Nat) (T : List (List (List S63))) (C0 : Nat → Int) (S : St) : Prop where
  ser : S.cells = (serL T C0 (cm S.events)).cells
  nxt : ∀ t, ((serL T C0 (cm S.events)).nx t : Int) = S.tx t
  ord : OrdOK n T C0 (cm S.events)
  ids : ∀ (t : Nat) (x y : Int), (S.tx t < x ∨ (x = S.tx t ∧ S.try_ t < y) ∨ (x = S.tx t ∧ y = S.try_ t ∧ S.begun t = false)) → ∀ e ∈ S.events, ¬ idm t x y e
  tog : ∀ (t : Nat) (x y : Int), 0 ≤ x → (tgE (opsAt T t x.toNat) t x y S.events).ok = true ∧ ∃ k, k ≤ (cm S.events).length ∧ ∀ p ∈ (tgE (opsAt T t x.toNat) t x y S.events).pairs, stt T C0 S.events k p.1 = p.2
  cur : ∀ t, S.begun t = true → ∃ V, Cur nc T S t V
  tr : ∀ t, 1 ≤ S.try_ t ∧ S.try_ t ≤ 1 + (S.events.length : Int)
section
variable {n nc : Nat} {T : List (List (List S63))} {C0 : Nat → Int} {S : St}
/-- An event that is neither a commit nor a touch. -/
theorem TI.event (h : TI n nc T C0 S) (t : Nat) (op cell num : Int) (h4 : 4 ≤ op) (h6 : op ≠ 6) : TI n nc T C0 (event S t op cell num) := by
  have hc : cm (S.events ++ [⟨(t : Int), S.tx t, S.try_ t, op, cell, num⟩]) = cm S.events := by rw [cm_snoc, if_neg h6]
  have hg : ∀ ops (i : Nat) (x y : Int), tgE ops i x y (S.events ++ [⟨(t : Int), S.tx t, S.try_ t, op, cell, num⟩]) = tgE ops i x y S.events := fun ops i x y => by
    rw [tgE_snoc, if_neg (fun hh => by have h3 : op ≤ 3 := hh.2.2.2; omega)]
  refine ⟨?_, ?_, ?_, fun i x y hi e he => ?_, fun i x y hx => ?_, fun i hi => ?_, fun i => ?_⟩
  · show S.cells = (serL T C0 (cm (S.events ++ _))).cells
    rw [hc]; exact h.ser
  · show ∀ i, ((serL T C0 (cm (S.events ++ _))).nx i : Int) = S.tx i
    rw [hc]; exact h.nxt
  · show OrdOK n T C0 (cm (S.events ++ _))
    rw [hc]; exact h.ord
  · rcases List.mem_append.1 he with he | he
    · exact h.ids i x y hi e he
    · rw [List.mem_singleton.1 he]
      intro hh
      have h3 : op ≤ 3 := hh.2.2.2
      omega
  · show (tgE _ i x y (S.events ++ _)).ok = true ∧ ∃ k, k ≤ (cm (S.events ++ _)).length ∧ ∀ p ∈ (tgE _ i x y (S.events ++ _)).pairs, (serL T C0 ((cm (S.events ++ _)).take k)).cells p.1 = p.2
    rw [hg, hc]
    exact h.tog i x y hx
  · obtain ⟨V, hV⟩ := h.cur i hi
    refine ⟨V, hV.rd, hV.sim, ?_, ?_, ?_⟩
    · show ((tgE (opsOf T S i) i (S.tx i) (S.try_ i) (S.events ++ _)).at_ : Int) = S.at_ i
      rw [hg]; exact hV.at_
    · show ∀ c, (tgE (opsOf T S i) i (S.tx i) (S.try_ i) (S.events ++ _)).wrote c = S.wrote i c
      rw [hg]; exact hV.wr
    · show ∀ p ∈ (tgE (opsOf T S i) i (S.tx i) (S.try_ i) (S.events ++ _)).pairs, 0 ≤ S.read i p.1 ∧ V p.1 = p.2
      rw [hg]; exact hV.pr
  · have := h.tr i
    show 1 ≤ S.try_ i ∧ S.try_ i ≤ 1 + ((S.events ++ [_]).length : Int)
    rw [List.length_append, List.length_singleton]
    omega
theorem TI.own_ (h : TI n nc T C0 S) (f : Nat → Int) : TI n nc T C0 { S with owners := f } := ⟨h.ser, h.nxt, h.ord, h.ids, h.tog, fun t ht => by obtain ⟨V, hV⟩ := h.cur t ht; exact ⟨V, hV.rd, hV.sim, hV.at_, hV.wr, hV.pr⟩, h.tr⟩
theorem TI.giveUp (h : TI n nc T C0 S) (hE : S.events.length ≤ 1000000) (t : Nat) : TI n nc T C0 (giveUp S t) := by
  have h1 := (h.event t 4 0 0 (by decide) (by decide)).own_ (freeO t S.owners)
  have ht := h.tr t
  have hinc : inc (S.try_ t) = S.try_ t + 1 := inc_of (by omega) (by omega)
  refine ⟨h1.ser, h1.nxt, h1.ord, fun i x y hi e he => ?_, h1.tog, fun i hi => ?_, fun i => ?_⟩
  · by_cases ei : i = t
    · subst ei
      have hi' : S.tx i < x ∨ (x = S.tx i ∧ up S.try_ i (inc (S.try_ i)) i < y) ∨ (x = S.tx i ∧ y = up S.try_ i (inc (S.try_ i)) i ∧ up S.begun i false i = false) := hi
      rw [up_self, up_self, hinc] at hi'
      refine h1.ids i x y ?_ e he
      show S.tx i < x ∨ (x = S.tx i ∧ S.try_ i < y) ∨ _
      rcases hi' with a | ⟨a, b⟩ | ⟨a, b, -⟩
      · exact .inl a
      · exact .inr (.inl ⟨a, by omega⟩)
      · exact .inr (.inl ⟨a, by omega⟩)
    · have hi' : S.tx i < x ∨ (x = S.tx i ∧ up S.try_ t (inc (S.try_ t)) i < y) ∨ (x = S.tx i ∧ y = up S.try_ t (inc (S.try_ t)) i ∧ up S.begun t false i = false) := hi
      rw [up_ne _ _ _ _ ei, up_ne _ _ _ _ ei] at hi'
      exact h1.ids i x y hi' e he
  · have hi' : up S.begun t false i = true := hi
    by_cases ei : i = t
    · subst ei; rw [up_self] at hi'; cases hi'
    · rw [up_ne _ _ _ _ ei] at hi'
      obtain ⟨V, hV⟩ := h1.cur i hi'
      have e1 : up S.try_ t (inc (S.try_ t)) i = S.try_ i := up_ne _ _ _ _ ei
      refine ⟨V, hV.rd, hV.sim, ?_, ?_, ?_⟩
      · show ((tgE (opsOf T S i) i (S.tx i) (up S.try_ t (inc (S.try_ t)) i) _).at_ : Int) = S.at_ i
        rw [e1]; exact hV.at_
      · show ∀ c, (tgE (opsOf T S i) i (S.tx i) (up S.try_ t (inc (S.try_ t)) i) _).wrote c = S.wrote i c
        rw [e1]; exact hV.wr
      · show ∀ p ∈ (tgE (opsOf T S i) i (S.tx i) (up S.try_ t (inc (S.try_ t)) i) _).pairs, 0 ≤ S.read i p.1 ∧ V p.1 = p.2
        rw [e1]; exact hV.pr
  · show 1 ≤ up S.try_ t (inc (S.try_ t)) i ∧ up S.try_ t (inc (S.try_ t)) i ≤ 1 + ((S.events ++ [_]).length : Int)
    rw [List.length_append, List.length_singleton]
    have := h.tr i
    by_cases ei : i = t
    · subst ei; rw [up_self, hinc]; omega
    · rw [up_ne _ _ _ _ ei]; omega
theorem TI.own (h : TI n nc T C0 S) (hE : S.events.length ≤ 1000000) (man : Int) (t c : Nat) : TI n nc T C0 (own man S t c).2 := by
  unfold Tx.own
  split
  · exact h.own_ _
  · split
    · exact h.event t 5 _ _ (by decide) (by decide)
    · split
      · exact (h.giveUp hE _).own_ _
      · exact h.giveUp hE t
theorem TI.begin_ (h : TI n nc T C0 S) (t : Nat) (hb : S.begun t = false) : TI n nc T C0 (begin_ S t) := by
  refine ⟨h.ser, h.nxt, h.ord, fun i x y hi e he => ?_, h.tog, fun i hi => ?_, h.tr⟩
  · refine h.ids i x y ?_ e he
    have hi' : S.tx i < x ∨ (x = S.tx i ∧ S.try_ i < y) ∨ (x = S.tx i ∧ y = S.try_ i ∧ up S.begun t true i = false) := hi
    rcases hi' with a | a | ⟨a, b, c⟩
    · exact .inl a
    · exact .inr (.inl a)
    · refine .inr (.inr ⟨a, b, ?_⟩)
      by_cases ei : i = t
      · subst ei; exact hb
      · rwa [up_ne _ _ _ _ ei] at c
  · by_cases ei : i = t
    · subst ei
      have hno := h.ids i (S.tx i) (S.try_ i) (.inr (.inr ⟨rfl, rfl, hb⟩))
      have hg := tgE_none (opsOf T S i) i (S.tx i) (S.try_ i) S.events hno
      have e1 : (Tx.begin_ S i).read i = fun _ => -1 := up_self _ _ _
      have e2 : (Tx.begin_ S i).wrote i = fun _ => false := up_self _ _ _
      have e3 : (Tx.begin_ S i).at_ i = 0 := up_self _ _ _
      refine ⟨fun _ => 0, fun c hc => ?_, fun B hB c => ?_, ?_, fun c => ?_, fun p hp => ?_⟩
      · rw [e1] at hc; exact absurd hc (show ¬ (0 : Int) ≤ -1 by decide)
      · rw [e2, e3]; rfl
      · show ((tgE (opsOf T S i) i (S.tx i) (S.try_ i) S.events).at_ : Int) = (Tx.begin_ S i).at_ i
        rw [hg, e3]; rfl
      · show (tgE (opsOf T S i) i (S.tx i) (S.try_ i) S.events).wrote c = (Tx.begin_ S i).wrote i c
        rw [hg, e2]; rfl
      · have hp' : p ∈ (tgE (opsOf T S i) i (S.tx i) (S.try_ i) S.events).pairs := hp
        rw [hg] at hp'
        cases hp'
    · have hi' : up S.begun t true i = true := hi
      rw [up_ne _ _ _ _ ei] at hi'
      obtain ⟨V, hV⟩ := h.cur i hi'
      have e1 : (Tx.begin_ S t).read i = S.read i := up_ne _ _ _ _ ei
      have e2 : (Tx.begin_ S t).wrote i = S.wrote i := up_ne _ _ _ _ ei
      have e3 : (Tx.begin_ S t).at_ i = S.at_ i := up_ne _ _ _ _ ei
      have e4 : (Tx.begin_ S t).kept i = S.kept i := up_ne _ _ _ _ ei
      refine ⟨V, fun c hc => ?_, fun B hB c => ?_, ?_, fun c => ?_, fun p hp => ?_⟩
      · rw [e1] at hc ⊢; exact hV.rd c hc
      · rw [e2, e3, e4]
        exact hV.sim B (fun c hc => hB c (by rw [e1]; exact hc)) c
      · rw [e3]; exact hV.at_
      · rw [e2]; exact hV.wr c
      · rw [e1]; exact hV.pr p hp
end
end Go.Proofs.Ytonhmkllfbagmaa.Tx
