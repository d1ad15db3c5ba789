/- Transactions: what the plain machine keeps. -/
import Derived.Test.YtonhmkllfbagmaaPl
namespace Go.Proofs.Ytonhmkllfbagmaa.Tx
open Go.RowKit Go.Proofs.YtonhmkllfbagmaaW.PrintWords Go.Proofs.Ytonhmkllfbagmaa.PFnExactTxFair
set_option linter.unusedVariables false
set_option linter.unusedSimpArgs false
/-- A work's threads as TxOK lets them in. -/
structure OpsOK (n nc : Nat) (T : List (List (List S63))) : Prop where
  len : T.length = n
  th : ∀ i, (thr T i).length ≤ 8
  ops : ∀ i, ∀ l ∈ thr T i, l.length ≤ 8 ∧ ∀ x ∈ l, (x.f0 = 1 ∨ x.f0 = 2 ∨ x.f0 = 3) ∧ 0 ≤ x.f1 ∧ x.f1 < (nc : Int) ∧ (x.f0 = 1 → x.f2 = 0) ∧ wrap64 x.f2 = x.f2
structure Good (n : Nat) (T : List (List (List S63))) (S : St) : Prop where
  own : ∀ c, S.owners c = -1 ∨ ∃ o : Nat, o < n ∧ S.owners c = (o : Int) ∧ S.begun o = true
  tx : ∀ i, 0 ≤ S.tx i ∧ S.tx i ≤ ((thr T i).length : Int)
  at_ : ∀ i, S.begun i = true → 0 ≤ S.at_ i ∧ S.at_ i ≤ ((opsOf T S i).length : Int)
  st : ∀ i, S.begun i = true → S.started i = true
  rd : ∀ i c, -1 ≤ S.read i c
  vr : ∀ c, 0 ≤ S.vers c
  done : ∀ i, S.done i = S.tx i
  cr : ∀ c, wrap64 (S.cells c) = S.cells c
  kr : ∀ i c, wrap64 (S.kept i c) = S.kept i c
section
variable {n nc : Nat} {T : List (List (List S63))} {S : St}
theorem wrap_wrap (x : Int) : wrap64 (wrap64 x) = wrap64 x := by unfold wrap64; omega
theorem inc_of {x : Int} (h0 : -9223372036854775808 ≤ x) (h : x < 9223372036854775807) : inc x = x + 1 := by unfold inc wrap64; omega
theorem opsOf_mem (S : St) (t : Nat) (h0 : 0 ≤ S.tx t) (h : S.tx t < ((thr T t).length : Int)) : opsOf T S t ∈ thr T t := by
  unfold opsOf
  rw [List.getD_eq_getElem?_getD, List.getElem?_eq_getElem (by omega)]
  exact List.getElem_mem _
theorem Good.event (h : Good n T S) (t : Nat) (a b c : Int) : Good n T (event S t a b c) := ⟨h.own, h.tx, h.at_, h.st, h.rd, h.vr, h.done, h.cr, h.kr⟩
theorem freeO_eq (t : Nat) (f : Nat → Int) (c : Nat) : freeO t f c = -1 ∨ (freeO t f c = f c ∧ f c ≠ (t : Int)) := by
  unfold freeO
  by_cases e : f c = (t : Int)
  · rw [if_pos e]; exact .inl rfl
  · rw [if_neg e]; exact .inr ⟨rfl, e⟩
theorem Good.free (h : Good n T S) (t : Nat) : Good n T (free S t) := by
  refine ⟨fun c => ?_, h.tx, h.at_, h.st, h.rd, h.vr, h.done, h.cr, h.kr⟩
  rcases freeO_eq t S.owners c with e | ⟨e, -⟩
  · exact .inl e
  · rcases h.own c with a | ⟨o, a⟩
    · exact .inl (e.trans a)
    · exact .inr ⟨o, a.1, e.trans a.2.1, a.2.2⟩
theorem Good.giveUp (h : Good n T S) (t : Nat) : Good n T (giveUp S t) := by
  refine ⟨fun c => ?_, h.tx, fun i hi => ?_, fun i hi => ?_, h.rd, h.vr, h.done, h.cr, h.kr⟩
  · rcases freeO_eq t S.owners c with e | ⟨e, hne⟩
    · exact .inl e
    · rcases h.own c with a | ⟨o, a⟩
      · exact .inl (e.trans a)
      · refine .inr ⟨o, a.1, e.trans a.2.1, ?_⟩
        have : o ≠ t := fun hh => hne (by rw [a.2.1, hh])
        show up S.begun t false o = true
        rw [up_ne _ _ _ _ this]
        exact a.2.2
  · have hi' : up S.begun t false i = true := hi
    by_cases e : i = t
    · subst e; rw [up_self] at hi'; cases hi'
    · rw [up_ne _ _ _ _ e] at hi'; exact h.at_ i hi'
  · have hi' : up S.begun t false i = true := hi
    by_cases e : i = t
    · subst e; rw [up_self] at hi'; cases hi'
    · rw [up_ne _ _ _ _ e] at hi'; exact h.st i hi'
theorem Good.setOwn (h : Good n T S) (t c : Nat) (ht : t < n) (hb : S.begun t = true) : Good n T { S with owners := up S.owners c (t : Int) } := by
  refine ⟨fun m => ?_, h.tx, h.at_, h.st, h.rd, h.vr, h.done, h.cr, h.kr⟩
  by_cases e : m = c
  · subst e; exact .inr ⟨t, ht, up_self _ _ _, hb⟩
  · show up S.owners c (t : Int) m = -1 ∨ ∃ o : Nat, o < n ∧ up S.owners c (t : Int) m = (o : Int) ∧ S.begun o = true
    rw [up_ne _ _ _ _ e]
    exact h.own m
/-- What a try's owning leaves. -/
theorem Good.owned (h : Good n T S) (man : Int) (t c : Nat) (ht : t < n) (hb : S.begun t = true) :
    Good n T (Tx.own man S t c).2 ∧ ((Tx.own man S t c).1 = true → (Tx.own man S t c).2.begun t = true) ∧ (Tx.own man S t c).2.tx = S.tx ∧ (Tx.own man S t c).2.at_ = S.at_ ∧ (Tx.own man S t c).2.vers = S.vers ∧ (Tx.own man S t c).2.events.length ≤ S.events.length + 1 ∧ (Tx.own man S t c).2.read = S.read ∧ (Tx.own man S t c).2.goes = S.goes := by
  unfold Tx.own
  by_cases h1 : S.owners c = -1 ∨ S.owners c = (t : Int)
  · rw [if_pos h1]
    exact ⟨h.setOwn t c ht hb, fun _ => hb, rfl, rfl, rfl, Nat.le_succ _, rfl, rfl⟩
  rw [if_neg h1]
  by_cases h2 : man = 3 ∧ S.start (S.owners c).toNat ≤ S.start t
  · rw [if_pos h2]
    exact ⟨h.event _ _ _ _, fun _ => hb, rfl, rfl, rfl, by simp [Tx.event], rfl, rfl⟩
  rw [if_neg h2]
  by_cases h3 : man = 2 ∨ man = 3 ∨ (man = 4 ∧ S.weight (S.owners c).toNat < S.weight t)
  · rw [if_pos h3]
    rcases h.own c with a | ⟨o, ho, a, -⟩
    · exact absurd (.inl a) h1
    · have hne : t ≠ o := fun e => h1 (.inr (by rw [a, e]))
      have e : (S.owners c).toNat = o := by omega
      rw [e]
      have hb2 : (Tx.giveUp S o).begun t = true := by
        show up S.begun o false t = true
        rw [up_ne _ _ _ _ hne]; exact hb
      exact ⟨(h.giveUp o).setOwn t c ht hb2, fun _ => hb2, rfl, rfl, rfl, by simp [Tx.giveUp, Tx.event, Tx.free], rfl, rfl⟩
  · rw [if_neg h3]
    exact ⟨h.giveUp t, fun hh => (by cases hh), rfl, rfl, rfl, by simp [Tx.giveUp, Tx.event, Tx.free], rfl, rfl⟩
theorem Good.see (h : Good n T S) (t c : Nat) : Good n T (see S t c).2 ∧ wrap64 (see S t c).1 = (see S t c).1 := by
  unfold Tx.see
  by_cases e : S.wrote t c = true
  · rw [if_pos e]; exact ⟨h, h.kr t c⟩
  · rw [if_neg e]
    refine ⟨⟨h.own, h.tx, h.at_, h.st, fun i m => ?_, h.vr, h.done, h.cr, h.kr⟩, h.cr c⟩
    show -1 ≤ up S.read t (up (S.read t) c (S.vers c)) i m
    unfold up
    have := h.vr c
    have h2 := h.rd i m; have h3 := h.rd t m
    split
    · dsimp only
      split <;> omega
    · exact h2
theorem Good.put (h : Good n T S) (t c : Nat) (num : Int) (hn : wrap64 num = num) : Good n T (put_ S t c num) := by
  refine ⟨h.own, h.tx, h.at_, h.st, h.rd, h.vr, h.done, h.cr, fun i m => ?_⟩
  show wrap64 (up S.kept t (up (S.kept t) c num) i m) = up S.kept t (up (S.kept t) c num) i m
  unfold up
  split
  · dsimp only
    split
    · exact hn
    · exact h.kr t m
  · exact h.kr i m
theorem Good.adv (h : Good n T S) (t : Nat) (hl : S.begun t = true → S.at_ t < ((opsOf T S t).length : Int)) (hl2 : (opsOf T S t).length ≤ 8) : Good n T (adv S t) := by
  refine ⟨h.own, h.tx, fun i hi => ?_, h.st, h.rd, h.vr, h.done, h.cr, h.kr⟩
  show 0 ≤ up S.at_ t (inc (S.at_ t)) i ∧ up S.at_ t (inc (S.at_ t)) i ≤ ((opsOf T S i).length : Int)
  by_cases e : i = t
  · subst e
    have a := h.at_ i hi
    have b := hl hi
    rw [up_self, inc_of (by omega) (by omega)]
    omega
  · rw [up_ne _ _ _ _ e]
    exact h.at_ i hi
theorem Good.begin_ (h : Good n T S) (t : Nat) : Good n T (begin_ S t) := by
  refine ⟨fun c => ?_, h.tx, fun i hi => ?_, fun i hi => ?_, fun i m => ?_, h.vr, h.done, h.cr, fun i m => ?_⟩
  · rcases h.own c with a | ⟨o, a⟩
    · exact .inl a
    · refine .inr ⟨o, a.1, a.2.1, ?_⟩
      show up S.begun t true o = true
      unfold up; split
      · rfl
      · exact a.2.2
  · show 0 ≤ up S.at_ t 0 i ∧ up S.at_ t 0 i ≤ ((opsOf T S i).length : Int)
    by_cases e : i = t
    · subst e; rw [up_self]; omega
    · rw [up_ne _ _ _ _ e]
      have hi' : up S.begun t true i = true := hi
      rw [up_ne _ _ _ _ e] at hi'
      exact h.at_ i hi'
  · show up S.started t true i = true
    by_cases e : i = t
    · subst e; rw [up_self]
    · rw [up_ne _ _ _ _ e]
      have hi' : up S.begun t true i = true := hi
      rw [up_ne _ _ _ _ e] at hi'
      exact h.st i hi'
  · show -1 ≤ up S.read t (fun _ => -1) i m
    unfold up; split
    · show (-1 : Int) ≤ -1
      omega
    · exact h.rd i m
  · show wrap64 (up S.kept t (fun _ => 0) i m) = up S.kept t (fun _ => 0) i m
    unfold up; split
    · show wrap64 0 = 0
      unfold wrap64; omega
    · exact h.kr i m
theorem Good.commit (h : Good n T S) (t : Nat) (hl : (thr T t).length ≤ 8) (ht : S.tx t < ((thr T t).length : Int)) (hv : ∀ c, S.vers c ≤ 1000000) : Good n T (commit S t) := by
  have h0 := h.tx t
  refine ⟨fun c => ?_, fun i => ?_, fun i hi => ?_, fun i hi => ?_, h.rd, fun c => ?_, fun i => ?_, fun c => ?_, h.kr⟩
  · rcases freeO_eq t S.owners c with e | ⟨e, hne⟩
    · exact .inl e
    · rcases h.own c with a | ⟨o, a⟩
      · exact .inl (e.trans a)
      · refine .inr ⟨o, a.1, e.trans a.2.1, ?_⟩
        have : o ≠ t := fun hh => hne (by rw [a.2.1, hh])
        show up S.begun t false o = true
        rw [up_ne _ _ _ _ this]
        exact a.2.2
  · show 0 ≤ up S.tx t (inc (S.tx t)) i ∧ up S.tx t (inc (S.tx t)) i ≤ ((thr T i).length : Int)
    by_cases e : i = t
    · subst e; rw [up_self, inc_of (by omega) (by omega)]; omega
    · rw [up_ne _ _ _ _ e]; exact h.tx i
  · have hi' : up S.begun t false i = true := hi
    by_cases e : i = t
    · subst e; rw [up_self] at hi'; cases hi'
    · rw [up_ne _ _ _ _ e] at hi'
      have a := h.at_ i hi'
      show 0 ≤ up S.at_ t 0 i ∧ up S.at_ t 0 i ≤ (((thr T i).getD (up S.tx t (inc (S.tx t)) i).toNat []).length : Int)
      rw [up_ne _ _ _ _ e, up_ne _ _ _ _ e]
      exact a
  · have hi' : up S.begun t false i = true := hi
    by_cases e : i = t
    · subst e; rw [up_self] at hi'; cases hi'
    · rw [up_ne _ _ _ _ e] at hi'
      show up S.started t false i = true
      rw [up_ne _ _ _ _ e]
      exact h.st i hi'
  · show 0 ≤ (if S.wrote t c = true then inc (S.vers c) else S.vers c)
    have a := h.vr c; have b := hv c
    split
    · rw [inc_of (by omega) (by omega)]; omega
    · exact a
  · show up S.done t (inc (S.done t)) i = up S.tx t (inc (S.tx t)) i
    rw [h.done t]
    unfold up; split
    · rfl
    · exact h.done i
  · show wrap64 (if S.wrote t c = true then S.kept t c else S.cells c) = (if S.wrote t c = true then S.kept t c else S.cells c)
    split
    · exact h.kr t c
    · exact h.cr c
theorem opsOf_tx {T : List (List (List S63))} {S S' : St} (t : Nat) (h : S'.tx = S.tx) : opsOf T S' t = opsOf T S t := by unfold opsOf; rw [h]
theorem see_same (S : St) (t c : Nat) : (see S t c).2.begun = S.begun ∧ (see S t c).2.tx = S.tx ∧ (see S t c).2.at_ = S.at_ ∧ (see S t c).2.vers = S.vers ∧ (see S t c).2.events = S.events ∧ (see S t c).2.goes = S.goes := by
  unfold Tx.see
  split <;> exact ⟨rfl, rfl, rfl, rfl, rfl, rfl⟩
theorem Good.act (h : Good n T S) (t : Nat) (x : S63) (hl : S.begun t = true → S.at_ t < ((opsOf T S t).length : Int)) (hl2 : (opsOf T S t).length ≤ 8) (hx : wrap64 x.f2 = x.f2) :
    Good n T (act S t x) ∧ (act S t x).vers = S.vers ∧ (act S t x).events.length = S.events.length + 1 ∧ (act S t x).goes = S.goes := by
  obtain ⟨e1, e2, e3, e4, e5, e6⟩ := see_same S t x.f1.toNat
  have hs := h.see t x.f1.toNat
  have key : (Tx.see S t x.f1.toNat).2.begun t = true → (Tx.see S t x.f1.toNat).2.at_ t < ((opsOf T (Tx.see S t x.f1.toNat).2 t).length : Int) := by
    unfold opsOf; rw [e1, e2, e3]; exact hl
  have key2 : (opsOf T (Tx.see S t x.f1.toNat).2 t).length ≤ 8 := by unfold opsOf; rw [e2]; exact hl2
  unfold Tx.act
  split
  · exact ⟨(hs.1.event _ _ _ _).adv t key key2, e4, by show (Tx.event _ _ _ _ _).events.length = _; simp [Tx.event, e5], e6⟩
  · split
    · exact ⟨((h.put t _ _ hx).event _ _ _ _).adv t hl hl2, rfl, by show (Tx.event _ _ _ _ _).events.length = _; simp [Tx.event, put_], rfl⟩
    · exact ⟨((hs.1.put t _ _ (wrap_wrap _)).event _ _ _ _).adv t key key2, e4, by show (Tx.event _ _ _ _ _).events.length = _; simp [Tx.event, put_, e5], e6⟩
theorem getD_mem {α : Type} (l : List α) (k : Nat) (z : α) (h : k < l.length) : l.getD k z ∈ l := by
  rw [List.getD_eq_getElem?_getD, List.getElem?_eq_getElem h]
  exact List.getElem_mem _
theorem Good.step1 (h : Good n T S) (ok : OpsOK n nc T) (man : Int) (t : Nat) (ht : t < n) (hb : S.begun t = true) (htx : S.tx t < ((thr T t).length : Int)) (hv : ∀ c, S.vers c ≤ 1000000) :
    Good n T (step1 man nc T S t) ∧ (∀ c, (step1 man nc T S t).vers c ≤ S.vers c + 1) ∧ (step1 man nc T S t).events.length ≤ S.events.length + 2 ∧ (step1 man nc T S t).goes = S.goes := by
  have hm := ok.ops t _ (opsOf_mem S t (h.tx t).1 htx)
  have hat := h.at_ t hb
  unfold Tx.step1
  split
  · exact ⟨h.giveUp t, fun c => by show S.vers c ≤ _; omega, by simp [Tx.giveUp, Tx.event, Tx.free], rfl⟩
  split
  · refine ⟨h.commit t (ok.th t) htx hv, fun c => ?_, by simp [Tx.commit, Tx.event, Tx.free], rfl⟩
    show (if S.wrote t c = true then inc (S.vers c) else S.vers c) ≤ _
    have a := h.vr c; have b := hv c
    split
    · rw [inc_of (by omega) (by omega)]; omega
    · omega
  rename_i hne
  have hlt : S.at_ t < ((opsOf T S t).length : Int) := by omega
  have hx := (hm.2 _ (getD_mem (opsOf T S t) (S.at_ t).toNat z63 (by omega))).2.2.2.2
  split
  · obtain ⟨a, b, c, d⟩ := h.act t ((opsOf T S t).getD (S.at_ t).toNat z63) (fun _ => hlt) hm.1 hx
    exact ⟨a, fun c => by rw [b]; omega, by omega, d⟩
  obtain ⟨o1, o2, o3, o4, o5, o6, -, o8⟩ := h.owned man t ((opsOf T S t).getD (S.at_ t).toNat z63).f1.toNat ht hb
  split
  · rename_i ho
    obtain ⟨a, b, c, d⟩ := o1.act t ((opsOf T S t).getD (S.at_ t).toNat z63) (fun _ => by rw [opsOf_tx t o3, o4]; exact hlt) (by rw [opsOf_tx t o3]; exact hm.1) hx
    exact ⟨a, fun c => by rw [b, o5]; omega, by omega, d.trans o8⟩
  · exact ⟨o1, fun c => by rw [o5]; omega, by omega, o8⟩
theorem Good.stepS (h : Good n T S) (ok : OpsOK n nc T) (man : Int) (t : Nat) (ht : t < n) (htx : S.tx t < ((thr T t).length : Int)) (hv : ∀ c, S.vers c ≤ 1000000) :
    Good n T (stepS man nc T S t) ∧ (∀ c, (stepS man nc T S t).vers c ≤ S.vers c + 1) ∧ (stepS man nc T S t).events.length ≤ S.events.length + 2 ∧ (stepS man nc T S t).goes = S.goes := by
  unfold Tx.stepS
  by_cases e : S.begun t = true
  · rw [if_pos e]
    exact h.step1 ok man t ht e htx hv
  · rw [if_neg e]
    exact (h.begin_ t).step1 ok man t ht (up_self _ _ _) htx hv
end
/-! goes in turn -/
structure FS where
  S : St
  out : List Int
  some_ : Bool
def goOne (man : Int) (nc : Nat) (T : List (List (List S63))) (most : Int) (x : FS) (t : Nat) : FS :=
  if (x.out.length : Int) < most ∧ x.S.tx t < ((thr T t).length : Int) then ⟨{ stepS man nc T x.S t with goes := inc (stepS man nc T x.S t).goes }, x.out ++ [(t : Int)], true⟩ else x
def part (man : Int) (nc : Nat) (T : List (List (List S63))) (most : Int) (x : FS) (k : Nat) : FS := (List.range k).foldl (goOne man nc T most) ⟨x.S, x.out, false⟩
theorem part_succ (man : Int) (nc : Nat) (T : List (List (List S63))) (most : Int) (x : FS) (k : Nat) : part man nc T most x (k + 1) = goOne man nc T most (part man nc T most x k) k := by
  unfold part; rw [List.range_succ, List.foldl_append]; rfl
def rnd (man : Int) (nc : Nat) (T : List (List (List S63))) (most : Int) (S0 : St) : Nat → FS
  | 0 => ⟨S0, [], true⟩
  | k + 1 => part man nc T most (rnd man nc T most S0 k) T.length
/-- A state of goes in turn. -/
structure GoodF (n : Nat) (T : List (List (List S63))) (most : Int) (x : FS) : Prop where
  g : Good n T x.S
  len : (x.out.length : Int) ≤ most
  goes : x.S.goes = (x.out.length : Int)
  vr : ∀ c, x.S.vers c ≤ (x.out.length : Int)
  ev : x.S.events.length ≤ 2 * x.out.length
section
variable {n nc : Nat} {T : List (List (List S63))} {man most : Int} {x : FS}
theorem GoodF.go (h : GoodF n T most x) (ok : OpsOK n nc T) (hm : most ≤ 200) (t : Nat) (ht : t < n) : GoodF n T most (goOne man nc T most x t) := by
  unfold goOne
  split
  · rename_i hc
    obtain ⟨a, b, c, d⟩ := h.g.stepS ok man t ht hc.2 (fun c => by have := h.vr c; omega)
    have hl : (x.out ++ [(t : Int)]).length = x.out.length + 1 := by simp
    refine ⟨⟨a.own, a.tx, a.at_, a.st, a.rd, a.vr, a.done, a.cr, a.kr⟩, ?_, ?_, fun c => ?_, ?_⟩
    · rw [hl]; omega
    · show inc (stepS man nc T x.S t).goes = _
      rw [d, h.goes, hl, inc_of (by omega) (by omega)]; omega
    · show (stepS man nc T x.S t).vers c ≤ _
      rw [hl]; have := b c; have := h.vr c; omega
    · show (stepS man nc T x.S t).events.length ≤ _
      rw [hl]; have := h.ev; omega
  · exact h
theorem GoodF.part (h : GoodF n T most x) (ok : OpsOK n nc T) (hm : most ≤ 200) : ∀ k, k ≤ n → GoodF n T most (part man nc T most x k)
  | 0, _ => ⟨h.g, h.len, h.goes, h.vr, h.ev⟩
  | k + 1, hk => by rw [part_succ]; exact (GoodF.part h ok hm k (by omega)).go ok hm k (by omega)
theorem GoodF.rnd {S0 : St} (h : GoodF n T most ⟨S0, [], true⟩) (ok : OpsOK n nc T) (hm : most ≤ 200) : ∀ k, GoodF n T most (rnd man nc T most S0 k)
  | 0 => h
  | k + 1 => (GoodF.rnd h ok hm k).part ok hm _ (Nat.le_of_eq ok.len)
/-- The flag says whether a go was. -/
theorem part_flag (man : Int) (nc : Nat) (T : List (List (List S63))) (most : Int) (x : FS) : ∀ k, ((part man nc T most x k).some_ = true → x.out.length < (part man nc T most x k).out.length) ∧ ((part man nc T most x k).some_ = false → part man nc T most x k = ⟨x.S, x.out, false⟩) ∧ x.out.length ≤ (part man nc T most x k).out.length
  | 0 => ⟨fun h => (by cases h), fun _ => rfl, Nat.le_refl _⟩
  | k + 1 => by
    obtain ⟨a, b, c⟩ := part_flag man nc T most x k
    rw [part_succ]
    unfold goOne
    split
    · refine ⟨fun _ => ?_, (fun h => by cases h), ?_⟩ <;> (simp; omega)
    · exact ⟨a, b, c⟩
/-- Goes in turn that have come to an end. -/
def IsFair (man : Int) (nc : Nat) (T : List (List (List S63))) (most : Int) (S0 : St) (x : FS) : Prop := ∃ k, rnd man nc T most S0 k = x ∧ x.some_ = false
theorem rnd_stay {S0 : St} {k : Nat} (h : (rnd man nc T most S0 k).some_ = false) : ∀ d, rnd man nc T most S0 (k + d) = rnd man nc T most S0 k
  | 0 => rfl
  | d + 1 => by
    have e := rnd_stay h d
    show part man nc T most (rnd man nc T most S0 (k + d)) T.length = _
    rw [e]
    match k, h with
    | k + 1, h =>
      have h2 := (part_flag man nc T most (rnd man nc T most S0 k) T.length).2.1 h
      have e2 : rnd man nc T most S0 (k + 1) = ⟨(rnd man nc T most S0 k).S, (rnd man nc T most S0 k).out, false⟩ := h2
      rw [e2]
      exact h2
theorem IsFair.ex {S0 : St} (h : GoodF n T most ⟨S0, [], true⟩) (ok : OpsOK n nc T) (hm : most ≤ 200) : ∃ x, IsFair man nc T most S0 x := by
  by_cases hh : ∃ k, (Tx.rnd man nc T most S0 k).some_ = false
  · obtain ⟨k, hk⟩ := hh; exact ⟨_, k, rfl, hk⟩
  · have ht : ∀ k, (Tx.rnd man nc T most S0 k).some_ = true := fun k => by
      by_cases e : (Tx.rnd man nc T most S0 k).some_ = true
      · exact e
      · exact absurd ⟨k, by simpa using e⟩ hh
    have hl : ∀ k, k ≤ (Tx.rnd man nc T most S0 k).out.length := fun k => by
      induction k with
      | zero => exact Nat.zero_le _
      | succ k ih =>
        have := (part_flag man nc T most (Tx.rnd man nc T most S0 k) T.length).1 (ht (k + 1))
        exact Nat.lt_of_le_of_lt ih this
    have h1 := hl 201
    have h2 := (h.rnd (man := man) ok hm 201).len
    omega
end
end Go.Proofs.Ytonhmkllfbagmaa.Tx
