/- TxFair, plain: what the law's helpers answer; a work that is right. -/
import Derived.Test.YtonhmkllfbagmaaPFnExactTxFairx1
import Derived.Test.YtonhmkllfbagmaaPFnExactTxFairx2
import Derived.Test.YtonhmkllfbagmaaPFnExactTxFairx3
import Derived.Test.YtonhmkllfbagmaaPFnExactTxFairx4
import Derived.Test.YtonhmkllfbagmaaPFnExactTxFairx5
import Derived.Test.YtonhmkllfbagmaaPFnExactTxFairx7
import Derived.Test.YtonhmkllfbagmaaPFnExactTxFairx8
import Derived.Test.YtonhmkllfbagmaaPFnExactTxFairx9
import Derived.Test.YtonhmkllfbagmaaRunI
import Derived.Test.YtonhmkllfbagmaaPlB
namespace Go.Proofs.Ytonhmkllfbagmaa.PureTxFair
open Go.RowKit Go.Proofs.Ytonhmkllfbagmaa.PFnExactTxFair Go.Proofs.YtonhmkllfbagmaaW.PrintWords
set_option linter.unusedVariables false
set_option linter.unusedSimpArgs false

theorem getD_at {α : Type} (l : List α) (n : Nat) (z : α) (h : n < l.length) : l.getD (n : Int).toNat z = l[n] := by
  rw [List.getD_eq_getElem?_getD, Int.toNat_natCast, List.getElem?_eq_getElem h]; rfl
theorem wrap_succ (n : Nat) (h : n ≤ 1048576) : wrap64 ((n : Int) + 1) = ((n + 1 : Nat) : Int) := by unfold wrap64; omega

/-- A loop over the places of a row: what it answers from each place on. -/
theorem scan {γ : Type} (len : Nat) (F : Nat → Int → Option γ) (R : Nat → γ) (hend : Ev (fun k => F k (len : Int)) (R len))
    (hstep : ∀ n, n < len → Ev (fun k => F k ((n + 1 : Nat) : Int)) (R (n + 1)) → Ev (fun k => F k (n : Int)) (R n)) : ∀ n, n ≤ len → Ev (fun k => F k (n : Int)) (R n) := by
  have key : ∀ d n, n + d = len → Ev (fun k => F k (n : Int)) (R n) := by
    intro d
    induction d with
    | zero => intro n hn; rw [show n = len by omega]; exact hend
    | succ d ih => intro n hn; exact hstep n (by omega) (ih (n + 1) (by omega))
  intro n hn
  exact key (len - n) n (by omega)

/-! the size -/
/-! what right work is -/
def opB (cells : Nat) (c : S63) : Bool := decide (1 ≤ c.f0 ∧ c.f0 ≤ 3) && decide (0 ≤ c.f1 ∧ c.f1 < (cells : Int)) && (c.f0 != 1 || c.f2 == 0)
def txB (cells : Nat) (l : List S63) : Bool := decide (l.length ≤ 8) && l.all (opB cells)
def thB (cells : Nat) (l : List (List S63)) : Bool := decide (l.length ≤ 8) && l.all (txB cells)
def workB (C : List Int) (M : Int) (T : List (List (List S63))) : Bool := decide (1 ≤ C.length ∧ C.length ≤ 8 ∧ 1 ≤ T.length ∧ T.length ≤ 4 ∧ 1 ≤ M ∧ M ≤ 4) && T.all (thB C.length)

theorem opB_no {cells : Nat} {c : S63} (h : ¬ ((1 ≤ c.f0 ∧ c.f0 ≤ 3) ∧ (0 ≤ c.f1 ∧ c.f1 < (cells : Int)) ∧ (c.f0 = 1 → c.f2 = 0))) : opB cells c = false := by
  cases e : opB cells c with
  | false => rfl
  | true =>
    exfalso; apply h
    simp [opB] at e
    refine ⟨by omega, by omega, fun h1 => ?_⟩
    rcases e.2 with h2 | h2
    · exact absurd h1 h2
    · exact h2
theorem opB_yes {cells : Nat} {c : S63} (h : ((1 ≤ c.f0 ∧ c.f0 ≤ 3) ∧ (0 ≤ c.f1 ∧ c.f1 < (cells : Int)) ∧ (c.f0 = 1 → c.f2 = 0))) : opB cells c = true := by
  simp [opB]
  refine ⟨⟨by omega, by omega⟩, ?_⟩
  by_cases h1 : c.f0 = 1
  · exact .inr (h.2.2 h1)
  · exact .inl h1

theorem all_at {α : Type} (l : List α) (p : α → Bool) (n : Nat) (h : n < l.length) : (l.drop n).all p = (p l[n] && (l.drop (n + 1)).all p) := by
  rw [List.drop_eq_getElem_cons h, List.all_cons]
theorem all_end {α : Type} (l : List α) (p : α → Bool) : (l.drop l.length).all p = true := by simp

/-! the reference -/

theorem spec2 (C : List Int) (M : Int) (T : List (List (List S63))) (hx : ∀ x ∈ T, x.length ≤ 1048576 ∧ ∀ y ∈ x, y.length ≤ 1048576) (i j : Nat) (hi : i < T.length) (hj : j < T[i].length) (r : Bool) (h1 : Ev (fun k => spec_TxOK.l1 k (i : Int) ((j + 1 : Nat) : Int) C M T) r) :
    ∀ n, n ≤ T[i][j].length → Ev (fun k => spec_TxOK.l2 k (i : Int) (j : Int) (n : Int) C M T) ((T[i][j].drop n).all (opB C.length) && r) := by
  have e1 : rd_L6 T (i : Int) = T[i] := getD_at T i _ hi
  have e2 : rd_L5 T[i] (j : Int) = T[i][j] := getD_at _ j _ hj
  have hl1 : T[i].length ≤ 1048576 := (hx _ (List.getElem_mem hi)).1
  have hl2 : T[i][j].length ≤ 1048576 := (hx _ (List.getElem_mem hi)).2 _ (List.getElem_mem hj)
  refine scan T[i][j].length (fun k n => spec_TxOK.l2 k (i : Int) (j : Int) n C M T) (fun n => (T[i][j].drop n).all (opB C.length) && r) ?_ ?_
  · rw [all_end]
    refine Ev.step (fun k => ?_) h1
    simp only [spec_TxOK.l2]
    rw [e1, e2, if_pos (by omega), if_pos (by omega), if_pos (by omega), if_pos (by omega), if_neg (by omega), wrap_succ j (by omega)]
  · intro n hn hr
    rw [all_at _ _ n hn]
    have e3 : rd_T63 T[i][j] (n : Int) = T[i][j][n] := getD_at _ n _ hn
    have st : ∀ k, spec_TxOK.l2 (k + 1) (i : Int) (j : Int) (n : Int) C M T = if opB C.length T[i][j][n] = true then spec_TxOK.l2 k (i : Int) (j : Int) ((n + 1 : Nat) : Int) C M T else some false := by
      intro k
      simp only [spec_TxOK.l2]
      rw [e1, e2, if_pos (by omega), if_pos (by omega), if_pos (by omega), if_pos (by omega), if_pos (by omega), if_pos (by omega), e3, wrap_succ n (by omega)]
      generalize T[i][j][n] = c
      by_cases g1 : c.f0 < 1
      · rw [if_pos g1, opB_no (by omega)]; rfl
      rw [if_neg g1]
      by_cases g2 : c.f0 > 3
      · rw [if_pos g2, opB_no (by omega)]; rfl
      rw [if_neg g2]
      by_cases g3 : c.f1 < 0
      · rw [if_pos g3, opB_no (by omega)]; rfl
      rw [if_neg g3]
      by_cases g4 : c.f1 ≥ (C.length : Int)
      · rw [if_pos g4, opB_no (by omega)]; rfl
      rw [if_neg g4]
      by_cases g5 : c.f0 = 1
      · rw [if_pos g5]
        by_cases g6 : c.f2 = 0
        · rw [if_pos g6, opB_yes (by omega)]; rfl
        · rw [if_neg g6, opB_no (by omega)]; rfl
      · rw [if_neg g5, opB_yes (by omega)]; rfl
    cases hb : opB C.length T[i][j][n] with
    | true => exact Ev.step (fun k => by rw [st, hb]; try rfl) (by simpa using hr)
    | false => exact Ev.step (f := fun _ => some false) (fun k => by rw [st, hb]; try rfl) (by simpa using Ev.now false)

theorem spec1 (C : List Int) (M : Int) (T : List (List (List S63))) (hT : T.length ≤ 1048576) (hx : ∀ x ∈ T, x.length ≤ 1048576 ∧ ∀ y ∈ x, y.length ≤ 1048576) (i : Nat) (hi : i < T.length) (r : Bool) (h0 : Ev (fun k => spec_TxOK.l0 k ((i + 1 : Nat) : Int) C M T) r) :
    ∀ n, n ≤ T[i].length → Ev (fun k => spec_TxOK.l1 k (i : Int) (n : Int) C M T) ((T[i].drop n).all (txB C.length) && r) := by
  have e1 : rd_L6 T (i : Int) = T[i] := getD_at T i _ hi
  have hl1 : T[i].length ≤ 1048576 := (hx _ (List.getElem_mem hi)).1
  refine scan T[i].length (fun k n => spec_TxOK.l1 k (i : Int) n C M T) (fun n => (T[i].drop n).all (txB C.length) && r) ?_ ?_
  · rw [all_end]
    refine Ev.step (fun k => ?_) h0
    simp only [spec_TxOK.l1]
    rw [e1, if_pos (by omega), if_pos (by omega), if_neg (by omega), wrap_succ i (by omega)]
  · intro n hn hr
    rw [all_at _ _ n hn]
    have e2 : rd_L5 T[i] (n : Int) = T[i][n] := getD_at _ n _ hn
    have st : ∀ k, spec_TxOK.l1 (k + 1) (i : Int) (n : Int) C M T = if (T[i][n].length : Int) > 8 then some false else spec_TxOK.l2 k (i : Int) (n : Int) 0 C M T := by
      intro k
      simp only [spec_TxOK.l1]
      rw [e1, if_pos (by omega), if_pos (by omega), if_pos (by omega), if_pos (by omega), e2]
    by_cases g : (T[i][n].length : Int) > 8
    · have : txB C.length T[i][n] = false := by unfold txB; rw [decide_eq_false (by omega)]; rfl
      rw [this]
      exact Ev.step (f := fun _ => some false) (fun k => by rw [st, if_pos g]) (by simpa using Ev.now false)
    · have h2 := spec2 C M T hx i n hi hn _ hr 0 (by omega)
      have e : txB C.length T[i][n] = (T[i][n].drop 0).all (opB C.length) := by unfold txB; rw [decide_eq_true (by omega)]; simp
      rw [e, Bool.and_assoc]
      exact Ev.step (fun k => by rw [st, if_neg g]; rfl) h2

theorem spec0 (C : List Int) (M : Int) (T : List (List (List S63))) (hT : T.length ≤ 1048576) (hx : ∀ x ∈ T, x.length ≤ 1048576 ∧ ∀ y ∈ x, y.length ≤ 1048576) : ∀ n, n ≤ T.length → Ev (fun k => spec_TxOK.l0 k (n : Int) C M T) ((T.drop n).all (thB C.length)) := by
  refine scan T.length (fun k n => spec_TxOK.l0 k n C M T) (fun n => (T.drop n).all (thB C.length)) ?_ ?_
  · rw [all_end]
    refine Ev.step (f := fun _ => some true) (fun k => ?_) (Ev.now _)
    simp only [spec_TxOK.l0]
    rw [if_neg (by omega)]
  · intro n hn hr
    rw [all_at _ _ n hn]
    have e1 : rd_L6 T (n : Int) = T[n] := getD_at _ n _ hn
    have st : ∀ k, spec_TxOK.l0 (k + 1) (n : Int) C M T = if (T[n].length : Int) > 8 then some false else spec_TxOK.l1 k (n : Int) 0 C M T := by
      intro k
      simp only [spec_TxOK.l0]
      rw [if_pos (by omega), if_pos (by omega), e1]
    by_cases g : (T[n].length : Int) > 8
    · have : thB C.length T[n] = false := by unfold thB; rw [decide_eq_false (by omega)]; rfl
      rw [this]
      exact Ev.step (f := fun _ => some false) (fun k => by rw [st, if_pos g]) (by simpa using Ev.now false)
    · have h2 := spec1 C M T hT hx n hn _ hr 0 (by omega)
      have e : thB C.length T[n] = (T[n].drop 0).all (txB C.length) := by unfold thB; rw [decide_eq_true (by omega)]; simp
      rw [e]
      exact Ev.step (fun k => by rw [st, if_neg g]; rfl) h2

theorem spec_ok (C : List Int) (M : Int) (T : List (List (List S63))) (hT : T.length ≤ 1048576) (hx : ∀ x ∈ T, x.length ≤ 1048576 ∧ ∀ y ∈ x, y.length ≤ 1048576) : Ev (fun k => spec_TxOK.f k C M T) (workB C M T) := by
  have go : ∀ b, Ev (fun k => spec_TxOK.j0 k b C M T) (!b && T.all (thB C.length)) := by
    intro b
    cases b with
    | true => exact Ev.step (f := fun _ => some false) (fun k => by simp only [spec_TxOK.j0]; rfl) (Ev.now _)
    | false => exact Ev.step (f := fun k => spec_TxOK.l0 k 0 C M T) (fun k => by simp only [spec_TxOK.j0]; rfl) (by simpa using spec0 C M T hT hx 0 (by omega))
  by_cases hb : 1 ≤ C.length ∧ C.length ≤ 8 ∧ 1 ≤ T.length ∧ T.length ≤ 4 ∧ 1 ≤ M ∧ M ≤ 4
  · refine Ev.congr (f := fun k => spec_TxOK.j0 k false C M T) (fun k => ?_) (by simpa [workB, hb] using go false)
    unfold spec_TxOK.f
    rw [if_neg (by omega), if_neg (by omega), if_neg (by omega), if_neg (by omega), if_neg (by omega), decide_eq_false (by omega)]
  · have e : workB C M T = false := by unfold workB; rw [decide_eq_false hb]; rfl
    rw [e]
    refine Ev.congr (f := fun k => spec_TxOK.j0 k true C M T) (fun k => ?_) (by simpa using go true)
    unfold spec_TxOK.f
    by_cases a1 : (C.length : Int) < 1
    · rw [if_pos a1]
    rw [if_neg a1]
    by_cases a2 : (C.length : Int) > 8
    · rw [if_pos a2]
    rw [if_neg a2]
    by_cases a3 : (T.length : Int) < 1
    · rw [if_pos a3]
    rw [if_neg a3]
    by_cases a4 : (T.length : Int) > 4
    · rw [if_pos a4]
    rw [if_neg a4]
    by_cases a5 : M < 1
    · rw [if_pos a5]
    rw [if_neg a5, decide_eq_true (show M > 4 by omega)]
/-! the program -/

theorem impl2 (C : List Int) (M : Int) (T : List (List (List S63))) (hx : ∀ x ∈ T, x.length ≤ 1048576 ∧ ∀ y ∈ x, y.length ≤ 1048576) (i j : Nat) (hi : i < T.length) (hj : j < T[i].length) (r : Bool) (h1 : Ev (fun k => impl_TxOK.l1 k T (T.length : Int) (i : Int) T[i] (T[i].length : Int) ((j + 1 : Nat) : Int) C M T) r) :
    ∀ n, n ≤ T[i][j].length → Ev (fun k => impl_TxOK.l2 k T (T.length : Int) (i : Int) T[i] (T[i].length : Int) (j : Int) T[i][j] (T[i][j].length : Int) (n : Int) C M T) ((T[i][j].drop n).all (opB C.length) && r) := by
  have hl1 : T[i].length ≤ 1048576 := (hx _ (List.getElem_mem hi)).1
  have hl2 : T[i][j].length ≤ 1048576 := (hx _ (List.getElem_mem hi)).2 _ (List.getElem_mem hj)
  refine scan T[i][j].length (fun k n => impl_TxOK.l2 k T (T.length : Int) (i : Int) T[i] (T[i].length : Int) (j : Int) T[i][j] (T[i][j].length : Int) n C M T) (fun n => (T[i][j].drop n).all (opB C.length) && r) ?_ ?_
  · rw [all_end]
    refine Ev.step (fun k => ?_) h1
    simp only [impl_TxOK.l2]
    rw [if_neg (by omega), wrap_succ j (by omega)]
  · intro n hn hr
    rw [all_at _ _ n hn]
    have e3 : rd_T63 T[i][j] (n : Int) = T[i][j][n] := getD_at _ n _ hn
    have st : ∀ k, impl_TxOK.l2 (k + 1) T (T.length : Int) (i : Int) T[i] (T[i].length : Int) (j : Int) T[i][j] (T[i][j].length : Int) (n : Int) C M T = if opB C.length T[i][j][n] = true then impl_TxOK.l2 k T (T.length : Int) (i : Int) T[i] (T[i].length : Int) (j : Int) T[i][j] (T[i][j].length : Int) ((n + 1 : Nat) : Int) C M T else some false := by
      intro k
      simp only [impl_TxOK.l2]
      rw [if_pos (by omega), if_pos (by omega), if_pos (by omega), e3, wrap_succ n (by omega)]
      generalize T[i][j][n] = c
      by_cases g1 : c.f0 < 1
      · rw [if_pos g1, opB_no (by omega)]; rfl
      rw [if_neg g1]
      by_cases g2 : c.f0 > 3
      · rw [if_pos g2, opB_no (by omega)]; rfl
      rw [if_neg g2]
      by_cases g5 : c.f0 = 1
      · rw [if_pos g5]
        by_cases g6 : c.f2 = 0
        · rw [if_pos g6]
          by_cases g3 : c.f1 < 0
          · rw [if_pos g3, opB_no (by omega)]; rfl
          rw [if_neg g3]
          by_cases g4 : c.f1 ≥ (C.length : Int)
          · rw [if_pos g4, opB_no (by omega)]; rfl
          rw [if_neg g4, opB_yes (by omega)]; rfl
        · rw [if_neg g6, opB_no (by omega)]; rfl
      · rw [if_neg g5]
        by_cases g3 : c.f1 < 0
        · rw [if_pos g3, opB_no (by omega)]; rfl
        rw [if_neg g3]
        by_cases g4 : c.f1 ≥ (C.length : Int)
        · rw [if_pos g4, opB_no (by omega)]; rfl
        rw [if_neg g4, opB_yes (by omega)]; rfl
    cases hb : opB C.length T[i][j][n] with
    | true => exact Ev.step (fun k => by rw [st, hb]; try rfl) (by simpa using hr)
    | false => exact Ev.step (f := fun _ => some false) (fun k => by rw [st, hb]; try rfl) (by simpa using Ev.now false)

theorem impl1 (C : List Int) (M : Int) (T : List (List (List S63))) (hT : T.length ≤ 1048576) (hx : ∀ x ∈ T, x.length ≤ 1048576 ∧ ∀ y ∈ x, y.length ≤ 1048576) (i : Nat) (hi : i < T.length) (r : Bool) (h0 : Ev (fun k => impl_TxOK.l0 k T (T.length : Int) ((i + 1 : Nat) : Int) C M T) r) :
    ∀ n, n ≤ T[i].length → Ev (fun k => impl_TxOK.l1 k T (T.length : Int) (i : Int) T[i] (T[i].length : Int) (n : Int) C M T) ((T[i].drop n).all (txB C.length) && r) := by
  have hl1 : T[i].length ≤ 1048576 := (hx _ (List.getElem_mem hi)).1
  refine scan T[i].length (fun k n => impl_TxOK.l1 k T (T.length : Int) (i : Int) T[i] (T[i].length : Int) n C M T) (fun n => (T[i].drop n).all (txB C.length) && r) ?_ ?_
  · rw [all_end]
    refine Ev.step (fun k => ?_) h0
    simp only [impl_TxOK.l1]
    rw [if_neg (by omega), wrap_succ i (by omega)]
  · intro n hn hr
    rw [all_at _ _ n hn]
    have e2 : rd_L5 T[i] (n : Int) = T[i][n] := getD_at _ n _ hn
    have st : ∀ k, impl_TxOK.l1 (k + 1) T (T.length : Int) (i : Int) T[i] (T[i].length : Int) (n : Int) C M T = if (T[i][n].length : Int) > 8 then some false else impl_TxOK.l2 k T (T.length : Int) (i : Int) T[i] (T[i].length : Int) (n : Int) T[i][n] (T[i][n].length : Int) 0 C M T := by
      intro k
      simp only [impl_TxOK.l1]
      rw [if_pos (by omega), if_pos (by omega), if_pos (by omega), e2]
    by_cases g : (T[i][n].length : Int) > 8
    · have : txB C.length T[i][n] = false := by unfold txB; rw [decide_eq_false (by omega)]; rfl
      rw [this]
      exact Ev.step (f := fun _ => some false) (fun k => by rw [st, if_pos g]) (by simpa using Ev.now false)
    · have h2 := impl2 C M T hx i n hi hn _ hr 0 (by omega)
      have e : txB C.length T[i][n] = (T[i][n].drop 0).all (opB C.length) := by unfold txB; rw [decide_eq_true (by omega)]; simp
      rw [e, Bool.and_assoc]
      exact Ev.step (fun k => by rw [st, if_neg g]; rfl) h2

theorem impl0 (C : List Int) (M : Int) (T : List (List (List S63))) (hT : T.length ≤ 1048576) (hx : ∀ x ∈ T, x.length ≤ 1048576 ∧ ∀ y ∈ x, y.length ≤ 1048576) : ∀ n, n ≤ T.length → Ev (fun k => impl_TxOK.l0 k T (T.length : Int) (n : Int) C M T) ((T.drop n).all (thB C.length)) := by
  refine scan T.length (fun k n => impl_TxOK.l0 k T (T.length : Int) n C M T) (fun n => (T.drop n).all (thB C.length)) ?_ ?_
  · rw [all_end]
    refine Ev.step (f := fun _ => some true) (fun k => ?_) (Ev.now _)
    simp only [impl_TxOK.l0]
    rw [if_neg (by omega)]
  · intro n hn hr
    rw [all_at _ _ n hn]
    have e1 : rd_L6 T (n : Int) = T[n] := getD_at _ n _ hn
    have st : ∀ k, impl_TxOK.l0 (k + 1) T (T.length : Int) (n : Int) C M T = if (T[n].length : Int) > 8 then some false else impl_TxOK.l1 k T (T.length : Int) (n : Int) T[n] (T[n].length : Int) 0 C M T := by
      intro k
      simp only [impl_TxOK.l0]
      rw [if_pos (by omega), if_pos (by omega), if_pos (by omega), e1]
    by_cases g : (T[n].length : Int) > 8
    · have : thB C.length T[n] = false := by unfold thB; rw [decide_eq_false (by omega)]; rfl
      rw [this]
      exact Ev.step (f := fun _ => some false) (fun k => by rw [st, if_pos g]) (by simpa using Ev.now false)
    · have h2 := impl1 C M T hT hx n hn _ hr 0 (by omega)
      have e : thB C.length T[n] = (T[n].drop 0).all (txB C.length) := by unfold thB; rw [decide_eq_true (by omega)]; simp
      rw [e]
      exact Ev.step (fun k => by rw [st, if_neg g]; rfl) h2

theorem impl_ok (C : List Int) (M : Int) (T : List (List (List S63))) (hT : T.length ≤ 1048576) (hx : ∀ x ∈ T, x.length ≤ 1048576 ∧ ∀ y ∈ x, y.length ≤ 1048576) : Ev (fun k => impl_TxOK.f k C M T) (workB C M T) := by
  have go : ∀ b, Ev (fun k => impl_TxOK.j0 k b C M T) (!b && T.all (thB C.length)) := by
    intro b
    cases b with
    | true => exact Ev.step (f := fun _ => some false) (fun k => by simp only [impl_TxOK.j0]; rfl) (Ev.now _)
    | false => exact Ev.step (f := fun k => impl_TxOK.l0 k T (T.length : Int) 0 C M T) (fun k => by simp only [impl_TxOK.j0]; rfl) (by simpa using impl0 C M T hT hx 0 (by omega))
  by_cases hb : 1 ≤ C.length ∧ C.length ≤ 8 ∧ 1 ≤ T.length ∧ T.length ≤ 4 ∧ 1 ≤ M ∧ M ≤ 4
  · refine Ev.congr (f := fun k => impl_TxOK.j0 k false C M T) (fun k => ?_) (by simpa [workB, hb] using go false)
    unfold impl_TxOK.f
    rw [if_neg (by omega), if_neg (by omega), if_neg (by omega), if_neg (by omega), if_neg (by omega), decide_eq_false (by omega)]
  · have e : workB C M T = false := by unfold workB; rw [decide_eq_false hb]; rfl
    rw [e]
    refine Ev.congr (f := fun k => impl_TxOK.j0 k true C M T) (fun k => ?_) (by simpa using go true)
    unfold impl_TxOK.f
    by_cases a1 : (C.length : Int) < 1
    · rw [if_pos a1]
    rw [if_neg a1]
    by_cases a2 : (C.length : Int) > 8
    · rw [if_pos a2]
    rw [if_neg a2]
    by_cases a3 : (T.length : Int) < 1
    · rw [if_pos a3]
    rw [if_neg a3]
    by_cases a4 : (T.length : Int) > 4
    · rw [if_pos a4]
    rw [if_neg a4]
    by_cases a5 : M < 1
    · rw [if_pos a5]
    rw [if_neg a5, decide_eq_true (show M > 4 by omega)]

theorem opB_ok {cells : Nat} {o : S63} (h : opB cells o = true) : (o.f0 = 1 ∨ o.f0 = 2 ∨ o.f0 = 3) ∧ 0 ≤ o.f1 ∧ o.f1 < (cells : Int) ∧ (o.f0 = 1 → o.f2 = 0) := by
  unfold opB at h
  rw [Bool.and_eq_true, Bool.and_eq_true, decide_eq_true_eq, decide_eq_true_eq, Bool.or_eq_true, bne_iff_ne, beq_iff_eq] at h
  refine ⟨by omega, h.1.2.1, h.1.2.2, fun e => ?_⟩
  rcases h.2 with h2 | h2
  · exact absurd e h2
  · exact h2
theorem work_all {C : List Int} {M : Int} {T : List (List (List S63))} (h : workB C M T = true) : 1 ≤ C.length ∧ C.length ≤ 8 ∧ 1 ≤ T.length ∧ T.length ≤ 4 ∧ 1 ≤ M ∧ M ≤ 4 ∧ ∀ x ∈ T, x.length ≤ 8 ∧ ∀ y ∈ x, y.length ≤ 8 ∧ ∀ o ∈ y, opB C.length o = true := by
  unfold workB at h
  rw [Bool.and_eq_true, decide_eq_true_eq, List.all_eq_true] at h
  refine ⟨by omega, by omega, by omega, by omega, by omega, by omega, fun x hx => ?_⟩
  have h1 := h.2 x hx
  unfold thB at h1
  rw [Bool.and_eq_true, decide_eq_true_eq, List.all_eq_true] at h1
  refine ⟨h1.1, fun y hy => ?_⟩
  have h2 := h1.2 y hy
  unfold txB at h2
  rw [Bool.and_eq_true, decide_eq_true_eq, List.all_eq_true] at h2
  exact h2
/-- The numbers of a work are whole numbers of 64 bits. -/
def Small (C : List Int) (T : List (List (List S63))) : Prop := (∀ x ∈ C, wrap64 x = x) ∧ ∀ x ∈ T, ∀ y ∈ x, ∀ o ∈ y, wrap64 o.f2 = o.f2
theorem thr_mem (T : List (List (List S63))) (i : Nat) : Tx.thr T i = [] ∨ Tx.thr T i ∈ T := by
  unfold Tx.thr
  rw [List.getD_eq_getElem?_getD]
  by_cases h : i < T.length
  · rw [List.getElem?_eq_getElem h]; exact .inr (List.getElem_mem h)
  · rw [List.getElem?_eq_none (by omega)]; exact .inl rfl
theorem ops_ok {C : List Int} {M : Int} {T : List (List (List S63))} (h : workB C M T = true) (hs : Small C T) : Tx.OpsOK T.length C.length T := by
  obtain ⟨-, -, -, -, -, -, ht⟩ := work_all h
  refine ⟨rfl, fun i => ?_, fun i l hl => ?_⟩
  · rcases thr_mem T i with e | e
    · rw [e]; exact Nat.zero_le _
    · exact (ht _ e).1
  · rcases thr_mem T i with e | e
    · rw [e] at hl; exact absurd hl (by simp)
    · obtain ⟨a, b⟩ := (ht _ e).2 l hl
      refine ⟨a, fun x hx => ?_⟩
      obtain ⟨c1, c2, c3, c4⟩ := opB_ok (b x hx)
      exact ⟨c1, c2, c3, c4, hs.2 _ e l hl x hx⟩
theorem wrap0 : wrap64 0 = 0 := by unfold wrap64; omega
theorem goodF0 {C : List Int} {M most : Int} {T : List (List (List S63))} (hm : 0 ≤ most) (hs : Small C T) : Tx.GoodF T.length T most ⟨Tx.st0 C, [], true⟩ := by
  refine ⟨⟨fun c => .inl rfl, fun i => ⟨Int.le_refl _, Int.natCast_nonneg _⟩, fun i e => (by cases e), fun i e => (by cases e), fun i c => (show (-1 : Int) ≤ 0 by decide), fun c => Int.le_refl _, fun i => rfl, fun c => ?_, fun i c => (wrap0 : wrap64 0 = 0)⟩, hm, rfl, fun c => Int.le_refl _, Nat.le_refl _⟩
  show wrap64 (C.getD c 0) = C.getD c 0
  rw [List.getD_eq_getElem?_getD]
  by_cases h : c < C.length
  · rw [List.getElem?_eq_getElem h]; exact hs.1 _ (List.getElem_mem h)
  · rw [List.getElem?_eq_none (by omega)]; exact wrap0
/-! the logs -/
end Go.Proofs.Ytonhmkllfbagmaa.PureTxFair
