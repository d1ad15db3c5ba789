/- Transactions: the reference's TxFair. -/
import Derived.Test.YtonhmkllfbagmaaRunI
import Derived.Test.YtonhmkllfbagmaaPlB
import Derived.Test.YtonhmkllfbagmaaPFnExactTxFairx5
namespace Go.Proofs.Ytonhmkllfbagmaa.Tx
open Go.RowKit Go.Proofs.YtonhmkllfbagmaaW.PrintWords Go.Proofs.YtonhmkllfbagmaaW.PrintLast Go.Proofs.YtonhmkllfbagmaaW.PrintMore Go.Proofs.Ytonhmkllfbagmaa.PFnExactTxFair
set_option linter.unusedVariables false
set_option linter.unusedSimpArgs false
abbrev ki : Kd Int := Kd.int .i64
abbrev kT : Kd (List (List S63)) := Kd.slice 61 (Kd.slice 63 k63)
def Rd {α : Type} (d : Kd α) (w : World) (v : Value) (xs : List α) : Prop := ∃ A c, v = .slice A xs.length c ∧ xs.length ≤ c ∧ d.C w A xs.length xs
theorem Rd.below {α : Type} {d : Kd α} {w w1 : World} {v : Value} {xs : List α} (h : Rd d w v xs) (hb : Below w.heap.size w w1) : Rd d w1 v xs := by
  obtain ⟨A, c, e, hc, hr⟩ := h
  exact ⟨A, c, e, hc, Kd.C_below hr hb⟩
theorem Rd.of {α : Type} {d : Kd α} {e : Nat} {w : World} {base : Nat} {ok : Nat → Prop} {v : Value} {xs : List α} (h : d.R e w base ok v xs) : Rd d w v xs := Kd.R_reads h
/-- The first n of a row that is a function. -/
def row (n : Nat) (f : Nat → Int) : List Int := (List.range n).map f
theorem row_len (n : Nat) (f : Nat → Int) : (row n f).length = n := by simp [row]
theorem rd_fn {w : World} {b n c : Nat} {f : Nat → Int} (h : Fn w b 3 n (fun k => .int .i64 (f k))) (hc : n ≤ c) (hn : n ≤ 1000) : Rd ki w (.slice (some ⟨b, 0, none⟩) n c) (row n f) := by
  refine ⟨some ⟨b, 0, none⟩, c, by rw [row_len], by rw [row_len]; exact hc, rfl, by rw [row_len]; omega, fun _ => ⟨_, rfl, fun j p hp => ?_⟩⟩
  have hj : j < n := by
    have := (List.getElem?_eq_some_iff.1 hp).1
    rwa [row_len] at this
  have hpe : p = f j := by
    unfold row at hp
    rw [List.getElem?_map, List.getElem?_range hj] at hp
    simpa using hp.symm
  subst hpe
  refine ⟨[.int .i64 (f j)], rfl, rfl, fun q u hu => ?_⟩
  have hq : q = 0 := by
    have := (List.getElem?_eq_some_iff.1 hu).1
    simp at this
    exact this
  subst hq
  have hue : u = .int .i64 (f j) := by simpa using hu.symm
  subst hue
  rw [add0]
  have := h.cell j hj
  simpa [Kd.int, Kd.scalar] using this
/-- A row that lies in the blocks from lo up to hi: who leaves these as they are leaves it. -/
def Lie {α : Type} (d : Kd α) (w : World) (lo hi : Nat) (v : Value) (xs : List α) : Prop := hi ≤ w.heap.size ∧ ∀ w', w.heap.size ≤ w'.heap.size → (∀ b, lo ≤ b → b < hi → w'.heap[b]? = w.heap[b]?) → Rd d w' v xs
theorem Lie.of {α : Type} {d : Kd α} {e : Nat} {w : World} {lo : Nat} {ok : Nat → Prop} {v : Value} {xs : List α} (h : d.R e w lo ok v xs) : Lie d w lo w.heap.size v xs :=
  ⟨Nat.le_refl _, fun w' _ hb => Rd.of (Kd.R_step (Kd.R_bound h) (fun b hk hlt => hb b hk.2.1 hlt))⟩
theorem Lie.fn {w : World} {b n c lo : Nat} {f : Nat → Int} (h : Fn w b 3 n (fun k => .int .i64 (f k))) (hlo : lo ≤ b) (hc : n ≤ c) (hn : n ≤ 1000) : Lie ki w lo w.heap.size (.slice (some ⟨b, 0, none⟩) n c) (row n f) :=
  ⟨Nat.le_refl _, fun w' _ hb => rd_fn (h.move (hb b hlo h.lt)) hc hn⟩
theorem Run.fresh {P : Par} {w0 w : World} {D : Dyn} {S : St} (h : Run P w0 w D S) (b : Nat) (hb : w.heap.size ≤ b) : Out P D S b :=
  ⟨fun j hj e => by have := h.lt j hj; omega, fun e => by have := (Kd.R_bound h.ev).1 b e.symm; omega⟩
theorem Run.kept {P : Par} {w0 w w' : World} {D : Dyn} {S : St} (h : Run P w0 w D S) {v : Value} (hk : ∀ b, v.ownBlock = some b → Out P D S b) (hg : w.grownBy w' v.ownBlock) (hB : Below w0.heap.size w0 w') : Run P w0 w' D S := by
  exact ⟨h.lay.move (fun i hi => hg.block _ (h.lt i hi) (fun e => (hk _ e.symm).1 i hi rfl)), Kd.R_reok rfl (Kd.R_step (ok := fun b => D.V.ownBlock = some b) (Kd.R_reok rfl h.ev (fun b hb => hb)) (fun b hb hlt => hg.block b hlt (fun e => (hk b e.symm).2 hb.symm))) (fun b hb => h.ev.1 b hb), h.inn, hB⟩
end Go.Proofs.Ytonhmkllfbagmaa.Tx
