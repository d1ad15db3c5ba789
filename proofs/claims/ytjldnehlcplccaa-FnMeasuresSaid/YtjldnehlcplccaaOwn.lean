/- Rows of the call's own between two bounds, carried over calls and marks. -/
import Derived.Test.YtjldnehlcplccaaSFlo
namespace Go.Proofs.Ytjldnehlcplccaa.Flo
open Go.RowKit Go.Proofs.YtjldnehlcplccaaW.PrintWords Go.Proofs.YtjldnehlcplccaaW.PrintLast Go.Proofs.YtjldnehlcplccaaW.PrintMore
set_option linter.unusedSimpArgs false
set_option linter.unusedVariables false

/-- A row of the call's own (of the blocks from base on) in the blocks from lo up to hi. -/
def Own {α : Type} (d : Kd α) (e : Nat) (w : World) (base lo hi : Nat) (v : Value) (xs : List α) : Prop := d.R e w base (fun b => lo ≤ b ∧ b < hi) v xs ∧ hi ≤ w.heap.size
section
variable {α : Type} {d : Kd α} {e : Nat} {w w1 : World} {base lo hi : Nat} {v : Value} {xs : List α}
theorem Own.new {ok : Nat → Prop} (h : d.R e w lo ok v xs) (hb : base ≤ lo) : Own d e w base lo w.heap.size v xs := ⟨Kd.R_lower (Kd.R_mono (Kd.R_bound h) (fun _ hk => ⟨hk.2.1, hk.2.2.1⟩)) hb, Nat.le_refl _⟩
theorem Own.below (h : Own d e w base lo hi v xs) (hb : Below w.heap.size w w1) : Own d e w1 base lo hi v xs := ⟨Kd.R_below h.1 hb, Nat.le_trans h.2 hb.size⟩
theorem Own.rd (h : Own d e w base lo hi v xs) : Rd d w v xs := Rd.of h.1
theorem Own.kept {S : Nat → Prop} (h : Own d e w base lo hi v xs) (hk : Kept w w1 S) (hs : ∀ b, S b → b < lo ∨ hi ≤ b) : Own d e w1 base lo hi v xs :=
  ⟨Kd.R_step h.1 (fun k hok hlt => hk.2 k hlt (fun hS => by have := hs k hS; omega)), Nat.le_trans h.2 hk.1⟩
theorem Own.block (h : Own d e w base lo hi v xs) : ∀ b, v.ownBlock = some b → lo ≤ b ∧ b < hi := h.1.1
theorem Own.again {ys : List α} (h : Own d e w base lo hi v xs) (hR : d.R e w1 base (fun b => lo ≤ b ∧ b < hi) v ys) (hs : w.heap.size ≤ w1.heap.size) : Own d e w1 base lo hi v ys := ⟨hR, Nat.le_trans h.2 hs⟩
end
theorem mk_full {α : Type} (f : Nat → α) (xs : List α) (i : Nat) (h : i < xs.length) : (mk f xs xs.length)[i]? = some (f i) := by
  unfold mk
  simp [h]
theorem markF' (v : Value) (xs : List Nat) (w0 w : World) (base : Nat) (ok : Nat → Prop) (k : Int) (h : fl.R 23 w base ok v xs) (hB : Below base w0 w) (hl : xs.length ≤ 1048576) (hk0 : 0 ≤ k) (hk : k ≤ 1099511627776) :
    Calls Try.prog 13 #[v, .int .i64 k] w fun e w' => e = .returned (.int .i64 (k + xs.length)) ∧ ∃ ys : List Nat, fl.R 23 w' base ok v ys ∧ ys.length = xs.length ∧ (∀ i : Nat, i < xs.length → ys[i]? = some (floatOfInt .f64 (k + (i : Int)))) ∧ Below base w0 w' ∧ Kept w w' (fun b => v.ownBlock = some b) := by
  refine (markF v xs w0 w base ok k h hB hl hk0 hk).mono ?_
  rintro e w' ⟨rfl, hR, hb, hK⟩
  exact ⟨rfl, _, hR, mk_len _ _ _ (Nat.le_refl _), fun i hi => mk_full _ _ i hi, hb, hK⟩
theorem heldF' (v : Value) (ys : List Nat) (n : Nat) (w : World) (h : Rd fl w v ys) (hn : ys.length = n) (hv : ∀ i : Nat, i < n → ys[i]? = some (floatOfInt .f64 (1 + (i : Int)))) (hl : n ≤ 1048576) :
    Calls Try.prog 14 #[v, .int .i64 1] w fun e w' => e = .returned (.int .i64 (1 + (n : Int))) ∧ ∃ m, w' = w.drewN m := by
  subst hn
  exact heldF v ys w 1 h hv hl (by omega) (by omega)
end Go.Proofs.Ytjldnehlcplccaa.Flo
