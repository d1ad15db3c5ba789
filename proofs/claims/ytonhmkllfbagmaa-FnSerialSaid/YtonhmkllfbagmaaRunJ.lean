/- Transactions: rows of tries as functions. -/
import Derived.Test.YtonhmkllfbagmaaRunH
namespace Go.Proofs.Ytonhmkllfbagmaa.Tx
open Go.RowKit Go.Proofs.YtonhmkllfbagmaaW.PrintWords Go.Proofs.YtonhmkllfbagmaaW.PrintLast Go.Proofs.YtonhmkllfbagmaaW.PrintMore Go.Proofs.Ytonhmkllfbagmaa.PFnExactTxFair
set_option linter.unusedVariables false
set_option linter.unusedSimpArgs false
def tr0 : S90 := ⟨0, 1, false, false, 0, 0, 0, [], [], []⟩
abbrev Sl := Option Addr × Nat × Nat
def t0Row (a b c : Sl) : Nat → Value
  | 0 => .int .i64 0
  | 1 => .int .i64 1
  | 2 => .bool false
  | 3 => .bool false
  | 4 => .int .i64 0
  | 5 => .int .i64 0
  | 6 => .int .i64 0
  | 7 => .slice a.1 a.2.1 a.2.2
  | 8 => .slice b.1 b.2.1 b.2.2
  | _ => .slice c.1 c.2.1 c.2.2
theorem add0 (g k : Nat) : (⟨g, 0, none⟩ : Addr).add k = ⟨g, k, none⟩ := by
  simp [Addr.add]
  intro hk
  rw [hk]
theorem info90 : (Try.prog.info? 90).map (fun i => (i.zero, i.size, i.bytes)) = some (some (.agg #[.int .i64 0, .int .i64 0, .bool false, .bool false, .int .i64 0, .int .i64 0, .int .i64 0, .slice none 0 0, .slice none 0 0, .slice none 0 0]), 10, 120) := by kernel_rfl
theorem tr0_M (w : World) (base : Nat) (ok : Nat → Prop) : k90.M w base ok tr0 [.int .i64 0, .int .i64 1, .bool false, .bool false, .int .i64 0, .int .i64 0, .int .i64 0, .slice none 0 0, .slice none 0 0, .slice none 0 0] :=
  k90_mkM w base ok tr0 (Kd.R_nil _ _ _ _ _) (Kd.R_nil _ _ _ _ _) (Kd.R_nil _ _ _ _ _)
theorem rd_rep (m : Nat) (i : Nat) (h : i < m) : rd_T90 (List.replicate m tr0) (i : Int) = tr0 := by
  unfold rd_T90
  rw [Int.toNat_natCast, List.getD_eq_getElem?_getD, List.getElem?_replicate, if_pos h]
  rfl
theorem fn_tries {w : World} {base : Nat} {ok : Nat → Prop} {v : Value} {m : Nat} (h : k90.R 90 w base ok v (List.replicate m tr0)) (hm : 0 < m) :
    ∃ g c, ∃ s : Nat → Sl × Sl × Sl, v = .slice (some ⟨g, 0, none⟩) m c ∧ ok g ∧ base ≤ g ∧ Fn w g 90 (m * 10) (fun k => t0Row (s (k / 10)).1 (s (k / 10)).2.1 (s (k / 10)).2.2 (k % 10)) := by
  obtain ⟨inner, hlen, hs⟩ := Kd.R_own h
  rw [List.length_replicate] at hlen hs
  rcases hs with ⟨_, h0⟩ | ⟨g, cap, cur, rfl, hb, hg, hc, hmx, hsz, ht⟩
  · omega
  · obtain ⟨A, c, e, hl, hC⟩ := Kd.R_reads h
    rw [List.length_replicate] at e hC
    injection e with e1 e2 e3
    subst e1
    have key : ∀ i : Nat, ∃ s : Sl × Sl × Sl, i < m → ∀ f, f < 10 → w.cell? ⟨g, i * 10 + f, none⟩ = some (t0Row s.1 s.2.1 s.2.2 f) := by
      intro i
      by_cases hi : i < m
      · obtain ⟨ad, A7, c7, A8, c8, A9, c9, e4, p0, p1, p2, p3, p4, p5, p6, p7, p8, p9, -⟩ := at_T90 hC (i : Int) (by omega) (by omega)
        injection e4 with e4
        subst e4
        rw [Int.toNat_natCast, add0] at p0 p1 p2 p3 p4 p5 p6 p7 p8 p9
        rw [rd_rep m i hi] at p0 p1 p2 p3 p4 p5 p6 p7 p8 p9
        refine ⟨((A7, 0, c7), (A8, 0, c8), (A9, 0, c9)), fun _ f hf => ?_⟩
        match f with
        | 0 => exact p0
        | 1 => exact p1
        | 2 => exact p2
        | 3 => exact p3
        | 4 => exact p4
        | 5 => exact p5
        | 6 => exact p6
        | 7 => exact p7
        | 8 => exact p8
        | 9 => exact p9
        | f + 10 => omega
      · exact ⟨((none, 0, 0), (none, 0, 0), (none, 0, 0)), fun hh => absurd hh hi⟩
    obtain ⟨s, hs⟩ := Classical.skolem.1 key
    refine ⟨g, cap, s, rfl, h.1 g rfl, hb, cur, hg, by rw [hsz]; exact Nat.mul_le_mul_right 10 hc, fun k hk => ?_⟩
    have h2 := hs (k / 10) (by omega) (k % 10) (by omega)
    rw [show k / 10 * 10 + k % 10 = k by omega, blk_cell hg k] at h2
    exact h2
end Go.Proofs.Ytonhmkllfbagmaa.Tx
