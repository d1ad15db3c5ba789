/- The row of the law FnExactSummary: for every argument that reads as data the law returns true and changes nothing. No condition. -/
import Derived.Test.YtjldnehlcplccaaRows
import Derived.Test.YtjldnehlcplccaaOpen
import Derived.Test.YtjldnehlcplccaaLawSum
import Derived.WalkKit
import Derived.ProofKit
import Derived.OpenShut
import Derived.ShutString
import Derived.ChangeOld
import Derived.Below
import Derived.SizedLaws
namespace Go.Proofs.Ytjldnehlcplccaa.fnExactSummary
open Go.ChangeShapes Go.WideShapes Go.ChangeAt Go.RowKit Go.Proofs.Ytjldnehlcplccaa.Op Go.Proofs.YtjldnehlcplccaaW.PrintWords Go.Proofs.Ytjldnehlcplccaa.Flo
set_option linter.unusedVariables false
theorem own : ownKnob Try.prog.godebug = none := by kernel_rfl
theorem laidOut : laidOutB Try.prog = true := by kernel_rfl
theorem opens_float {P : Program} {t : TypeId} (ht : P.underlying t = some (.float .f64)) : Opens P t fl (fun _ => True) := by
  intro H enc w fuel cs x h
  obtain ⟨n, hn⟩ : ∃ n, cs = [.float .f64 n] := by
    cases fuel with
    | zero => simp [DataW.trod] at h
    | succ n =>
      unfold DataW.trod at h
      rw [ht] at h
      split at h <;> simp_all
  exact ⟨n, hn, trivial⟩
theorem oFloats : Opens Try.prog 22 (Kd.slice 23 fl) (fun xs => True) := opens_weak (opens_slice Try.underlying22 (by kernel_rfl) (opens_float Try.underlying23)) (fun _ h => trivial)

set_option maxRecDepth 100000 in
theorem lifted (os : Os) (started : os.Started) (H : Type) (enc : TypeId × Value → H) :
    ReturnsInHanded {} Try.checked os 4 .any (Rows.fnExactSummarySpec.pre6 enc Try.prog Try.f4 Rows.fnExactSummaryRow.domain false) (Rows.fnExactSummarySpec.post enc Try.prog Try.f4 false true false false) := by
  refine returnsInHanded_of_change_sized (C := Try.checked) own started (by kernel_rfl) Try.func4
    (ChangeSpec.witness6 (enc := enc) (C := Try.checked) false ⟨#[], #[.slice none 0 0], []⟩ 8 (by kernel_rfl) (by kernel_rfl) (by kernel_rfl) (by kernel_rfl)) ?_
  intro W base args ds gs before hval0 hW hcnd hsz0 _
  have hval : ∀ (j : Nat) t v, Try.f4.params[j]? = some t → args[j]? = some v → Value.okWide Try.prog W .any base t v := hval0
  have hW' := hW
  obtain ⟨p, q, hA0, hV, rfl, hfz, hnd⟩ := hW
  have hA : DataW.TrodAll enc Try.prog W 0 (fun _ => true) true Try.f4.params.toList args.toList ds p := hA0
  rw [Try.params4] at hA hval
  obtain ⟨v0, vs0, d0, ds0, p0, q0, hargs, rfl, rfl, h0, r0⟩ := trodAll_cons hA
  obtain ⟨rfl, rfl, rfl⟩ := trodAll_nil r0
  obtain rfl : args = #[v0] := by cases args; simp_all
  obtain ⟨rfl, rfl⟩ := trodVars_none hV
  have k0 := h0
  have lt0 : ∀ x ∈ p0, x.block < W.heap.size := by obtain ⟨m, hm⟩ := k0; exact DataW.trod_lt m _ _ _ hm
  obtain ⟨aa0, la0, ca0, rfl⟩ := okWide_slice Try.underlying22 (hval 0 22 v0 rfl rfl)
  obtain ⟨fuel0, hf0⟩ := h0
  obtain ⟨y0, hK0, hg0⟩ := oFloats H enc W fuel0 _ _ hf0
  obtain ⟨A0, c0, e0, hl0, hc0⟩ := hK0
  obtain ⟨rfl, rfl, rfl⟩ : aa0 = A0 ∧ la0 = y0.length ∧ ca0 = c0 := by simpa [Value.cells] using e0
  clear hA0 hval0 hsz0
  refine (lawSummary _ y0 W ⟨aa0, ca0, rfl, hl0, hc0⟩).mono fun e W' ⟨he, bel⟩ => ?_
  subst he
  exact ⟨_, rfl, _, _, _, [], _, [], hW', trodAll_mk1 (shut_bool Try.underlying4 _), (trodAll_cons_mk (Below.trod laidOut (by kernel_rfl) (of_decide_eq_true (by kernel_rfl)) k0 bel lt0) trodAll_mk0), rfl, bel.frame _, fun h => by cases h⟩
theorem over : Rows.fnExactSummaryRow.holds Try.pinned (OpenSpec.ofChange Rows.fnExactSummarySpec) :=
  OpenClaim.holds_of_wide 4 Try.f4 rfl rfl rfl rfl rfl rfl rfl ⟨rfl, rfl, rfl, rfl, rfl⟩ rfl rfl rfl rfl rfl (by kernel_rfl) Try.func4 (by kernel_rfl)
    (of_decide_eq_true (by kernel_rfl)) (by unfold Func.isWrapper; first | (rw [if_pos (by decide +kernel)]; kernel_rfl) | (rw [if_neg (by decide +kernel)]; exact ⟨rfl, rfl⟩))
    (fun os started H enc _ => lifted os started H enc)
theorem proved : Rows.FnExactSummarySaid := over
#print axioms proved
end Go.Proofs.Ytjldnehlcplccaa.fnExactSummary
namespace Go.Proofs.Ytjldnehlcplccaa
/-- The row, under a short name, for the claim. -/
theorem fnExactSummary_holds : Rows.FnExactSummarySaid := fnExactSummary.proved
end Go.Proofs.Ytjldnehlcplccaa
