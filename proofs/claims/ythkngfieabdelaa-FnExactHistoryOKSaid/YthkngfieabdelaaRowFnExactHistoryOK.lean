/- The row of the law FnExactHistoryOK: for every argument that reads as data the law returns true and changes nothing. No condition. -/
import Derived.Test.YthkngfieabdelaaRows
import Derived.Test.YthkngfieabdelaaOpen
import Derived.Test.YthkngfieabdelaaPFnExactHistoryOKx2
import Derived.Test.YthkngfieabdelaaPureFnExactHistoryOK
import Derived.WalkKit
import Derived.ProofKit
import Derived.OpenShut
import Derived.ShutString
import Derived.ChangeOld
import Derived.Below
import Derived.SizedLaws
namespace Go.Proofs.Ythkngfieabdelaa.fnExactHistoryOK
open Go.ChangeShapes Go.WideShapes Go.ChangeAt Go.RowKit Go.Proofs.Ythkngfieabdelaa.Op Go.Proofs.YthkngfieabdelaaW.PrintWords 
set_option linter.unusedVariables false
theorem own : ownKnob Try.prog.godebug = none := by kernel_rfl
theorem laidOut : laidOutB Try.prog = true := by kernel_rfl
open PFnExactHistoryOK in
theorem oCall : Opens Try.prog 79 k79 (fun _ => True) := opens_weak (opens_iso (fun x : S79 => (x.f0, x.f1, x.f2, x.f3, x.f4, x.f5)) (fun y => ⟨y.1, y.2.1, y.2.2.1, y.2.2.2.1, y.2.2.2.2.1, y.2.2.2.2.2⟩) (fun _ => rfl) (opens_struct Try.underlying79 (by kernel_rfl)
  (fields_cons (n1 := 1) (n2 := 5) rfl rfl (by kernel_rfl) (opens_int Try.underlying3) (fields_cons (n1 := 1) (n2 := 4) rfl rfl (by kernel_rfl) (opens_int Try.underlying3) (fields_cons (n1 := 1) (n2 := 3) rfl rfl (by kernel_rfl) (opens_int Try.underlying3)
  (fields_cons (n1 := 1) (n2 := 2) rfl rfl (by kernel_rfl) (opens_int Try.underlying3) (fields_cons (n1 := 1) (n2 := 1) rfl rfl (by kernel_rfl) (opens_int Try.underlying3) (fields_last rfl rfl (by kernel_rfl) (opens_int Try.underlying3))))))))) (fun _ _ => trivial)
instance : Inhabited PFnExactHistoryOK.S79 := ⟨PFnExactHistoryOK.z79⟩
theorem oCalls : Opens Try.prog 42 (Kd.slice 79 PFnExactHistoryOK.k79) (fun xs => xs.length ≤ 9223372036854775807) := opens_weak (opens_slice Try.underlying42 (by kernel_rfl) oCall) (fun _ h => h.1)

set_option maxRecDepth 100000 in
theorem lifted (os : Os) (started : os.Started) (H : Type) (enc : TypeId × Value → H) :
    ReturnsInHanded {} Try.checked os 7 .any (Rows.fnExactHistoryOKSpec.pre6 enc Try.prog Try.f7 Rows.fnExactHistoryOKRow.domain false) (Rows.fnExactHistoryOKSpec.post enc Try.prog Try.f7 false true false false) := by
  refine returnsInHanded_of_change_sized (C := Try.checked) own started (by kernel_rfl) Try.func7
    (ChangeSpec.witness6 (enc := enc) (C := Try.checked) false ⟨#[], #[.slice none 0 0], []⟩ 8 (by kernel_rfl) (by kernel_rfl) (by kernel_rfl) (by kernel_rfl)) ?_
  intro W base args ds gs before hval0 hW hcnd hsz0 _
  have hval : ∀ (j : Nat) t v, Try.f7.params[j]? = some t → args[j]? = some v → Value.okWide Try.prog W .any base t v := hval0
  have hW' := hW
  obtain ⟨p, q, hA0, hV, rfl, hfz, hnd⟩ := hW
  have hA : DataW.TrodAll enc Try.prog W 0 (fun _ => true) true Try.f7.params.toList args.toList ds p := hA0
  rw [Try.params7] at hA hval
  obtain ⟨v0, vs0, d0, ds0, p0, q0, hargs, rfl, rfl, h0, r0⟩ := trodAll_cons hA
  obtain ⟨rfl, rfl, rfl⟩ := trodAll_nil r0
  obtain rfl : args = #[v0] := by cases args; simp_all
  obtain ⟨rfl, rfl⟩ := trodVars_none hV
  have k0 := h0
  have lt0 : ∀ x ∈ p0, x.block < W.heap.size := by obtain ⟨m, hm⟩ := k0; exact DataW.trod_lt m _ _ _ hm
  obtain ⟨aa0, la0, ca0, rfl⟩ := okWide_slice Try.underlying42 (hval 0 42 v0 rfl rfl)
  obtain ⟨fuel0, hf0⟩ := h0
  obtain ⟨y0, hK0, hg0⟩ := oCalls H enc W fuel0 _ _ hf0
  obtain ⟨A0, c0, e0, hl0, hc0⟩ := hK0
  obtain ⟨rfl, rfl, rfl⟩ : aa0 = A0 ∧ la0 = y0.length ∧ ca0 = c0 := by simpa [Value.cells] using e0
  obtain ⟨k, hk⟩ := Pure.FnExactHistoryOK y0 hg0
  clear hA0 hval0 hsz0
  refine (PFnExactHistoryOK.laws_FnExactHistoryOK.calls k aa0 ca0 y0 true W hc0 hl0 hk).mono fun e W' ⟨he, bel⟩ => ?_
  subst he
  exact ⟨_, rfl, _, _, _, [], _, [], hW', trodAll_mk1 (shut_bool Try.underlying4 _), (trodAll_cons_mk (Below.trod laidOut (by kernel_rfl) (of_decide_eq_true (by kernel_rfl)) k0 bel lt0) trodAll_mk0), rfl, bel.frame _, fun h => by cases h⟩
theorem over : Rows.fnExactHistoryOKRow.holds Try.pinned (OpenSpec.ofChange Rows.fnExactHistoryOKSpec) :=
  OpenClaim.holds_of_wide 7 Try.f7 rfl rfl rfl rfl rfl rfl rfl ⟨rfl, rfl, rfl, rfl, rfl⟩ rfl rfl rfl rfl rfl (by kernel_rfl) Try.func7 (by kernel_rfl)
    (of_decide_eq_true (by kernel_rfl)) (by unfold Func.isWrapper; first | (rw [if_pos (by decide +kernel)]; kernel_rfl) | (rw [if_neg (by decide +kernel)]; exact ⟨rfl, rfl⟩))
    (fun os started H enc _ => lifted os started H enc)
theorem proved : Rows.FnExactHistoryOKSaid := over
#print axioms proved
end Go.Proofs.Ythkngfieabdelaa.fnExactHistoryOK
namespace Go.Proofs.Ythkngfieabdelaa
/-- The row, under a short name, for the claim. -/
theorem fnExactHistoryOK_holds : Rows.FnExactHistoryOKSaid := fnExactHistoryOK.proved
end Go.Proofs.Ythkngfieabdelaa
