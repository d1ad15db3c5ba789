/- The row of the law FnExactApart: for every argument that reads as data the law returns true and changes nothing. No condition. -/
import Derived.Test.YthkngfieabdelaaRows
import Derived.Test.YthkngfieabdelaaOpen
import Derived.Test.YthkngfieabdelaaPFnExactApartx2
import Derived.Test.YthkngfieabdelaaPureFnExactApart
import Derived.WalkKit
import Derived.ProofKit
import Derived.OpenShut
import Derived.ShutString
import Derived.ChangeOld
import Derived.Below
import Derived.SizedLaws
namespace Go.Proofs.Ythkngfieabdelaa.fnExactApart
open Go.ChangeShapes Go.WideShapes Go.ChangeAt Go.RowKit Go.Proofs.Ythkngfieabdelaa.Op Go.Proofs.YthkngfieabdelaaW.PrintWords 
set_option linter.unusedVariables false
theorem own : ownKnob Try.prog.godebug = none := by kernel_rfl
theorem laidOut : laidOutB Try.prog = true := by kernel_rfl
def dVal : Kd (Int × Int) := Kd.pair (Kd.int .i64) (Kd.int .i64)
theorem oVal : Opens Try.prog 25 dVal (fun _ => True) := opens_weak (opens_struct Try.underlying25 (by kernel_rfl) (fields_cons (n1 := 1) (n2 := 1) rfl rfl (by kernel_rfl) (opens_int Try.underlying3) (fields_last rfl rfl (by kernel_rfl) (opens_int Try.underlying3)))) (fun _ _ => trivial)
def dIns : Kd (Int × Int × Int × (Int × Int) × (Int × Int) × Int × Int × Int) := Kd.pair (Kd.int .i64) (Kd.pair (Kd.int .i64) (Kd.pair (Kd.int .i64) (Kd.pair dVal (Kd.pair dVal (Kd.pair (Kd.int .i64) (Kd.pair (Kd.int .i64) (Kd.int .i64)))))))
theorem oIns : Opens Try.prog 27 dIns (fun _ => True) := opens_weak (opens_struct Try.underlying27 (by kernel_rfl)
  (fields_cons (n1 := 1) (n2 := 9) rfl rfl (by kernel_rfl) (opens_int Try.underlying3) (fields_cons (n1 := 1) (n2 := 8) rfl rfl (by kernel_rfl) (opens_int Try.underlying3) (fields_cons (n1 := 1) (n2 := 7) rfl rfl (by kernel_rfl) (opens_int Try.underlying3)
  (fields_cons (n1 := 2) (n2 := 5) rfl rfl (by kernel_rfl) oVal (fields_cons (n1 := 2) (n2 := 3) rfl rfl (by kernel_rfl) oVal (fields_cons (n1 := 1) (n2 := 2) rfl rfl (by kernel_rfl) (opens_int Try.underlying3)
  (fields_cons (n1 := 1) (n2 := 1) rfl rfl (by kernel_rfl) (opens_int Try.underlying3) (fields_last rfl rfl (by kernel_rfl) (opens_int Try.underlying3)))))))))) (fun _ _ => trivial)
theorem kIns {w : World} {y : Int × Int × Int × (Int × Int) × (Int × Int) × Int × Int × Int} {cs : Array Value} (h : dIns.K w y cs.toList) :
    cs = #[.int .i64 y.1, .int .i64 y.2.1, .int .i64 y.2.2.1, .int .i64 y.2.2.2.1.1, .int .i64 y.2.2.2.1.2, .int .i64 y.2.2.2.2.1.1, .int .i64 y.2.2.2.2.1.2, .int .i64 y.2.2.2.2.2.1, .int .i64 y.2.2.2.2.2.2.1, .int .i64 y.2.2.2.2.2.2.2] := by
  obtain ⟨_, _, e, rfl, _, _, rfl, rfl, _, _, rfl, rfl, _, _, rfl, ⟨_, _, rfl, rfl, rfl⟩, _, _, rfl, ⟨_, _, rfl, rfl, rfl⟩, _, _, rfl, rfl, _, _, rfl, rfl, rfl⟩ := h
  exact Array.toList_inj.1 (by rw [e]; rfl)

set_option maxRecDepth 100000 in
theorem lifted (os : Os) (started : os.Started) (H : Type) (enc : TypeId × Value → H) :
    ReturnsInHanded {} Try.checked os 5 .any (Rows.fnExactApartSpec.pre6 enc Try.prog Try.f5 Rows.fnExactApartRow.domain false) (Rows.fnExactApartSpec.post enc Try.prog Try.f5 false true false false) := by
  refine returnsInHanded_of_change_sized (C := Try.checked) own started (by kernel_rfl) Try.func5
    (ChangeSpec.witness6 (enc := enc) (C := Try.checked) false ⟨#[], #[.agg #[.int .i64 0, .int .i64 0, .int .i64 0, .int .i64 0, .int .i64 0, .int .i64 0, .int .i64 0, .int .i64 0, .int .i64 0, .int .i64 0], .agg #[.int .i64 0, .int .i64 0, .int .i64 0, .int .i64 0, .int .i64 0, .int .i64 0, .int .i64 0, .int .i64 0, .int .i64 0, .int .i64 0]], []⟩ 8 (by kernel_rfl) (by kernel_rfl) (by kernel_rfl) (by kernel_rfl)) ?_
  intro W base args ds gs before hval0 hW hcnd hsz0 _
  have hval : ∀ (j : Nat) t v, Try.f5.params[j]? = some t → args[j]? = some v → Value.okWide Try.prog W .any base t v := hval0
  have hW' := hW
  obtain ⟨p, q, hA0, hV, rfl, hfz, hnd⟩ := hW
  have hA : DataW.TrodAll enc Try.prog W 0 (fun _ => true) true Try.f5.params.toList args.toList ds p := hA0
  rw [Try.params5] at hA hval
  obtain ⟨v0, vs0, d0, ds0, p0, q0, hargs, rfl, rfl, h0, r0⟩ := trodAll_cons hA
  obtain ⟨v1, vs1, d1, ds1, p1, q1, rfl, rfl, rfl, h1, r1⟩ := trodAll_cons r0
  obtain ⟨rfl, rfl, rfl⟩ := trodAll_nil r1
  obtain rfl : args = #[v0, v1] := by cases args; simp_all
  obtain ⟨rfl, rfl⟩ := trodVars_none hV
  have k0 := h0
  have lt0 : ∀ x ∈ p0, x.block < W.heap.size := by obtain ⟨m, hm⟩ := k0; exact DataW.trod_lt m _ _ _ hm
  obtain ⟨cs0, rfl, _⟩ := okWide_struct Try.underlying27 (hval 0 27 v0 rfl rfl)
  obtain ⟨fuel0, hf0⟩ := h0
  obtain ⟨y0, hK0, hg0⟩ := oIns H enc W fuel0 _ _ hf0
  obtain rfl := kIns hK0
  have k1 := h1
  have lt1 : ∀ x ∈ p1, x.block < W.heap.size := by obtain ⟨m, hm⟩ := k1; exact DataW.trod_lt m _ _ _ hm
  obtain ⟨cs1, rfl, _⟩ := okWide_struct Try.underlying27 (hval 1 27 v1 rfl rfl)
  obtain ⟨fuel1, hf1⟩ := h1
  obtain ⟨y1, hK1, hg1⟩ := oIns H enc W fuel1 _ _ hf1
  obtain rfl := kIns hK1
  clear hA0 hval0 hsz0
  refine (PFnExactApart.laws_FnExactApart.calls 1 y0.1 y0.2.1 y0.2.2.1 y0.2.2.2.1.1 y0.2.2.2.1.2 y0.2.2.2.2.1.1 y0.2.2.2.2.1.2 y0.2.2.2.2.2.1 y0.2.2.2.2.2.2.1 y0.2.2.2.2.2.2.2 y1.1 y1.2.1 y1.2.2.1 y1.2.2.2.1.1 y1.2.2.2.1.2 y1.2.2.2.2.1.1 y1.2.2.2.2.1.2 y1.2.2.2.2.2.1 y1.2.2.2.2.2.2.1 y1.2.2.2.2.2.2.2 true W (Pure.FnExactApart ..)).mono fun e W' ⟨he, bel⟩ => ?_
  subst he
  exact ⟨_, rfl, _, _, _, [], _, [], hW', trodAll_mk1 (shut_bool Try.underlying4 _), (trodAll_cons_mk (Below.trod laidOut (by kernel_rfl) (of_decide_eq_true (by kernel_rfl)) k0 bel lt0) (trodAll_cons_mk (Below.trod laidOut (by kernel_rfl) (of_decide_eq_true (by kernel_rfl)) k1 bel lt1) trodAll_mk0)), rfl, bel.frame _, fun h => by cases h⟩
theorem over : Rows.fnExactApartRow.holds Try.pinned (OpenSpec.ofChange Rows.fnExactApartSpec) :=
  OpenClaim.holds_of_wide 5 Try.f5 rfl rfl rfl rfl rfl rfl rfl ⟨rfl, rfl, rfl, rfl, rfl⟩ rfl rfl rfl rfl rfl (by kernel_rfl) Try.func5 (by kernel_rfl)
    (of_decide_eq_true (by kernel_rfl)) (by unfold Func.isWrapper; first | (rw [if_pos (by decide +kernel)]; kernel_rfl) | (rw [if_neg (by decide +kernel)]; exact ⟨rfl, rfl⟩))
    (fun os started H enc _ => lifted os started H enc)
theorem proved : Rows.FnExactApartSaid := over
#print axioms proved
end Go.Proofs.Ythkngfieabdelaa.fnExactApart
namespace Go.Proofs.Ythkngfieabdelaa
/-- The row, under a short name, for the claim. -/
theorem fnExactApart_holds : Rows.FnExactApartSaid := fnExactApart.proved
end Go.Proofs.Ythkngfieabdelaa
