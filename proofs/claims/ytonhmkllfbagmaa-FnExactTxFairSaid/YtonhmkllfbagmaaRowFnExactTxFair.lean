/- The row of the law FnExactTxFair: for every argument that reads as data the law returns true and changes nothing. No condition. -/
import Derived.Test.YtonhmkllfbagmaaRows
import Derived.Test.YtonhmkllfbagmaaOpen
import Derived.Test.YtonhmkllfbagmaaLawF
import Derived.WalkKit
import Derived.ProofKit
import Derived.OpenShut
import Derived.ShutString
import Derived.ChangeOld
import Derived.Below
import Derived.SizedLaws
namespace Go.Proofs.Ytonhmkllfbagmaa.fnExactTxFair
open Go.ChangeShapes Go.WideShapes Go.ChangeAt Go.RowKit Go.Proofs.Ytonhmkllfbagmaa.Op Go.Proofs.YtonhmkllfbagmaaW.PrintWords 
set_option linter.unusedVariables false
theorem own : ownKnob Try.prog.godebug = none := by kernel_rfl
theorem laidOut : laidOutB Try.prog = true := by kernel_rfl
theorem wf_wrap64 {n : Int} (h : (Lit.int .i64 n).wf = true) : wrap64 n = n := by
  simp [Lit.wf, IntKind.min, IntKind.max, IntKind.signed, IntKind.bits] at h
  unfold wrap64
  omega
theorem oOp : Opens Try.prog 113 PFnExactTxFair.k113 (fun o => wrap64 o.f2 = o.f2) := opens_weak (opens_iso (fun x : PFnExactTxFair.S113 => (x.f0, x.f1, x.f2)) (fun y => ⟨y.1, y.2.1, y.2.2⟩) (fun _ => rfl) (opens_struct Try.underlying113 (by kernel_rfl)
  (fields_cons (n1 := 1) (n2 := 2) rfl rfl (by kernel_rfl) (opens_int Try.underlying3) (fields_cons (n1 := 1) (n2 := 1) rfl rfl (by kernel_rfl) (opens_int Try.underlying3) (fields_last rfl rfl (by kernel_rfl) (opens_int Try.underlying3)))))) (fun _ h => wf_wrap64 h.2.2)
instance : Inhabited PFnExactTxFair.S113 := ⟨PFnExactTxFair.z113⟩
theorem oInts : Opens Try.prog 22 (Kd.slice 3 (Kd.int .i64)) (fun xs => xs.length ≤ 9223372036854775807 ∧ ∀ x ∈ xs, wrap64 x = x) := opens_weak (opens_slice Try.underlying22 (by kernel_rfl) (opens_int Try.underlying3)) (fun _ h => ⟨h.1, fun x hx => wf_wrap64 (h.2 x hx)⟩)
theorem oS1 : Opens Try.prog 107 (Kd.slice 113 PFnExactTxFair.k113) (fun xs => xs.length ≤ 9223372036854775807 ∧ ∀ o ∈ xs, wrap64 o.f2 = o.f2) := opens_slice Try.underlying107 (by kernel_rfl) oOp
theorem oS2 : Opens Try.prog 85 (Kd.slice 107 (Kd.slice 113 PFnExactTxFair.k113)) (fun xs => xs.length ≤ 9223372036854775807 ∧ ∀ y ∈ xs, y.length ≤ 9223372036854775807 ∧ ∀ o ∈ y, wrap64 o.f2 = o.f2) := opens_slice Try.underlying85 (by kernel_rfl) oS1
theorem oS3 : Opens Try.prog 23 (Kd.slice 85 (Kd.slice 107 (Kd.slice 113 PFnExactTxFair.k113))) (fun xs => xs.length ≤ 9223372036854775807 ∧ ∀ y ∈ xs, y.length ≤ 9223372036854775807 ∧ ∀ z ∈ y, z.length ≤ 9223372036854775807 ∧ ∀ o ∈ z, wrap64 o.f2 = o.f2) := opens_slice Try.underlying23 (by kernel_rfl) oS2
theorem oProg : Opens Try.prog 25 (Kd.pair (Kd.slice 3 (Kd.int .i64)) (Kd.pair (Kd.int .i64) (Kd.slice 85 (Kd.slice 107 (Kd.slice 113 PFnExactTxFair.k113))))) (fun y => y.1.length ≤ 9223372036854775807 ∧ y.2.2.length ≤ 9223372036854775807 ∧ (∀ z ∈ y.2.2, z.length ≤ 9223372036854775807 ∧ ∀ u ∈ z, u.length ≤ 9223372036854775807) ∧ ((∀ x ∈ y.1, wrap64 x = x) ∧ ∀ x ∈ y.2.2, ∀ z ∈ x, ∀ o ∈ z, wrap64 o.f2 = o.f2)) :=
  opens_weak (opens_struct Try.underlying25 (by kernel_rfl) (fields_cons (n1 := 1) (n2 := 2) rfl rfl (by kernel_rfl) oInts (fields_cons (n1 := 1) (n2 := 1) rfl rfl (by kernel_rfl) (opens_int Try.underlying3) (fields_last rfl rfl (by kernel_rfl) oS3)))) (fun _ h => ⟨h.1.1, h.2.2.1, fun z hz => ⟨(h.2.2.2 z hz).1, fun u hu => ((h.2.2.2 z hz).2 u hu).1⟩, h.1.2, fun x hx z hz o ho => ((h.2.2.2 x hx).2 z hz).2 o ho⟩)
theorem kProg {w : World} {y : List Int × Int × List (List (List PFnExactTxFair.S113))} {cs : Array Value} (h : (Kd.pair (Kd.slice 3 (Kd.int .i64)) (Kd.pair (Kd.int .i64) (Kd.slice 85 (Kd.slice 107 (Kd.slice 113 PFnExactTxFair.k113))))).K w y cs.toList) :
    ∃ A0 c0 A2 c2, cs = #[.slice A0 y.1.length c0, .int .i64 y.2.1, .slice A2 y.2.2.length c2] ∧ y.1.length ≤ c0 ∧ Kd.C (Kd.int .i64) w A0 y.1.length y.1 ∧ y.2.2.length ≤ c2 ∧ Kd.C (Kd.slice 107 (Kd.slice 113 PFnExactTxFair.k113)) w A2 y.2.2.length y.2.2 := by
  obtain ⟨_, _, e, ⟨A0, c0, rfl, h0, h1⟩, _, _, rfl, rfl, A2, c2, rfl, h2, h3⟩ := h
  exact ⟨A0, c0, A2, c2, Array.toList_inj.1 (by rw [e]; rfl), h0, h1, h2, h3⟩

set_option maxRecDepth 100000 in
theorem lifted (os : Os) (started : os.Started) (H : Type) (enc : TypeId × Value → H) :
    ReturnsInHanded {} Try.checked os 5 .any (Rows.fnExactTxFairSpec.pre6 enc Try.prog Try.f5 Rows.fnExactTxFairRow.domain false) (Rows.fnExactTxFairSpec.post enc Try.prog Try.f5 false true false false) := by
  refine returnsInHanded_of_change_sized (C := Try.checked) own started (by kernel_rfl) Try.func5
    (ChangeSpec.witness6 (enc := enc) (C := Try.checked) false ⟨#[], #[.agg #[.slice none 0 0, .int .i64 0, .slice none 0 0], .int .i64 0], []⟩ 8 (by kernel_rfl) (by kernel_rfl) (by kernel_rfl) (by kernel_rfl)) ?_
  intro W base args ds gs before hval0 hW hcnd hsz0 _
  have hval : ∀ (j : Nat) t v, Try.f5.params[j]? = some t → args[j]? = some v → Value.okWide Try.prog W .any base t v := hval0
  have hW' := hW
  obtain ⟨p, q, hA0, hV, rfl, hfz, hnd⟩ := hW
  have hA : DataW.TrodAll enc Try.prog W 0 (fun _ => true) true Try.f5.params.toList args.toList ds p := hA0
  rw [Try.params5] at hA hval
  obtain ⟨v0, vs0, d0, ds0, p0, q0, hargs, rfl, rfl, h0, r0⟩ := trodAll_cons hA
  obtain ⟨v1, vs1, d1, ds1, p1, q1, rfl, rfl, rfl, h1, r1⟩ := trodAll_cons r0
  obtain ⟨rfl, rfl, rfl⟩ := trodAll_nil r1
  obtain rfl : args = #[v0, v1] := by cases args; simp_all
  obtain ⟨rfl, rfl⟩ := trodVars_none hV
  have k0 := h0
  have lt0 : ∀ x ∈ p0, x.block < W.heap.size := by obtain ⟨m, hm⟩ := k0; exact DataW.trod_lt m _ _ _ hm
  obtain ⟨cs0, rfl, _⟩ := okWide_struct Try.underlying25 (hval 0 25 v0 rfl rfl)
  obtain ⟨fuel0, hf0⟩ := h0
  obtain ⟨y0, hK0, hg0⟩ := oProg H enc W fuel0 _ _ hf0
  obtain ⟨A0, c0, A2, c2, rfl, hl0, hr0, hl2, hr2⟩ := kProg hK0
  have k1 := h1
  have lt1 : ∀ x ∈ p1, x.block < W.heap.size := by obtain ⟨m, hm⟩ := k1; exact DataW.trod_lt m _ _ _ hm
  obtain ⟨ai1, rfl⟩ := okWide_int Try.underlying3 (hval 1 3 v1 rfl rfl)
  obtain ⟨fuel1, hf1⟩ := h1
  obtain ⟨y1, hK1, hg1⟩ := (opens_int Try.underlying3) H enc W fuel1 _ _ hf1
  skip
  clear hA0 hval0 hsz0
  refine (PFnExactTxFair.lawFair (.slice A0 y0.1.length c0) (.slice A2 y0.2.2.length c2) y0.1 y0.2.1 y0.2.2 ai1 W ⟨A0, c0, rfl, hl0, hr0⟩ ⟨A2, c2, rfl, hl2, hr2⟩ hg0.1 hg0.2.1 hg0.2.2.1 hg0.2.2.2).mono fun e W' ⟨he, bel⟩ => ?_
  subst he
  exact ⟨_, rfl, _, _, _, [], _, [], hW', trodAll_mk1 (shut_bool Try.underlying4 _), (trodAll_cons_mk (Below.trod laidOut (by kernel_rfl) (of_decide_eq_true (by kernel_rfl)) k0 bel lt0) (trodAll_cons_mk (Below.trod laidOut (by kernel_rfl) (of_decide_eq_true (by kernel_rfl)) k1 bel lt1) trodAll_mk0)), rfl, bel.frame _, fun h => by cases h⟩
theorem over : Rows.fnExactTxFairRow.holds Try.pinned (OpenSpec.ofChange Rows.fnExactTxFairSpec) :=
  OpenClaim.holds_of_wide 5 Try.f5 rfl rfl rfl rfl rfl rfl rfl ⟨rfl, rfl, rfl, rfl, rfl⟩ rfl rfl rfl rfl rfl (by kernel_rfl) Try.func5 (by kernel_rfl)
    (of_decide_eq_true (by kernel_rfl)) (by unfold Func.isWrapper; first | (rw [if_pos (by decide +kernel)]; kernel_rfl) | (rw [if_neg (by decide +kernel)]; exact ⟨rfl, rfl⟩))
    (fun os started H enc _ => lifted os started H enc)
theorem proved : Rows.FnExactTxFairSaid := over
#print axioms proved
end Go.Proofs.Ytonhmkllfbagmaa.fnExactTxFair
namespace Go.Proofs.Ytonhmkllfbagmaa
/-- The row, under a short name, for the claim. -/
theorem fnExactTxFair_holds : Rows.FnExactTxFairSaid := fnExactTxFair.proved
end Go.Proofs.Ytonhmkllfbagmaa
