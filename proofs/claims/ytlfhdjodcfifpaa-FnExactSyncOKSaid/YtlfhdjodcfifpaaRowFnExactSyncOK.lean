/- The row of the law FnExactSyncOK: for every argument that reads as data the law returns true and changes nothing. No condition. -/
import Derived.Test.YtlfhdjodcfifpaaRows
import Derived.Test.YtlfhdjodcfifpaaOpen
import Derived.Test.YtlfhdjodcfifpaaPFnExactSyncOKx4
import Derived.Test.YtlfhdjodcfifpaaPureFnExactSyncOK
import Derived.WalkKit
import Derived.ProofKit
import Derived.OpenShut
import Derived.ShutString
import Derived.ChangeOld
import Derived.Below
import Derived.SizedLaws
namespace Go.Proofs.Ytlfhdjodcfifpaa.fnExactSyncOK
open Go.ChangeShapes Go.WideShapes Go.ChangeAt Go.RowKit Go.Proofs.Ytlfhdjodcfifpaa.Op Go.Proofs.YtlfhdjodcfifpaaW.PrintWords 
set_option linter.unusedVariables false
theorem own : ownKnob Try.prog.godebug = none := by kernel_rfl
theorem laidOut : laidOutB Try.prog = true := by kernel_rfl
theorem oOp : Opens Try.prog 120 PFnExactSyncOK.k120 (fun _ => True) := opens_weak (opens_iso (fun x : PFnExactSyncOK.S120 => (x.f0, x.f1, x.f2)) (fun y => ⟨y.1, y.2.1, y.2.2⟩) (fun _ => rfl) (opens_struct Try.underlying120 (by kernel_rfl)
  (fields_cons (n1 := 1) (n2 := 2) rfl rfl (by kernel_rfl) (opens_int Try.underlying3) (fields_cons (n1 := 1) (n2 := 1) rfl rfl (by kernel_rfl) (opens_int Try.underlying3) (fields_last rfl rfl (by kernel_rfl) (opens_int Try.underlying3)))))) (fun _ _ => trivial)
instance : Inhabited PFnExactSyncOK.S120 := ⟨PFnExactSyncOK.z120⟩
theorem oInts : Opens Try.prog 22 (Kd.slice 3 (Kd.int .i64)) (fun xs => xs.length ≤ 9223372036854775807) := opens_weak (opens_slice Try.underlying22 (by kernel_rfl) (opens_int Try.underlying3)) (fun _ h => h.1)
theorem oS1 : Opens Try.prog 93 (Kd.slice 120 PFnExactSyncOK.k120) (fun xs => xs.length ≤ 9223372036854775807) := opens_weak (opens_slice Try.underlying93 (by kernel_rfl) oOp) (fun _ h => h.1)
theorem oS2 : Opens Try.prog 23 (Kd.slice 93 (Kd.slice 120 PFnExactSyncOK.k120)) (fun xs => xs.length ≤ 9223372036854775807 ∧ ∀ y ∈ xs, y.length ≤ 9223372036854775807) := opens_slice Try.underlying23 (by kernel_rfl) oS1
abbrev KP : Kd (Int × Int × List Int × List Int × List Int × List (List PFnExactSyncOK.S120)) := Kd.pair (Kd.int .i64) (Kd.pair (Kd.int .i64) (Kd.pair (Kd.slice 3 (Kd.int .i64)) (Kd.pair (Kd.slice 3 (Kd.int .i64)) (Kd.pair (Kd.slice 3 (Kd.int .i64)) (Kd.slice 93 (Kd.slice 120 PFnExactSyncOK.k120))))))
theorem oProg : Opens Try.prog 25 KP (fun y => y.2.2.1.length ≤ 9223372036854775807 ∧ y.2.2.2.1.length ≤ 9223372036854775807 ∧ y.2.2.2.2.1.length ≤ 9223372036854775807 ∧ y.2.2.2.2.2.length ≤ 9223372036854775807 ∧ ∀ z ∈ y.2.2.2.2.2, z.length ≤ 9223372036854775807) :=
  opens_weak (opens_struct Try.underlying25 (by kernel_rfl) (fields_cons (n1 := 1) (n2 := 5) rfl rfl (by kernel_rfl) (opens_int Try.underlying3) (fields_cons (n1 := 1) (n2 := 4) rfl rfl (by kernel_rfl) (opens_int Try.underlying3) (fields_cons (n1 := 1) (n2 := 3) rfl rfl (by kernel_rfl) oInts (fields_cons (n1 := 1) (n2 := 2) rfl rfl (by kernel_rfl) oInts (fields_cons (n1 := 1) (n2 := 1) rfl rfl (by kernel_rfl) oInts (fields_last rfl rfl (by kernel_rfl) oS2))))))) (fun _ h => ⟨h.2.2.1, h.2.2.2.1, h.2.2.2.2.1, h.2.2.2.2.2⟩)
theorem kProg {w : World} {y : Int × Int × List Int × List Int × List Int × List (List PFnExactSyncOK.S120)} {cs : Array Value} (h : KP.K w y cs.toList) :
    ∃ A2 c2 A3 c3 A4 c4 A5 c5, cs = #[.int .i64 y.1, .int .i64 y.2.1, .slice A2 y.2.2.1.length c2, .slice A3 y.2.2.2.1.length c3, .slice A4 y.2.2.2.2.1.length c4, .slice A5 y.2.2.2.2.2.length c5] ∧ (y.2.2.1.length ≤ c2 ∧ Kd.C (Kd.int .i64) w A2 y.2.2.1.length y.2.2.1) ∧ (y.2.2.2.1.length ≤ c3 ∧ Kd.C (Kd.int .i64) w A3 y.2.2.2.1.length y.2.2.2.1) ∧ (y.2.2.2.2.1.length ≤ c4 ∧ Kd.C (Kd.int .i64) w A4 y.2.2.2.2.1.length y.2.2.2.2.1) ∧ y.2.2.2.2.2.length ≤ c5 ∧ Kd.C (Kd.slice 120 PFnExactSyncOK.k120) w A5 y.2.2.2.2.2.length y.2.2.2.2.2 := by
  obtain ⟨_, _, e, rfl, _, _, rfl, rfl, _, _, rfl, ⟨A2, c2, rfl, h2, h2'⟩, _, _, rfl, ⟨A3, c3, rfl, h3, h3'⟩, _, _, rfl, ⟨A4, c4, rfl, h4, h4'⟩, A5, c5, rfl, h5, h5'⟩ := h
  exact ⟨A2, c2, A3, c3, A4, c4, A5, c5, Array.toList_inj.1 (by rw [e]; rfl), ⟨h2, h2'⟩, ⟨h3, h3'⟩, ⟨h4, h4'⟩, h5, h5'⟩

set_option maxRecDepth 100000 in
theorem lifted (os : Os) (started : os.Started) (H : Type) (enc : TypeId × Value → H) :
    ReturnsInHanded {} Try.checked os 3 .any (Rows.fnExactSyncOKSpec.pre6 enc Try.prog Try.f3 Rows.fnExactSyncOKRow.domain false) (Rows.fnExactSyncOKSpec.post enc Try.prog Try.f3 false true false false) := by
  refine returnsInHanded_of_change_sized (C := Try.checked) own started (by kernel_rfl) Try.func3
    (ChangeSpec.witness6 (enc := enc) (C := Try.checked) false ⟨#[], #[.agg #[.int .i64 0, .int .i64 0, .slice none 0 0, .slice none 0 0, .slice none 0 0, .slice none 0 0]], []⟩ 8 (by kernel_rfl) (by kernel_rfl) (by kernel_rfl) (by kernel_rfl)) ?_
  intro W base args ds gs before hval0 hW hcnd hsz0 _
  have hval : ∀ (j : Nat) t v, Try.f3.params[j]? = some t → args[j]? = some v → Value.okWide Try.prog W .any base t v := hval0
  have hW' := hW
  obtain ⟨p, q, hA0, hV, rfl, hfz, hnd⟩ := hW
  have hA : DataW.TrodAll enc Try.prog W 0 (fun _ => true) true Try.f3.params.toList args.toList ds p := hA0
  rw [Try.params3] at hA hval
  obtain ⟨v0, vs0, d0, ds0, p0, q0, hargs, rfl, rfl, h0, r0⟩ := trodAll_cons hA
  obtain ⟨rfl, rfl, rfl⟩ := trodAll_nil r0
  obtain rfl : args = #[v0] := by cases args; simp_all
  obtain ⟨rfl, rfl⟩ := trodVars_none hV
  have k0 := h0
  have lt0 : ∀ x ∈ p0, x.block < W.heap.size := by obtain ⟨m, hm⟩ := k0; exact DataW.trod_lt m _ _ _ hm
  obtain ⟨cs0, rfl, _⟩ := okWide_struct Try.underlying25 (hval 0 25 v0 rfl rfl)
  obtain ⟨fuel0, hf0⟩ := h0
  obtain ⟨y0, hK0, hg0⟩ := oProg H enc W fuel0 _ _ hf0
  obtain ⟨A2, c2, A3, c3, A4, c4, A5, c5, rfl, ⟨hl2, hr2⟩, ⟨hl3, hr3⟩, ⟨hl4, hr4⟩, hl5, hr5⟩ := kProg hK0
  obtain ⟨k, hk⟩ := PureSyncOK.FnExactSyncOK y0.1 y0.2.1 y0.2.2.1 y0.2.2.2.1 y0.2.2.2.2.1 y0.2.2.2.2.2 hg0.1 hg0.2.1 hg0.2.2.1 hg0.2.2.2.1 hg0.2.2.2.2
  clear hA0 hval0 hsz0
  refine (PFnExactSyncOK.laws_FnExactSyncOK.calls k y0.1 y0.2.1 A2 c2 y0.2.2.1 A3 c3 y0.2.2.2.1 A4 c4 y0.2.2.2.2.1 A5 c5 y0.2.2.2.2.2 true W hr2 hl2 hr3 hl3 hr4 hl4 hr5 hl5 hk).mono fun e W' ⟨he, bel⟩ => ?_
  subst he
  exact ⟨_, rfl, _, _, _, [], _, [], hW', trodAll_mk1 (shut_bool Try.underlying4 _), (trodAll_cons_mk (Below.trod laidOut (by kernel_rfl) (of_decide_eq_true (by kernel_rfl)) k0 bel lt0) trodAll_mk0), rfl, bel.frame _, fun h => by cases h⟩
theorem over : Rows.fnExactSyncOKRow.holds Try.pinned (OpenSpec.ofChange Rows.fnExactSyncOKSpec) :=
  OpenClaim.holds_of_wide 3 Try.f3 rfl rfl rfl rfl rfl rfl rfl ⟨rfl, rfl, rfl, rfl, rfl⟩ rfl rfl rfl rfl rfl (by kernel_rfl) Try.func3 (by kernel_rfl)
    (of_decide_eq_true (by kernel_rfl)) (by unfold Func.isWrapper; first | (rw [if_pos (by decide +kernel)]; kernel_rfl) | (rw [if_neg (by decide +kernel)]; exact ⟨rfl, rfl⟩))
    (fun os started H enc _ => lifted os started H enc)
theorem proved : Rows.FnExactSyncOKSaid := over
#print axioms proved
end Go.Proofs.Ytlfhdjodcfifpaa.fnExactSyncOK
namespace Go.Proofs.Ytlfhdjodcfifpaa
/-- The row, under a short name, for the claim. -/
theorem fnExactSyncOK_holds : Rows.FnExactSyncOKSaid := fnExactSyncOK.proved
end Go.Proofs.Ytlfhdjodcfifpaa
