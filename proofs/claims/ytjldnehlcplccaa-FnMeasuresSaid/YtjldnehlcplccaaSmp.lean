/- The drawn samples: spec.SamplesOf hands back 1 to 26 of them. -/
import Derived.Test.YtjldnehlcplccaaSrc
import Derived.Test.YtjldnehlcplccaaSmo
import Derived.Test.YtjldnehlcplccaaWrd
namespace Go.Proofs.Ytjldnehlcplccaa.Src
open Go.RowKit Go.Proofs.YtjldnehlcplccaaW.PrintWords Go.Proofs.YtjldnehlcplccaaW.PrintLast Go.Proofs.YtjldnehlcplccaaW.PrintMore Go.Proofs.Ytjldnehlcplccaa.PFnMeasures Go.Proofs.Ytjldnehlcplccaa.Flo
open Ieee
set_option linter.unusedSimpArgs false
set_option linter.unusedVariables false

theorem rdOf_snoc (xs : List Nat) (r : Nat) (j : Nat) (h : j < (xs ++ [r]).length) : rdOf 0 (xs ++ [r]) (j : Int) = if j < xs.length then rdOf 0 xs (j : Int) else r := by
  have h1 := rdOf_get 0 (xs ++ [r]) (j : Int) (by omega) (by omega)
  rw [show ((j : Int)).toNat = j by omega] at h1
  rw [List.length_append, List.length_singleton] at h
  by_cases h2 : j < xs.length
  · rw [if_pos h2]
    rw [List.getElem?_append_left h2] at h1
    have h3 := rdOf_get 0 xs (j : Int) (by omega) (by omega)
    rw [show ((j : Int)).toNat = j by omega] at h3
    rw [h3] at h1
    exact (Option.some.inj h1).symm
  · rw [if_neg h2]
    have : j = xs.length := by omega
    subst this
    rw [List.getElem?_append_right (Nat.le_refl _)] at h1
    simp at h1
    exact h1.symm

set_option maxHeartbeats 4000000 in
set_option maxRecDepth 100000 in
theorem samplesC (A0 : Option Addr) (c0 : Nat) (l0 : List Int) (w : World) (hr0 : Kd.C (Kd.int .u8) w A0 l0.length l0) (hc0 : l0.length ≤ c0) (hF : Bytes l0) :
    Calls Try.prog 28 #[.slice A0 l0.length c0] w fun e w' => ∃ v xs, e = .returned v ∧ fl.R 23 w' w.heap.size (fun _ => True) v xs ∧ 1 ≤ xs.length ∧ xs.length ≤ 26 ∧ (∀ j : Nat, j < xs.length → Smp (cd (rdOf 0 xs (j : Int)))) ∧ Below w.heap.size w w' := by
  go_enter Try.func28, Try.ntmps28
  go_wp2_with fail
  refine (sourceC A0 c0 l0 w hr0 hc0).mono ?_
  rintro e w1 ⟨g, rfl, hS, hg, hB⟩
  clear hr0
  have HS := Lib.hid hS; have HB := Lib.hid hB; clear hS hB
  go_wp2_with fail
  obtain ⟨E, hE⟩ : ∃ E, w1.alloc (.cells #[] 23) = E := ⟨_, rfl⟩
  rw [hE]
  have HS2 := Lib.hid (show Sr w E g l0 0 by rw [← hE]; exact HS.out.keep ((Below.refl _ w1).alloc (Nat.le_refl _) _))
  have HB2 := Lib.hid (show Below w.heap.size w E by rw [← hE]; exact HB.out.alloc HB.out.size _)
  have hgE : g < w1.heap.size := by obtain ⟨x, sd, hI, _⟩ := HS.out; exact hI.lt
  have HR0 := Lib.hid (show fl.R 23 E w.heap.size (fun k => k ≠ g) (.slice (some ⟨w1.heap.size, 0, none⟩) 0 0) [] by
    rw [← hE]
    exact Kd.R_mono (Kd.R_lower (Kd.R_bound (R_lit0 fl 23 w1)) HB.out.size) (fun k hk => by have := hk.2.2.1; omega))
  clear hE HS HB
  refine (sizeC g l0 0 20 w E HS2.out hF (by omega)).mono ?_
  rintro e w2 ⟨z, rfl, hz0, hz1, hS, hK⟩
  have HS3 := Lib.hid hS
  have HR3 := Lib.hid (Kd.R_keep HR0.out hK (fun k hk => hk))
  have HB3 := Lib.hid (show Below w.heap.size w w2 by obtain ⟨x, sd, _, _, _, _, _, h⟩ := hS; exact h)
  clear hS hK HS2 HR0 HB2
  have p1 : IntKind.wrap .i64 (z + 6) = z + 6 := by rw [i64_w]; exact wrap_ok (by omega) (by omega)
  go_wp2_with fail
  refine (nextC g l0 0 (z + 6) w w2 HS3.out (by omega) hF (by omega) (by omega)).mono ?_
  rintro e w3 ⟨q, rfl, hq0, hq1, hS, hK⟩
  have HS4 := Lib.hid hS
  have HR4 := Lib.hid (Kd.R_keep HR3.out hK (fun k hk => hk))
  clear hS hK HS3 HR3 HB3
  have p2 : IntKind.wrap .i64 (1 + q) = 1 + q := by rw [i64_w]; exact wrap_ok (by omega) (by omega)
  obtain ⟨N, hN⟩ : ∃ N, 1 + q = N := ⟨_, rfl⟩
  have hN1 : 1 ≤ N ∧ N ≤ 26 := by omega
  clear hz0 hz1
  go_wp2_with fail
  go_loopw [4, 5] (fun o i wr => ∃ (out : List Nat), i = .int .i64 (N - out.length) ∧ (out.length : Int) ≤ N ∧ fl.R 23 wr w.heap.size (fun k => k ≠ g) o out ∧ (∀ j : Nat, j < out.length → Smp (cd (rdOf 0 out (j : Int)))) ∧ Sr w wr g l0 (3 + 3 * out.length)) (fun _ i _ => (intOf i).toNat)
  case atStart => exact ⟨[], by rw [← hN]; simp, by simp; omega, HR4.out, fun j hj => absurd hj (by simp), HS4.out⟩
  case round =>
    clear HS4 HR4
    obtain ⟨out, rfl, hle, hR, hsm, hS⟩ := hrel
    have HR := Lib.hid hR; have HSM := Lib.hid hsm; have HS := Lib.hid hS
    clear hR hsm hS
    by_cases hlt : (out.length : Int) < N
    · go_wp2_with fail
      refine (nextC g l0 _ 4000 w wr HS.out (by omega) hF (by omega) (by omega)).mono ?_
      rintro e w5 ⟨q5, rfl, hq50, hq51, hS, hK⟩
      have HS5 := Lib.hid hS
      have HR5 := Lib.hid (Kd.R_keep HR.out hK (fun k hk => hk))
      have HB5 := Lib.hid (show Below w.heap.size w w5 by obtain ⟨x, sd, _, _, _, _, _, h⟩ := hS; exact h)
      have hg5 : g < w5.heap.size := by obtain ⟨x, sd, hI, _⟩ := hS; exact hI.lt
      clear hS hK HS HR
      have hbase := HB5.out.size
      have p3 : IntKind.wrap .i64 (q5 - 2000) = q5 - 2000 := by rw [i64_w]; exact wrap_ok (by omega) (by omega)
      go_wp2_with (first | ((with_reducible refine gate_builtin (b := .append) (xs := #[.tmp 19, .tmp 25]) rfl ?_); at_builtin; refine Kd.R_append fl (w0 := w) w.heap.size rfl (.tmp 19) (.tmp 25) 22 23 (.float .f64 0) 8 rfl Try.underlying22 info23 rfl (by decide) (by decide) u4 out r [.float .f64 r] (fun k => k ≠ g) (fun _ => False) rfl rfl rfl (fun _ h => h.elim) (fun k hk => by have : w5.heap.size ≤ k := hk; omega) (Kd.R_drewN HR5.out _) (pw_below_drewN HB5.out _) hbase (by omega) ?_; intro v1 w6 hR6 hB6 hg6 hat6) | (refine wp_float _ rfl _ (by first | exact .inl rfl | exact .inr (.inl rfl) | exact .inr (.inr (.inl rfl)) | exact .inr (.inr (.inr rfl))) _ _ _ _ rfl _ _ rfl rfl ?_; intro r n hr))
      have HS6 := Lib.hid (show Sr w w6 g l0 (3 + 3 * (out.length : Int) + 3) by
        obtain ⟨x, sd, hI, h1, h2, h3, h4, h5⟩ := HS5.out
        refine ⟨x, sd, ?_, h1, h2, h3, h4, hB6⟩
        exact IsS56.grown (IsS56.drewN hI _) hg6 (hI.own_ne HR5.out (by decide)))
      have HR6 := Lib.hid hR6
      clear hR6 hB6 hg6 hat6 HS5 HR5 HB5
      go_wp2_with fail
      go_roundw
      case measure => simp [intOf]; omega
      case rel =>
        refine ⟨out ++ [r], ?_, ?_, HR6.out, ?_, ?_⟩
        · rw [List.length_append, List.length_singleton]
          first | rfl | (congr 1; omega)
        · rw [List.length_append, List.length_singleton]; omega
        · intro j hj
          rw [rdOf_snoc out r j hj]
          split
          · exact HSM.out j (by assumption)
          · refine ⟨q5.toNat, by omega, ?_⟩
            rw [hr]
            unfold smp
            rw [show ((q5.toNat : Nat) : Int) = q5 by omega]
        · rw [List.length_append, List.length_singleton]
          exact HS6.out.mono (by omega)
    · have hNe : (out.length : Int) = N := by omega
      have HB := Lib.hid (show Below w.heap.size w wr by obtain ⟨x, sd, _, _, _, _, _, h⟩ := HS.out; exact h)
      go_wp2_with fail
      go_ret
      exact ⟨_, rfl, out, Kd.R_mono HR.out (fun _ _ => trivial), by omega, by omega, HSM.out, HB.out⟩
end Go.Proofs.Ytjldnehlcplccaa.Src
