/- Floats: Waves8, the program's, walked. -/
import Derived.Test.YtjldnehlcplccaaWav
namespace Go.Proofs.Ytjldnehlcplccaa.Flo
open Go.RowKit Go.Proofs.YtjldnehlcplccaaW.PrintWords Go.Proofs.YtjldnehlcplccaaW.PrintLast Go.Proofs.YtjldnehlcplccaaW.PrintMore
open Ieee
set_option linter.unusedSimpArgs false
set_option linter.unusedVariables false
attribute [local go_sem] run_store_float

def tB : List Nat := [4607182418800017408, 0, 4604544271217802189, 13827916308072577997, 0, 13830554455654793216, 13827916308072577997, 13827916308072577997, 13830554455654793216, 0, 13827916308072577997, 4604544271217802189, 0, 4607182418800017408, 4604544271217802189, 4604544271217802189]
theorem tB_even (j : Nat) (h : j < 8) : rdOf 0 tB ((j * 2 : Nat) : Int) = rdOf 0 cB (j : Int) := by
  rcases j with _ | _ | _ | _ | _ | _ | _ | _ | j <;> first | rfl | omega
theorem tB_odd (j : Nat) (h : j < 8) : rdOf 0 tB ((j * 2 + 1 : Nat) : Int) = rdOf 0 sB (j : Int) := by
  rcases j with _ | _ | _ | _ | _ | _ | _ | _ | j <;> first | rfl | omega

set_option maxHeartbeats 4000000 in
set_option maxRecDepth 100000 in
theorem implWaves (v : Value) (xs : List Nat) (w : World) (h : Rd fl w v xs) :
    Calls Try.prog 19 #[v] w fun e w' => Ans w w' e (wvCode xs) (wvOut xs) := by
  obtain ⟨A, c, rfl, hc, hr⟩ := h
  have HR := Lib.hid hr
  clear hr
  by_cases hm : 1000 < (xs.length : Int)
  · have hcode : wvCode xs = 10 := by unfold wvCode; rw [if_pos (by omega)]
    have hout : wvOut xs = [] := by unfold wvOut; rw [hcode]; rfl
    have HC := Lib.hid hcode
    have HO := Lib.hid hout
    clear hcode hout
    go_enter Try.func19, Try.ntmps19
    go_wp2_with fail
    go_ret2
    exact Ans.mk _ [] (by rw [HC.out]; rfl) (Kd.R_nil fl 23 w _ _) (by rw [HO.out]; rfl) (Below.refl _ w)
  by_cases h8 : xs.length = 8
  · have hcode : wvCode xs = 0 := by unfold wvCode; rw [if_neg (by omega), if_pos h8]
    have hout : wvOut xs = wvTo (fun i => cd (rdOf 0 xs (i : Int))) 8 := by unfold wvOut; rw [if_pos hcode]
    have HC := Lib.hid hcode
    have HO := Lib.hid hout
    clear hcode hout
    rw [h8]
    have HR8 := HR.out
    rw [h8] at HR8
    have HR := Lib.hid HR8
    clear HR8
    go_enter Try.func19, Try.ntmps19
    go_wp2_with fail
    go_loopw [5, 31] (fun o i wr => ∃ k : Int, ∃ out : List Nat, 0 ≤ k ∧ k ≤ 8 ∧ i = .int .i64 k ∧ fl.R 23 wr (w.heap.size + 1) (fun _ => True) o out ∧ out.map cd = wvTo (fun i => cd (rdOf 0 xs (i : Int))) k.toNat ∧ Below w.heap.size w wr ∧ w.heap.size + 1 ≤ wr.heap.size ∧ (∀ j : Nat, j < 8 → wr.cell? ⟨w.heap.size, j * 2, none⟩ = some (.float .f64 (rdOf 0 cB (j : Int)))) ∧ (∀ j : Nat, j < 8 → wr.cell? ⟨w.heap.size, j * 2 + 1, none⟩ = some (.float .f64 (rdOf 0 sB (j : Int))))) (fun _ i _ => 8 - (intOf i).toNat)
    case atStart =>
      have hcell : ∀ o, (w.alloc (.cells (tB.map (Value.float .f64)).toArray 51)).cell? ⟨w.heap.size, o, none⟩ = ((tB.map (Value.float .f64)).toArray)[o]? := fun o => cell_of_row _ _ o _ 51 (0, 0) (heap_alloc_new w _)
      refine ⟨0, [], Int.le_refl _, by omega, rfl, Kd.R_nil fl 23 _ _ _, rfl, (Below.refl _ w).alloc (Nat.le_refl _) _, by simp, ?_, ?_⟩
      · intro j hj
        refine (hcell (j * 2)).trans ?_
        rw [tab_cell tB _ (by simp [tB]; omega)]
        exact congrArg (fun z => some (Value.float .f64 z)) (tB_even j hj)
      · intro j hj
        refine (hcell (j * 2 + 1)).trans ?_
        rw [tab_cell tB _ (by simp [tB]; omega)]
        exact congrArg (fun z => some (Value.float .f64 z)) (tB_odd j hj)
    case round =>
      obtain ⟨k, out, hk0, hk8, rfl, hR, hout, hB, hsz, hC, hS⟩ := hrel
      have HRO := Lib.hid hR
      have HOUT := Lib.hid hout
      have HB := Lib.hid hB
      have HCC := Lib.hid hC
      have HSS := Lib.hid hS
      clear hR hout hB hC hS
      by_cases hk : k < 8
      · go_wp2_with fail
        go_loopw [8, 9, 36] (fun r m i w2 => ∃ n : Int, ∃ rb ib : Nat, 0 ≤ n ∧ n ≤ 8 ∧ i = .int .i64 n ∧ r = .float .f64 rb ∧ m = .float .f64 ib ∧ cd rb = reAt (fun i => cd (rdOf 0 xs (i : Int))) k.toNat n.toNat ∧ cd ib = imAt (fun i => cd (rdOf 0 xs (i : Int))) k.toNat n.toNat ∧ ∃ q, w2 = wr.drewN q) (fun _ _ i _ => 8 - (intOf i).toNat)
        case atStart => exact ⟨0, 0, 0, Int.le_refl _, by omega, rfl, rfl, rfl, rfl, rfl, 0, rfl⟩
        case round =>
          obtain ⟨n, rb, ib, hn0, hn8, rfl, rfl, rfl, hrb, hib, q, rfl⟩ := hrel
          have HRB := Lib.hid hrb
          have HIB := Lib.hid hib
          clear hrb hib
          by_cases hn : n < 8
          · obtain ⟨ad, eA, g0⟩ := at_scalar 0 HR.out n hn0 hn
            subst eA
            replace g0 := (HB.out.cell (World.block_lt_of_cell? w _ g0)).trans g0
            have hp0 : 0 ≤ k * n := Int.mul_nonneg hk0 hn0
            have hp1 : k * n ≤ 64 := by
              have h1 : k * n ≤ 8 * n := Int.mul_le_mul_of_nonneg_right (by omega) hn0
              omega
            obtain ⟨J, hJ⟩ : ∃ J : Nat, J = k.toNat * n.toNat % 8 := ⟨_, rfl⟩
            have hJ8 : J < 8 := by omega
            have hmod : (k * n).tmod 8 = (J : Int) := by
              have e3 : k * n = ((k.toNat * n.toNat : Nat) : Int) := by rw [Int.natCast_mul, Int.toNat_of_nonneg hk0, Int.toNat_of_nonneg hn0]
              rw [hJ, Int.tmod_eq_emod_of_nonneg hp0, e3]
              exact (Int.natCast_emod _ _).symm
            have gc := HCC.out J hJ8
            have gs := HSS.out J hJ8
            have HJ := Lib.hid hJ
            clear hJ
            have hw64 : wrap64 (k * n) = k * n := by unfold wrap64; omega
            have hwi : IntKind.i64.wrap (k * n) = k * n := by rw [IntKind.wrap_i64]; omega
            go_wp2_with fail
            go_quiet (fail)
            go_wp2_with (refine wp_float _ rfl _ (by first | exact .inl rfl | exact .inr (.inl rfl) | exact .inr (.inr (.inl rfl)) | exact .inr (.inr (.inr rfl))) _ _ _ _ rfl _ _ rfl rfl ?_; intro r m hr)
            go_roundw
            case measure => simp [intOf]; omega
            case rel =>
              have e9 : (n + 1).toNat = n.toNat + 1 := by omega
              have e8 : ((n.toNat : Nat) : Int) = n := by omega
              refine ⟨n + 1, _, _, by omega, by omega, rfl, rfl, rfl, ?_, ?_, _, rfl⟩
              · rw [e9]
                show _ = fop .add (reAt _ k.toNat n.toNat) (fop .sub (fop .mul (cd (rdOf 0 xs ((n.toNat : Nat) : Int))) (tc k.toNat n.toNat)) (fop .mul (cd 0) (ts k.toNat n.toNat)))
                unfold tc ts
                rw [← HJ.out, e8, ← HRB.out]
                clear gc gs g0
                simp only [*]
              · rw [e9]
                show _ = fop .add (imAt _ k.toNat n.toNat) (fop .add (fop .mul (cd (rdOf 0 xs ((n.toNat : Nat) : Int))) (ts k.toNat n.toNat)) (fop .mul (cd 0) (tc k.toNat n.toNat)))
                unfold tc ts
                rw [← HJ.out, e8, ← HIB.out]
                clear gc gs g0
                simp only [*]
          · have hn9 : n.toNat = 8 := by omega
            have hol : out.length = 2 * k.toNat := by have := congrArg List.length HOUT.out; rw [wvTo_len] at this; simpa using this
            have hBq : Below w.heap.size w ((wr.drewN q).alloc (.cells #[.float .f64 rb, .float .f64 ib] 23)) := (pw_below_drewN HB.out q).alloc (show w.heap.size ≤ wr.heap.size by omega) _
            have HBq := Lib.hid hBq
            clear hBq
            go_wp2_with ((with_reducible refine gate_builtin (b := .append) (xs := #[.tmp 74, .tmp 77]) rfl ?_); at_builtin; refine Kd.R_append_rows fl (Rr := fun x cs => cs = [.float .f64 x]) (w0 := (wr.drewN q).alloc (.cells #[.float .f64 rb, .float .f64 ib] 23)) (w.heap.size + 1) rfl (.tmp 74) (.tmp 77) 22 23 (.float .f64 0) 8 rfl Try.underlying22 info23 rfl (by decide) (by decide) u5 out [rb, ib] _ _ _ (fun _ => True) (fun _ => False) rfl rfl (Kd.R_alloc (Kd.R_drewN HRO.out q) _) (lit_C [rb, ib] (wr.drewN q) (by simp)) (fun _ _ h => h) (fun _ h => h.elim) (fun _ _ => trivial) (Below.refl _ _) (by show w.heap.size + 1 ≤ _; simp; omega) (by omega) ?_; intro v1 w1 hR1 hB1 hg1 hg2; clear hg1 hg2)
            have HR2 := Lib.hid hR1
            have HB2 := Lib.hid hB1
            clear hR1 hB1
            go_wp2_with fail
            go_roundw
            case measure => simp [intOf]; omega
            case rel =>
              have hal : ∀ b o, b < wr.heap.size → ((wr.drewN q).alloc (.cells #[.float .f64 rb, .float .f64 ib] 23)).cell? ⟨b, o, none⟩ = wr.cell? ⟨b, o, none⟩ := fun b o hb => (below_alloc (pw_below_drewN (Below.refl _ wr) q) _).cell (p := ⟨b, o, none⟩) hb
              have hsz2 := HB2.out.size
              refine ⟨k + 1, _, by omega, by omega, rfl, HR2.out, ?_, below_weaken HBq.out (by omega) HB2.out, ?_, ?_, ?_⟩
              · rw [show (k + 1).toNat = k.toNat + 1 by omega, List.map_append, HOUT.out]
                show _ ++ [cd rb, cd ib] = wvTo _ k.toNat ++ [reAt _ k.toNat 8, imAt _ k.toNat 8]
                rw [HRB.out, HIB.out, hn9]
              · simp at hsz2; omega
              · intro j hj
                rw [HB2.out.cell (p := ⟨w.heap.size, j * 2, none⟩) (show w.heap.size < _ by omega), hal _ _ (by omega)]
                exact HCC.out j hj
              · intro j hj
                rw [HB2.out.cell (p := ⟨w.heap.size, j * 2 + 1, none⟩) (show w.heap.size < _ by omega), hal _ _ (by omega)]
                exact HSS.out j hj
      · go_wp2_with fail
        go_ret2
        exact Ans.mk _ out (by rw [HC.out]; rfl) (Kd.R_lower HRO.out (by omega)) (by rw [HO.out, HOUT.out, show k.toNat = 8 by omega]) HB.out
  · have hcode : wvCode xs = 1 := by unfold wvCode; rw [if_neg (by omega), if_neg h8]
    have hout : wvOut xs = [] := by unfold wvOut; rw [hcode]; rfl
    have HC := Lib.hid hcode
    have HO := Lib.hid hout
    clear hcode hout
    have h81 : ((xs.length : Int) == 8) = false := by simp; omega
    have h82 : ((xs.length : Int) != 8) = true := by simp; omega
    go_enter Try.func19, Try.ntmps19
    go_wp2_with fail
    go_ret2
    exact Ans.mk _ [] (by rw [HC.out]; rfl) (Kd.R_nil fl 23 w _ _) (by rw [HO.out]; rfl) (Below.refl _ w)
end Go.Proofs.Ytjldnehlcplccaa.Flo
