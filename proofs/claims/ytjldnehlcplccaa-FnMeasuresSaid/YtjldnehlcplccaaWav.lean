/- Floats: Waves8, the specification's and the program's, walked. -/
import Derived.Test.YtjldnehlcplccaaShr
namespace Go.Proofs.Ytjldnehlcplccaa.Flo
open Go.RowKit Go.Proofs.YtjldnehlcplccaaW.PrintWords Go.Proofs.YtjldnehlcplccaaW.PrintLast Go.Proofs.YtjldnehlcplccaaW.PrintMore
open Ieee
set_option linter.unusedSimpArgs false
set_option linter.unusedVariables false
attribute [local go_sem] run_store_float

def cB : List Nat := [4607182418800017408, 4604544271217802189, 0, 13827916308072577997, 13830554455654793216, 13827916308072577997, 0, 4604544271217802189]
def sB : List Nat := [0, 13827916308072577997, 13830554455654793216, 13827916308072577997, 0, 4604544271217802189, 4607182418800017408, 4604544271217802189]
def tc (k n : Nat) : Datum := cd (rdOf 0 cB ((k * n % 8 : Nat) : Int))
def ts (k n : Nat) : Datum := cd (rdOf 0 sB ((k * n % 8 : Nat) : Int))
def reAt (X : Nat → Datum) (k : Nat) : Nat → Datum
  | 0 => cd 0
  | n + 1 => fop .add (reAt X k n) (fop .sub (fop .mul (X n) (tc k n)) (fop .mul (cd 0) (ts k n)))
def imAt (X : Nat → Datum) (k : Nat) : Nat → Datum
  | 0 => cd 0
  | n + 1 => fop .add (imAt X k n) (fop .add (fop .mul (X n) (ts k n)) (fop .mul (cd 0) (tc k n)))
def wvTo (X : Nat → Datum) : Nat → List Datum
  | 0 => []
  | k + 1 => wvTo X k ++ [reAt X k 8, imAt X k 8]
def wvCode (xs : List Nat) : Int := if 1000 < xs.length then 10 else if xs.length = 8 then 0 else 1
def wvOut (xs : List Nat) : List Datum := if wvCode xs = 0 then wvTo (fun i => cd (rdOf 0 xs (i : Int))) 8 else []
theorem wvTo_len (X : Nat → Datum) : ∀ k, (wvTo X k).length = 2 * k
  | 0 => rfl
  | k + 1 => by simp [wvTo, wvTo_len X k]; omega
theorem cells_start2 (A B : Array Value) (F : Array Value) (w : World) : ∃ W, W = ((w.alloc (.cells A 23)).alloc (.cells B 23)).alloc (.cells F 23) ∧ W.heap.size = w.heap.size + 1 + 1 + 1 ∧ Below w.heap.size w W ∧
    (∀ o, W.cell? ⟨w.heap.size, o, none⟩ = A[o]?) ∧ (∀ o, W.cell? ⟨w.heap.size + 1, o, none⟩ = B[o]?) := by
  refine ⟨_, rfl, by simp, (((Below.refl _ w).alloc (Nat.le_refl _) _).alloc (by simp) _).alloc (by simp; omega) _, ?_, ?_⟩
  · intro o
    refine cell_of_row _ _ o A 23 (0, 0) ?_
    rw [Below.heap_alloc _ _ _ (by simp; omega), Below.heap_alloc _ _ _ (by simp)]
    exact heap_alloc_new w _
  · intro o
    refine cell_of_row _ _ o B 23 (0, 0) ?_
    rw [Below.heap_alloc _ _ _ (by simp)]
    have h := heap_alloc_new (w.alloc (.cells A 23)) (.cells B 23)
    simpa using h
theorem lit_R (L : List Nat) (W : World) (base : Nat) (hb : base ≤ W.heap.size) (hl : L.length ≤ 9223372036854775807) :
    fl.R 23 (W.alloc (.cells (L.map (Value.float .f64)).toArray 23)) base (fun _ => True) (.slice (some ⟨W.heap.size, 0, none⟩) L.length L.length) L := by
  refine Kd.R_of_own ?_ (fun _ _ => trivial)
  have h2 := World.ownsRow_lit (base := base) (e := 23) (size := 1) W (L.map (Value.float .f64)).toArray L.length hb (by simpa [maxLen] using hl) (by simp)
  unfold encs
  simpa using h2
theorem lit_C (L : List Nat) (W : World) (hl : L.length ≤ 9223372036854775807) : fl.C (W.alloc (.cells (L.map (Value.float .f64)).toArray 23)) (some ⟨W.heap.size, 0, none⟩) L.length L := by
  obtain ⟨A, c, e, _, h⟩ := Kd.R_reads (lit_R L W W.heap.size (Nat.le_refl _) hl)
  injection e with e1 e2 e3
  subst e1
  exact h
theorem tab_cell (L : List Nat) (o : Nat) (h : o < L.length) : ((L.map (Value.float .f64)).toArray)[o]? = some (.float .f64 (rdOf 0 L (o : Int))) := by
  have := rdOf_get 0 L (o : Int) (by omega) (by omega)
  rw [show ((o : Int)).toNat = o by omega] at this
  simp [this]

set_option maxHeartbeats 4000000 in
set_option maxRecDepth 100000 in
theorem specWaves (v : Value) (xs : List Nat) (w : World) (h : Rd fl w v xs) :
    Calls Try.prog 18 #[v] w fun e w' => Ans w w' e (wvCode xs) (wvOut xs) := by
  obtain ⟨A, c, rfl, hc, hr⟩ := h
  have HR := Lib.hid hr
  clear hr
  by_cases hm : 1000 < (xs.length : Int)
  · have hcode : wvCode xs = 10 := by unfold wvCode; rw [if_pos (by omega)]
    have hout : wvOut xs = [] := by unfold wvOut; rw [hcode]; rfl
    have HC := Lib.hid hcode
    have HO := Lib.hid hout
    clear hcode hout
    go_enter Try.func18, Try.ntmps18
    go_wp2_with fail
    go_ret2
    exact Ans.mk _ [] (by rw [HC.out]; rfl) (R_lit0 fl 23 w) (by rw [HO.out]; rfl) ((Below.refl _ w).alloc (Nat.le_refl _) _)
  by_cases h8 : xs.length = 8
  · have hcode : wvCode xs = 0 := by unfold wvCode; rw [if_neg (by omega), if_pos h8]
    have hout : wvOut xs = wvTo (fun i => cd (rdOf 0 xs (i : Int))) 8 := by unfold wvOut; rw [if_pos hcode]
    have HC := Lib.hid hcode
    have HO := Lib.hid hout
    clear hcode hout
    rw [h8]
    have HR8 := HR.out
    rw [h8] at HR8
    have HR := Lib.hid HR8
    clear HR8
    have hneg : Op.unary .neg (.float .f64 4604544271217802189) = pure (.float .f64 13827916308072577997) := by
      have : Op.negFloat .f64 4604544271217802189 = 13827916308072577997 := by decide
      show pure (Value.float .f64 (Op.negFloat .f64 4604544271217802189)) = _
      rw [this]
    go_enter Try.func18, Try.ntmps18
    go_wp2_with fail
    go_loopw [7, 8] (fun o i wr => ∃ k : Int, ∃ out : List Nat, 0 ≤ k ∧ k ≤ 8 ∧ i = .int .i64 k ∧ fl.R 23 wr (w.heap.size + 1 + 1) (fun _ => True) o out ∧ out.map cd = wvTo (fun i => cd (rdOf 0 xs (i : Int))) k.toNat ∧ Below w.heap.size w wr ∧ w.heap.size + 1 + 1 ≤ wr.heap.size ∧ (∀ j : Nat, j < 8 → wr.cell? ⟨w.heap.size, j, none⟩ = some (.float .f64 (rdOf 0 cB (j : Int)))) ∧ (∀ j : Nat, j < 8 → wr.cell? ⟨w.heap.size + 1, j, none⟩ = some (.float .f64 (rdOf 0 sB (j : Int))))) (fun _ i _ => 8 - (intOf i).toNat)
    case atStart =>
      obtain ⟨W, hW, hs, hb, hC, hS⟩ := cells_start2 (cB.map (Value.float .f64)).toArray (sB.map (Value.float .f64)).toArray #[] w
      refine ⟨0, [], Int.le_refl _, by omega, rfl, ?_, rfl, ?_, ?_, ?_, ?_⟩
      · have := R_lit0 fl 23 ((w.alloc (.cells (cB.map (Value.float .f64)).toArray 23)).alloc (.cells (sB.map (Value.float .f64)).toArray 23))
        simpa [cB, sB] using this
      · exact (((Below.refl _ w).alloc (Nat.le_refl _) _).alloc (by simp) _).alloc (by simp; omega) _
      · simp
      · intro j hj
        have h9 := hC j
        rw [tab_cell cB j hj, hW] at h9
        exact h9
      · intro j hj
        have h9 := hS j
        rw [tab_cell sB j hj, hW] at h9
        exact h9
    case round =>
      obtain ⟨k, out, hk0, hk8, rfl, hR, hout, hB, hsz, hC, hS⟩ := hrel
      have HRO := Lib.hid hR
      have HOUT := Lib.hid hout
      have HB := Lib.hid hB
      have HCC := Lib.hid hC
      have HSS := Lib.hid hS
      clear hR hout hB hC hS
      by_cases hk : k < 8
      · go_wp2_with fail
        go_loopw [9, 10, 11] (fun r m i w2 => ∃ n : Int, ∃ rb ib : Nat, 0 ≤ n ∧ n ≤ 8 ∧ i = .int .i64 n ∧ r = .float .f64 rb ∧ m = .float .f64 ib ∧ cd rb = reAt (fun i => cd (rdOf 0 xs (i : Int))) k.toNat n.toNat ∧ cd ib = imAt (fun i => cd (rdOf 0 xs (i : Int))) k.toNat n.toNat ∧ ∃ q, w2 = wr.drewN q) (fun _ _ i _ => 8 - (intOf i).toNat)
        case atStart => exact ⟨0, 0, 0, Int.le_refl _, by omega, rfl, rfl, rfl, rfl, rfl, 0, rfl⟩
        case round =>
          obtain ⟨n, rb, ib, hn0, hn8, rfl, rfl, rfl, hrb, hib, q, rfl⟩ := hrel
          have HRB := Lib.hid hrb
          have HIB := Lib.hid hib
          clear hrb hib
          by_cases hn : n < 8
          · obtain ⟨ad, eA, g0⟩ := at_scalar 0 HR.out n hn0 hn
            subst eA
            replace g0 := (HB.out.cell (World.block_lt_of_cell? w _ g0)).trans g0
            have hp0 : 0 ≤ k * n := Int.mul_nonneg hk0 hn0
            have hp1 : k * n ≤ 64 := by
              have h1 : k * n ≤ 8 * n := Int.mul_le_mul_of_nonneg_right (by omega) hn0
              omega
            obtain ⟨J, hJ⟩ : ∃ J : Nat, J = k.toNat * n.toNat % 8 := ⟨_, rfl⟩
            have hJ8 : J < 8 := by omega
            have hmod : (k * n).tmod 8 = (J : Int) := by
              have e3 : k * n = ((k.toNat * n.toNat : Nat) : Int) := by rw [Int.natCast_mul, Int.toNat_of_nonneg hk0, Int.toNat_of_nonneg hn0]
              rw [hJ, Int.tmod_eq_emod_of_nonneg hp0, e3]
              exact (Int.natCast_emod _ _).symm
            have gc := HCC.out J hJ8
            have gs := HSS.out J hJ8
            have HJ := Lib.hid hJ
            clear hJ
            have hw64 : wrap64 (k * n) = k * n := by unfold wrap64; omega
            have hwi : IntKind.i64.wrap (k * n) = k * n := by rw [IntKind.wrap_i64]; omega
            go_wp2_with (refine wp_float _ rfl _ (by first | exact .inl rfl | exact .inr (.inl rfl) | exact .inr (.inr (.inl rfl)) | exact .inr (.inr (.inr rfl))) _ _ _ _ rfl _ _ rfl rfl ?_; intro r m hr)
            go_roundw
            case measure => simp [intOf]; omega
            case rel =>
              have e9 : (n + 1).toNat = n.toNat + 1 := by omega
              have e8 : ((n.toNat : Nat) : Int) = n := by omega
              refine ⟨n + 1, _, _, by omega, by omega, rfl, rfl, rfl, ?_, ?_, _, rfl⟩
              · rw [e9]
                show _ = fop .add (reAt _ k.toNat n.toNat) (fop .sub (fop .mul (cd (rdOf 0 xs ((n.toNat : Nat) : Int))) (tc k.toNat n.toNat)) (fop .mul (cd 0) (ts k.toNat n.toNat)))
                unfold tc ts
                rw [← HJ.out, e8, ← HRB.out]
                clear hneg gc gs g0
                simp only [*]
              · rw [e9]
                show _ = fop .add (imAt _ k.toNat n.toNat) (fop .add (fop .mul (cd (rdOf 0 xs ((n.toNat : Nat) : Int))) (ts k.toNat n.toNat)) (fop .mul (cd 0) (tc k.toNat n.toNat)))
                unfold tc ts
                rw [← HJ.out, e8, ← HIB.out]
                clear hneg gc gs g0
                simp only [*]
          · have hn9 : n.toNat = 8 := by omega
            have hol : out.length = 2 * k.toNat := by have := congrArg List.length HOUT.out; rw [wvTo_len] at this; simpa using this
            have hBq : Below w.heap.size w ((wr.drewN q).alloc (.cells #[.float .f64 rb, .float .f64 ib] 23)) := (pw_below_drewN HB.out q).alloc (show w.heap.size ≤ wr.heap.size by omega) _
            have HBq := Lib.hid hBq
            clear hBq
            go_wp2_with ((with_reducible refine gate_builtin (b := .append) (xs := #[.tmp 96, .tmp 99]) rfl ?_); at_builtin; refine Kd.R_append_rows fl (Rr := fun x cs => cs = [.float .f64 x]) (w0 := (wr.drewN q).alloc (.cells #[.float .f64 rb, .float .f64 ib] 23)) (w.heap.size + 1 + 1) rfl (.tmp 96) (.tmp 99) 22 23 (.float .f64 0) 8 rfl Try.underlying22 info23 rfl (by decide) (by decide) u7 out [rb, ib] _ _ _ (fun _ => True) (fun _ => False) rfl rfl (Kd.R_alloc (Kd.R_drewN HRO.out q) _) (lit_C [rb, ib] (wr.drewN q) (by simp)) (fun _ _ h => h) (fun _ h => h.elim) (fun _ _ => trivial) (Below.refl _ _) (by show w.heap.size + 1 + 1 ≤ _; simp; omega) (by omega) ?_; intro v1 w1 hR1 hB1 hg1 hg2; clear hg1 hg2)
            have HR2 := Lib.hid hR1
            have HB2 := Lib.hid hB1
            clear hR1 hB1
            go_wp2_with fail
            go_roundw
            case measure => simp [intOf]; omega
            case rel =>
              have hal : ∀ b o, b < wr.heap.size → ((wr.drewN q).alloc (.cells #[.float .f64 rb, .float .f64 ib] 23)).cell? ⟨b, o, none⟩ = wr.cell? ⟨b, o, none⟩ := fun b o hb => (below_alloc (pw_below_drewN (Below.refl _ wr) q) _).cell (p := ⟨b, o, none⟩) hb
              have hsz2 := HB2.out.size
              refine ⟨k + 1, _, by omega, by omega, rfl, HR2.out, ?_, below_weaken HBq.out (by omega) HB2.out, ?_, ?_, ?_⟩
              · rw [show (k + 1).toNat = k.toNat + 1 by omega, List.map_append, HOUT.out]
                show _ ++ [cd rb, cd ib] = wvTo _ k.toNat ++ [reAt _ k.toNat 8, imAt _ k.toNat 8]
                rw [HRB.out, HIB.out, hn9]
              · simp at hsz2; omega
              · intro j hj
                rw [HB2.out.cell (p := ⟨w.heap.size, j, none⟩) (show w.heap.size < _ by omega), hal _ _ (by omega)]
                exact HCC.out j hj
              · intro j hj
                rw [HB2.out.cell (p := ⟨w.heap.size + 1, j, none⟩) (show w.heap.size + 1 < _ by omega), hal _ _ (by omega)]
                exact HSS.out j hj
      · go_wp2_with fail
        go_ret2
        exact Ans.mk _ out (by rw [HC.out]; rfl) (Kd.R_lower HRO.out (by omega)) (by rw [HO.out, HOUT.out, show k.toNat = 8 by omega]) HB.out
  · have hcode : wvCode xs = 1 := by unfold wvCode; rw [if_neg (by omega), if_neg h8]
    have hout : wvOut xs = [] := by unfold wvOut; rw [hcode]; rfl
    have HC := Lib.hid hcode
    have HO := Lib.hid hout
    clear hcode hout
    have h81 : ((xs.length : Int) == 8) = false := by simp; omega
    have h82 : ((xs.length : Int) != 8) = true := by simp; omega
    go_enter Try.func18, Try.ntmps18
    go_wp2_with fail
    go_ret2
    exact Ans.mk _ [] (by rw [HC.out]; rfl) (R_lit0 fl 23 w) (by rw [HO.out]; rfl) ((Below.refl _ w).alloc (Nat.le_refl _) _)
end Go.Proofs.Ytjldnehlcplccaa.Flo
