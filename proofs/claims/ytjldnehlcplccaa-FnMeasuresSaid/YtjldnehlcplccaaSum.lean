/- Floats: Summary, the specification's and the program's, walked. -/
import Derived.Test.YtjldnehlcplccaaShr
import Derived.BigRegion
import Derived.Laws.ResultCell
namespace Go.Proofs.Ytjldnehlcplccaa.Flo
open Go.RowKit Go.Proofs.YtjldnehlcplccaaW.PrintWords Go.Proofs.YtjldnehlcplccaaW.PrintLast Go.Proofs.YtjldnehlcplccaaW.PrintMore
open Ieee
set_option linter.unusedSimpArgs false
set_option linter.unusedVariables false
attribute [local go_sem] run_store_float

@[local go_sem] theorem cell_set_off {w : World} {b o o' : Nat} {v : Value} (h : o ≠ o') : (w.setCell ⟨b, o, none⟩ v).cell? ⟨b, o', none⟩ = w.cell? ⟨b, o', none⟩ := World.cell?_setCell_other _ _ _ _ (by simp [h])
@[local go_sem] theorem cell_set_far {w : World} {b b' o o' : Nat} {v : Value} (h : b ≠ b') : (w.setCell ⟨b, o, none⟩ v).cell? ⟨b', o', none⟩ = w.cell? ⟨b', o', none⟩ := World.cell?_setCell_other _ _ _ _ (by simp [h])
@[local go_sem] theorem frozen_set {w : World} {a c : Addr} {v : Value} : (w.setCell a v).frozen? c = w.frozen? c := World.frozen?_setCell _ _ _ _
/-- What stands behind n samples: the mean, the sum of the squares. -/
def meanAt (X : Nat → Datum) : Nat → Datum
  | 0 => cd 0
  | n + 1 => fop .add (meanAt X n) (fop .quo (fop .sub (X n) (meanAt X n)) (cd (floatOfInt .f64 ((n : Int) + 1))))
def sqAt (X : Nat → Datum) : Nat → Datum
  | 0 => cd 0
  | n + 1 => fop .add (sqAt X n) (fop .mul (fop .sub (X n) (meanAt X n)) (fop .sub (X n) (meanAt X (n + 1))))
/-- The least and the greatest so far, as words. -/
def minAt (X : Nat → Nat) : Nat → Nat
  | 0 => X 0
  | n + 1 => if (FloatKind.f64.format.order (X n) (minAt X n) == some .lt) then X n else minAt X n
def maxAt (X : Nat → Nat) : Nat → Nat
  | 0 => X 0
  | n + 1 => if (FloatKind.f64.format.order (X n) (maxAt X n) == some .gt) then X n else maxAt X n

/-- What a call answers that hands back a measure and a code. -/
def AnsM (w w' : World) (e : Ending) (code N : Int) (mean var : Datum) (mn mx : Nat) : Prop := ∃ a b : Nat, e = .returned (.tuple #[.agg #[.int .i64 N, .float .f64 a, .float .f64 b, .float .f64 mn, .float .f64 mx], .int .i64 code]) ∧ cd a = mean ∧ cd b = var ∧ Below w.heap.size w w'
theorem AnsM.mk {w w' : World} {e : Ending} {code N : Int} {mean var : Datum} {mn mx : Nat} (a b : Nat) (he : e = .returned (.tuple #[.agg #[.int .i64 N, .float .f64 a, .float .f64 b, .float .f64 mn, .float .f64 mx], .int .i64 code])) (ha : cd a = mean) (hb : cd b = var) (hB : Below w.heap.size w w') : AnsM w w' e code N mean var mn mx := ⟨a, b, he, ha, hb, hB⟩

set_option maxHeartbeats 4000000 in
set_option maxRecDepth 100000 in
theorem implSummary0 (v : Value) (xs : List Nat) (w : World) (h : Rd fl w v xs) (h0 : 0 < xs.length) (h1 : xs.length ≤ 1000) :
    Calls Try.prog 16 #[v] w fun e w' => AnsM w w' e 0 (xs.length : Int) (meanAt (fun i => cd (rdOf 0 xs (i : Int))) xs.length) (fop .quo (sqAt (fun i => cd (rdOf 0 xs (i : Int))) xs.length) (cd (floatOfInt .f64 (xs.length : Int)))) (minAt (fun i => rdOf 0 xs (i : Int)) xs.length) (maxAt (fun i => rdOf 0 xs (i : Int)) xs.length) := by
  obtain ⟨A, c, rfl, hc, hr⟩ := h
  have HR := Lib.hid hr
  clear hr
  have h81 : ((xs.length : Int) == 0) = false := by rw [beq_eq_false_iff_ne]; omega
  obtain ⟨ad, eA, g0⟩ := at_scalar 0 HR.out 0 (by omega) (by omega)
  subst eA
  have g00 : w.cell? ad = some (.float .f64 (rdOf 0 xs 0)) := by have h9 := g0; rw [show Int.toNat 0 = 0 from rfl, Addr.add_zero'] at h9; exact h9
  obtain ⟨x0, hx0⟩ : ∃ x, x = rdOf 0 xs 0 := ⟨_, rfl⟩
  rw [← hx0] at g00
  have HX0 := Lib.hid hx0
  clear hx0 g0
  have q1 : (0 : Int) < (xs.length : Int) := by omega
  have hlt := World.block_lt_of_cell? w _ g00
  obtain ⟨W, hW⟩ : ∃ W, W = w.alloc (.cells #[.int .i64 0, .float .f64 0, .float .f64 0, .float .f64 0, .float .f64 0] 31) := ⟨_, rfl⟩
  have hBW : Below w.heap.size w W := by rw [hW]; exact (Below.refl _ w).alloc (Nat.le_refl _) _
  have g1 : W.cell? ad = some (.float .f64 x0) := (hBW.cell hlt).trans g00
  have g2 : (W.alloc (.cells #[.int .i64 0, .float .f64 0, .float .f64 0, .float .f64 0, .float .f64 0] 31)).cell? ad = some (.float .f64 x0) := ((below_alloc (Below.refl _ W) _).cell (Nat.lt_of_lt_of_le hlt hBW.size)).trans g1
  have HW := Lib.hid hW
  have HBW := Lib.hid hBW
  clear hW hBW g00
  have q2 := eq_true q1
  go_enter Try.func16, Try.ntmps16
  go_wp2_with fail
  rw [← HW.out]
  go_region
  clear g2
  obtain ⟨V, hV⟩ : ∃ V, V = (W.alloc (.cells #[.int .i64 (xs.length : Int), .float .f64 0, .float .f64 0, .float .f64 x0, .float .f64 x0] 31)).drew := ⟨_, rfl⟩
  have hBV : Below w.heap.size w V := by rw [hV]; exact below_drew (below_alloc HBW.out _)
  have hcl : ∀ o, V.cell? ⟨W.heap.size, o, none⟩ = (#[.int .i64 (xs.length : Int), .float .f64 0, .float .f64 0, .float .f64 x0, .float .f64 x0] : Array Value)[o]? := by
    intro o
    rw [hV]
    exact cell_of_row _ _ o _ 31 (0, 0) (heap_alloc_new W _)
  have hfz : ∀ o, V.frozen? ⟨W.heap.size, o, none⟩ = false := by
    intro o
    rw [hV]
    exact World.frozen?_alloc_at _ _ _ _ rfl
  have hrc : ∀ o, V.cell? ⟨w.heap.size, o, none⟩ = (#[.int .i64 0, .float .f64 0, .float .f64 0, .float .f64 0, .float .f64 0] : Array Value)[o]? := by
    intro o
    rw [hV]
    refine ((below_alloc (Below.refl _ W) _).cell (p := ⟨w.heap.size, o, none⟩) (show w.heap.size < W.heap.size by rw [HW.out]; simp)).trans ?_
    rw [HW.out]
    exact cell_of_row _ _ o _ 31 (0, 0) (heap_alloc_new w _)
  have hrz : ∀ o, V.frozen? ⟨w.heap.size, o, none⟩ = false := by
    intro o
    rw [hV]
    refine (World.frozen?_alloc_past _ _ _ (show w.heap.size < W.heap.size by rw [HW.out]; simp)).trans ?_
    rw [HW.out]
    exact World.frozen?_alloc_at _ _ _ _ rfl
  have hvs : V.heap.size = W.heap.size + 1 := by rw [hV]; simp [World.drew]
  rw [← hV]
  have HRC := Lib.hid hrc
  have HRZ := Lib.hid hrz
  have HVS := Lib.hid hvs
  clear hrc hrz hvs
  have HBV := Lib.hid hBV
  have HCL := Lib.hid hcl
  have HFZ := Lib.hid hfz
  clear hV hBV hcl hfz
  go_wp2_with fail
  go_loopw [4, 5, 31] (fun a s i wr => ∃ x : Int, ∃ ab sb mn mx : Nat, 0 ≤ x ∧ x ≤ (xs.length : Int) ∧ i = .int .i64 x ∧ a = .float .f64 ab ∧ s = .float .f64 sb ∧ cd ab = meanAt (fun i => cd (rdOf 0 xs (i : Int))) x.toNat ∧ cd sb = sqAt (fun i => cd (rdOf 0 xs (i : Int))) x.toNat ∧
      mn = minAt (fun i => rdOf 0 xs (i : Int)) x.toNat ∧ mx = maxAt (fun i => rdOf 0 xs (i : Int)) x.toNat ∧ Below w.heap.size w wr ∧ W.heap.size < wr.heap.size ∧
      wr.cell? ⟨W.heap.size, 0, none⟩ = some (.int .i64 (xs.length : Int)) ∧ wr.cell? ⟨W.heap.size, 1, none⟩ = some (.float .f64 0) ∧ wr.cell? ⟨W.heap.size, 2, none⟩ = some (.float .f64 0) ∧ wr.cell? ⟨W.heap.size, 3, none⟩ = some (.float .f64 mn) ∧ wr.cell? ⟨W.heap.size, 4, none⟩ = some (.float .f64 mx) ∧ (∀ o, wr.frozen? ⟨W.heap.size, o, none⟩ = false) ∧ wr.cell? ⟨w.heap.size, 0, none⟩ = some (.int .i64 0) ∧ (∀ o, 1 ≤ o → o < 5 → wr.cell? ⟨w.heap.size, o, none⟩ = some (.float .f64 0)) ∧ (∀ o, wr.frozen? ⟨w.heap.size, o, none⟩ = false)) (fun _ _ i _ => xs.length - (intOf i).toNat)
  case atStart =>
    have hWn : W.heap.size = w.heap.size + 1 := by rw [HW.out]; simp
    have hV9 := HVS.out
    refine ⟨0, 0, 0, x0, x0, Int.le_refl _, by omega, rfl, rfl, rfl, rfl, rfl, HX0.out, HX0.out, HBV.out, by omega, HCL.out 0, HCL.out 1, HCL.out 2, HCL.out 3, HCL.out 4, HFZ.out, HRC.out 0, ?_, HRZ.out⟩
    intro o h1 h5
    obtain rfl | rfl | rfl | rfl : o = 1 ∨ o = 2 ∨ o = 3 ∨ o = 4 := by omega
    · exact HRC.out 1
    · exact HRC.out 2
    · exact HRC.out 3
    · exact HRC.out 4
  case round =>
    obtain ⟨x, ab, sb, mn, mx, hx0, hxn, rfl, rfl, rfl, hab, hsb, hmn, hmx, hB, hsz, c0, c1, c2, c3, c4, hf, r0, hr1, hrf⟩ := hrel
    have HAB := Lib.hid hab
    have HSB := Lib.hid hsb
    have HMN := Lib.hid hmn
    have HMX := Lib.hid hmx
    have HB := Lib.hid hB
    have HF := Lib.hid hf
    have HR1 := Lib.hid hr1
    have HRF := Lib.hid hrf
    have HWn : W.heap.size = w.heap.size + 1 := by rw [HW.out]; simp
    have HWN := Lib.hid HWn
    clear hab hsb hmn hmx hB hf hr1 hrf HWn
    have f3 := HF.out 3
    have f4 := HF.out 4
    by_cases hlt9 : x < (xs.length : Int)
    · obtain ⟨ad2, eA, g0⟩ := at_scalar 0 HR.out x hx0 hlt9
      obtain rfl : ad = ad2 := Option.some.inj eA
      clear eA
      replace g0 := (HB.out.cell (World.block_lt_of_cell? w _ g0)).trans g0
      obtain ⟨y, hy⟩ : ∃ y, y = rdOf 0 xs x := ⟨_, rfl⟩
      rw [← hy] at g0
      have HY := Lib.hid hy
      clear hy
      have n1 : W.heap.size ≠ w.heap.size := by have := HWN.out; omega
      have hW9 := HBW.out.size
      rcases hlo : (FloatKind.f64.format.order y mn == some .lt) with _ | _
      · rcases hhi : (FloatKind.f64.format.order y mx == some .gt) with _ | _
        · go_wp2_with (refine wp_float _ rfl _ (by first | exact .inl rfl | exact .inr (.inl rfl) | exact .inr (.inr (.inl rfl)) | exact .inr (.inr (.inr rfl))) _ _ _ _ rfl _ _ rfl rfl ?_; intro r m hr)
          go_roundw
          case measure => simp [intOf]; omega
          case rel =>
            have e9 : (x + 1).toNat = x.toNat + 1 := by omega
            have e8 : ((x.toNat : Nat) : Int) = x := by omega
            refine ⟨x + 1, _, _, mn, mx, by omega, by omega, rfl, rfl, rfl, ?_, ?_, ?_, ?_, (pw_below_drewN HB.out _), (by first | exact hsz | simpa using hsz), c0, c1, c2, c3, c4, fun o => (HF.out o), r0, fun o h1 h2 => (HR1.out o h1 h2), fun o => (HRF.out o)⟩
            · rw [e9]
              show _ = fop .add (meanAt _ x.toNat) (fop .quo (fop .sub (cd (rdOf 0 xs ((x.toNat : Nat) : Int))) (meanAt _ x.toNat)) (cd (floatOfInt .f64 (((x.toNat : Nat) : Int) + 1))))
              rw [e8, ← HAB.out, ← HY.out]
              clear c0 c1 c2 c3 c4 r0 g0
              simp only [*]
            · rw [e9]
              show _ = fop .add (sqAt _ x.toNat) (fop .mul (fop .sub (cd (rdOf 0 xs ((x.toNat : Nat) : Int))) (meanAt _ x.toNat)) (fop .sub (cd (rdOf 0 xs ((x.toNat : Nat) : Int))) (fop .add (meanAt _ x.toNat) (fop .quo (fop .sub (cd (rdOf 0 xs ((x.toNat : Nat) : Int))) (meanAt _ x.toNat)) (cd (floatOfInt .f64 (((x.toNat : Nat) : Int) + 1)))))))
              rw [e8, ← HAB.out, ← HSB.out, ← HY.out]
              clear c0 c1 c2 c3 c4 r0 g0
              simp only [*]
            · rw [e9]
              show mn = if (FloatKind.f64.format.order (rdOf 0 xs ((x.toNat : Nat) : Int)) (minAt _ x.toNat) == some .lt) = true then rdOf 0 xs ((x.toNat : Nat) : Int) else minAt _ x.toNat
              rw [e8, ← HMN.out, ← HY.out, hlo]
              rfl
            · rw [e9]
              show mx = if (FloatKind.f64.format.order (rdOf 0 xs ((x.toNat : Nat) : Int)) (maxAt _ x.toNat) == some .gt) = true then rdOf 0 xs ((x.toNat : Nat) : Int) else maxAt _ x.toNat
              rw [e8, ← HMX.out, ← HY.out, hhi]
              rfl
        · go_wp2_with (refine wp_float _ rfl _ (by first | exact .inl rfl | exact .inr (.inl rfl) | exact .inr (.inr (.inl rfl)) | exact .inr (.inr (.inr rfl))) _ _ _ _ rfl _ _ rfl rfl ?_; intro r m hr)
          go_roundw
          case measure => simp [intOf]; omega
          case rel =>
            have e9 : (x + 1).toNat = x.toNat + 1 := by omega
            have e8 : ((x.toNat : Nat) : Int) = x := by omega
            refine ⟨x + 1, _, _, mn, y, by omega, by omega, rfl, rfl, rfl, ?_, ?_, ?_, ?_, (below_set (pw_below_drewN HB.out _) hW9), (by first | exact hsz | simpa using hsz), ((cell_set_off (by decide)).trans c0), ((cell_set_off (by decide)).trans c1), ((cell_set_off (by decide)).trans c2), ((cell_set_off (by decide)).trans c3), (World.cell?_setCell_same _ _ _ (c4)), fun o => (frozen_set.trans (HF.out o)), ((cell_set_far n1).trans r0), fun o h1 h2 => ((cell_set_far n1).trans (HR1.out o h1 h2)), fun o => (frozen_set.trans (HRF.out o))⟩
            · rw [e9]
              show _ = fop .add (meanAt _ x.toNat) (fop .quo (fop .sub (cd (rdOf 0 xs ((x.toNat : Nat) : Int))) (meanAt _ x.toNat)) (cd (floatOfInt .f64 (((x.toNat : Nat) : Int) + 1))))
              rw [e8, ← HAB.out, ← HY.out]
              clear c0 c1 c2 c3 c4 r0 g0
              simp only [*]
            · rw [e9]
              show _ = fop .add (sqAt _ x.toNat) (fop .mul (fop .sub (cd (rdOf 0 xs ((x.toNat : Nat) : Int))) (meanAt _ x.toNat)) (fop .sub (cd (rdOf 0 xs ((x.toNat : Nat) : Int))) (fop .add (meanAt _ x.toNat) (fop .quo (fop .sub (cd (rdOf 0 xs ((x.toNat : Nat) : Int))) (meanAt _ x.toNat)) (cd (floatOfInt .f64 (((x.toNat : Nat) : Int) + 1)))))))
              rw [e8, ← HAB.out, ← HSB.out, ← HY.out]
              clear c0 c1 c2 c3 c4 r0 g0
              simp only [*]
            · rw [e9]
              show mn = if (FloatKind.f64.format.order (rdOf 0 xs ((x.toNat : Nat) : Int)) (minAt _ x.toNat) == some .lt) = true then rdOf 0 xs ((x.toNat : Nat) : Int) else minAt _ x.toNat
              rw [e8, ← HMN.out, ← HY.out, hlo]
              rfl
            · rw [e9]
              show y = if (FloatKind.f64.format.order (rdOf 0 xs ((x.toNat : Nat) : Int)) (maxAt _ x.toNat) == some .gt) = true then rdOf 0 xs ((x.toNat : Nat) : Int) else maxAt _ x.toNat
              rw [e8, ← HMX.out, ← HY.out, hhi]
              rfl
      · rcases hhi : (FloatKind.f64.format.order y mx == some .gt) with _ | _
        · go_wp2_with (refine wp_float _ rfl _ (by first | exact .inl rfl | exact .inr (.inl rfl) | exact .inr (.inr (.inl rfl)) | exact .inr (.inr (.inr rfl))) _ _ _ _ rfl _ _ rfl rfl ?_; intro r m hr)
          go_roundw
          case measure => simp [intOf]; omega
          case rel =>
            have e9 : (x + 1).toNat = x.toNat + 1 := by omega
            have e8 : ((x.toNat : Nat) : Int) = x := by omega
            refine ⟨x + 1, _, _, y, mx, by omega, by omega, rfl, rfl, rfl, ?_, ?_, ?_, ?_, (below_set (pw_below_drewN HB.out _) hW9), (by first | exact hsz | simpa using hsz), ((cell_set_off (by decide)).trans c0), ((cell_set_off (by decide)).trans c1), ((cell_set_off (by decide)).trans c2), (World.cell?_setCell_same _ _ _ (c3)), ((cell_set_off (by decide)).trans c4), fun o => (frozen_set.trans (HF.out o)), ((cell_set_far n1).trans r0), fun o h1 h2 => ((cell_set_far n1).trans (HR1.out o h1 h2)), fun o => (frozen_set.trans (HRF.out o))⟩
            · rw [e9]
              show _ = fop .add (meanAt _ x.toNat) (fop .quo (fop .sub (cd (rdOf 0 xs ((x.toNat : Nat) : Int))) (meanAt _ x.toNat)) (cd (floatOfInt .f64 (((x.toNat : Nat) : Int) + 1))))
              rw [e8, ← HAB.out, ← HY.out]
              clear c0 c1 c2 c3 c4 r0 g0
              simp only [*]
            · rw [e9]
              show _ = fop .add (sqAt _ x.toNat) (fop .mul (fop .sub (cd (rdOf 0 xs ((x.toNat : Nat) : Int))) (meanAt _ x.toNat)) (fop .sub (cd (rdOf 0 xs ((x.toNat : Nat) : Int))) (fop .add (meanAt _ x.toNat) (fop .quo (fop .sub (cd (rdOf 0 xs ((x.toNat : Nat) : Int))) (meanAt _ x.toNat)) (cd (floatOfInt .f64 (((x.toNat : Nat) : Int) + 1)))))))
              rw [e8, ← HAB.out, ← HSB.out, ← HY.out]
              clear c0 c1 c2 c3 c4 r0 g0
              simp only [*]
            · rw [e9]
              show y = if (FloatKind.f64.format.order (rdOf 0 xs ((x.toNat : Nat) : Int)) (minAt _ x.toNat) == some .lt) = true then rdOf 0 xs ((x.toNat : Nat) : Int) else minAt _ x.toNat
              rw [e8, ← HMN.out, ← HY.out, hlo]
              rfl
            · rw [e9]
              show mx = if (FloatKind.f64.format.order (rdOf 0 xs ((x.toNat : Nat) : Int)) (maxAt _ x.toNat) == some .gt) = true then rdOf 0 xs ((x.toNat : Nat) : Int) else maxAt _ x.toNat
              rw [e8, ← HMX.out, ← HY.out, hhi]
              rfl
        · go_wp2_with (refine wp_float _ rfl _ (by first | exact .inl rfl | exact .inr (.inl rfl) | exact .inr (.inr (.inl rfl)) | exact .inr (.inr (.inr rfl))) _ _ _ _ rfl _ _ rfl rfl ?_; intro r m hr)
          go_roundw
          case measure => simp [intOf]; omega
          case rel =>
            have e9 : (x + 1).toNat = x.toNat + 1 := by omega
            have e8 : ((x.toNat : Nat) : Int) = x := by omega
            refine ⟨x + 1, _, _, y, y, by omega, by omega, rfl, rfl, rfl, ?_, ?_, ?_, ?_, (below_set (below_set (pw_below_drewN HB.out _) hW9) hW9), (by first | exact hsz | simpa using hsz), ((cell_set_off (by decide)).trans ((cell_set_off (by decide)).trans c0)), ((cell_set_off (by decide)).trans ((cell_set_off (by decide)).trans c1)), ((cell_set_off (by decide)).trans ((cell_set_off (by decide)).trans c2)), ((cell_set_off (by decide)).trans (World.cell?_setCell_same _ _ _ (c3))), (World.cell?_setCell_same _ _ _ (((cell_set_off (by decide)).trans c4))), fun o => (frozen_set.trans (frozen_set.trans (HF.out o))), ((cell_set_far n1).trans ((cell_set_far n1).trans r0)), fun o h1 h2 => ((cell_set_far n1).trans ((cell_set_far n1).trans (HR1.out o h1 h2))), fun o => (frozen_set.trans (frozen_set.trans (HRF.out o)))⟩
            · rw [e9]
              show _ = fop .add (meanAt _ x.toNat) (fop .quo (fop .sub (cd (rdOf 0 xs ((x.toNat : Nat) : Int))) (meanAt _ x.toNat)) (cd (floatOfInt .f64 (((x.toNat : Nat) : Int) + 1))))
              rw [e8, ← HAB.out, ← HY.out]
              clear c0 c1 c2 c3 c4 r0 g0
              simp only [*]
            · rw [e9]
              show _ = fop .add (sqAt _ x.toNat) (fop .mul (fop .sub (cd (rdOf 0 xs ((x.toNat : Nat) : Int))) (meanAt _ x.toNat)) (fop .sub (cd (rdOf 0 xs ((x.toNat : Nat) : Int))) (fop .add (meanAt _ x.toNat) (fop .quo (fop .sub (cd (rdOf 0 xs ((x.toNat : Nat) : Int))) (meanAt _ x.toNat)) (cd (floatOfInt .f64 (((x.toNat : Nat) : Int) + 1)))))))
              rw [e8, ← HAB.out, ← HSB.out, ← HY.out]
              clear c0 c1 c2 c3 c4 r0 g0
              simp only [*]
            · rw [e9]
              show y = if (FloatKind.f64.format.order (rdOf 0 xs ((x.toNat : Nat) : Int)) (minAt _ x.toNat) == some .lt) = true then rdOf 0 xs ((x.toNat : Nat) : Int) else minAt _ x.toNat
              rw [e8, ← HMN.out, ← HY.out, hlo]
              rfl
            · rw [e9]
              show y = if (FloatKind.f64.format.order (rdOf 0 xs ((x.toNat : Nat) : Int)) (maxAt _ x.toNat) == some .gt) = true then rdOf 0 xs ((x.toNat : Nat) : Int) else maxAt _ x.toNat
              rw [e8, ← HMX.out, ← HY.out, hhi]
              rfl
    · have f1 := HF.out 1
      have f2 := HF.out 2
      have r1 := HR1.out 1 (by omega) (by omega)
      have r2 := HR1.out 2 (by omega) (by omega)
      have r3 := HR1.out 3 (by omega) (by omega)
      have r4 := HR1.out 4 (by omega) (by omega)
      have t0 := HRF.out 0
      have t1 := HRF.out 1
      have t2 := HRF.out 2
      have t3 := HRF.out 3
      have t4 := HRF.out 4
      have hWn := HWN.out
      have n1 : W.heap.size ≠ w.heap.size := by omega
      have n2 : w.heap.size ≠ W.heap.size := by omega
      clear hWn
      go_wp2_with (refine wp_float _ rfl _ (by first | exact .inl rfl | exact .inr (.inl rfl) | exact .inr (.inr (.inl rfl)) | exact .inr (.inr (.inr rfl))) _ _ _ _ rfl _ _ rfl rfl ?_; intro r m hr)
      (try simp only [Exit.inBlock, Exit.then])
      have hx9 : x.toNat = xs.length := by omega
      refine bodyPost_ret (v := .tuple #[.agg #[.int .i64 (xs.length : Int), .float .f64 ab, .float .f64 r, .float .f64 mn, .float .f64 mx], .int .i64 0]) ((results_cell_tmp rfl _ _ _).trans ?_) rfl ?_
      · go_simp
      · refine AnsM.mk ab r ?_ ?_ ?_ ?_
        · rw [← hx9, ← HMN.out, ← HMX.out]
        · rw [HAB.out, hx9]
        · rw [hr, HSB.out, hx9]
        · have hb : ∀ {U : World} {b o : Nat} {u : Value}, Below w.heap.size w U → w.heap.size ≤ b → Below w.heap.size w (U.setCell ⟨b, o, none⟩ u) := fun h hb => below_set h hb
          have hW9 := HBW.out.size
          refine hb (hb (hb (hb (hb (hb (hb (pw_below_drewN HB.out _) hW9) hW9) (Nat.le_refl _)) (Nat.le_refl _)) (Nat.le_refl _)) (Nat.le_refl _)) (Nat.le_refl _)
end Go.Proofs.Ytjldnehlcplccaa.Flo
