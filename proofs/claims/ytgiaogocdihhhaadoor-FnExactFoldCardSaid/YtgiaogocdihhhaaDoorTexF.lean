/- Texts: Fold, the specification's and the program's, walked; the law. -/
import Derived.Test.YtgiaogocdihhhaaDoorTexQ
import Derived.Test.YtgiaogocdihhhaaDoorPFnExactFoldx1
import Derived.Lib.RuneBytes
namespace Go.Proofs.YtgiaogocdihhhaaDoor.Tex
open Go.RowKit Go.Proofs.YtgiaogocdihhhaaDoorW.PrintWords Go.Proofs.YtgiaogocdihhhaaDoorW.PrintLast Go.Proofs.YtgiaogocdihhhaaDoorW.PrintMore
set_option linter.unusedVariables false
set_option linter.unusedSimpArgs false
/-- Is a rune a great letter that Fold turns? -/
def foldB (r : Int) : Bool := decide ((65 ≤ r ∧ r ≤ 90) ∨ (192 ≤ r ∧ r ≤ 222 ∧ r ≠ 215) ∨ (913 ≤ r ∧ r ≤ 937 ∧ r ≠ 930) ∨ (1040 ≤ r ∧ r ≤ 1071))
def encL (r : Int) : List Int := Lib.encodeRuneZ r
theorem encL_len (r : Int) (h0 : 0 ≤ r) (h1 : r ≤ 2047) : (encL r).length ≤ 2 := by
  unfold encL
  by_cases h : r ≤ 127
  · rw [Lib.encodeRuneZ_one h0 h]; simp
  · rw [Lib.encodeRuneZ_two (by omega) h1]; simp
def fp (s : ByteArray) (i : Int) : List Int := if foldB (rI s i) = true then encL (rI s i + 32) else bytesOf (sub s i)
theorem foldB_le {r : Int} (h : foldB r = true) : 65 ≤ r ∧ r ≤ 1071 := by
  have := of_decide_eq_true h
  omega
theorem fp_len (s : ByteArray) (i : Int) (h0 : 0 ≤ i) (h : i < (s.size : Int)) : ((fp s i).length : Int) ≤ 4 * nI s i := by
  have hr := rI_range s i h0 h
  unfold fp
  split
  · rename_i hf
    have hb := foldB_le hf
    have := encL_len (rI s i + 32) (by omega) (by omega)
    omega
  · rw [bytesOf_length, sub_size s i h0 h]; omega
def foldS (s : ByteArray) : ByteArray := if longB s = true then ⟨#[]⟩ else strOfNums (all s (fp s) [])
theorem OB.nil (w : World) (base : Nat) : OB w base (.slice none 0 0) [] := own_nil w base 5 1
theorem l01EncodeC (r : Int) (w : World) (h0 : 0 ≤ r) (h1 : r ≤ 2047) : Calls Tryd.prog 25 #[.int .i64 r] w fun e w' => ∃ A c, e = .returned (.slice A (encL r).length c) ∧ ReadsInt w' .u8 A (encL r).length (encL r) ∧ Below w.heap.size w w' := by
  have hf : PFnExactFold.spec_l01Encode.f r = some (encL r) := by
    unfold PFnExactFold.spec_l01Encode.f encL
    by_cases h : r < 128
    · rw [if_pos h, Lib.encodeRuneZ_one h0 (by omega), show r % 256 = r by omega]
    · have e1 : Int.tdiv r 64 = r / 64 := Int.tdiv_eq_ediv_of_nonneg h0
      have e2 : Int.tmod r 64 = r % 64 := Int.tmod_eq_emod_of_nonneg h0
      rw [if_neg h, Lib.encodeRuneZ_two (by omega) h1, e1, e2, wrap_ok (x := r / 64) (by omega) (by omega), wrap_ok (x := 192 + r / 64) (by omega) (by omega), wrap_ok (x := 128 + r % 64) (by omega) (by omega), show (192 + r / 64) % 256 = 192 + r / 64 by omega, show (128 + r % 64) % 256 = 128 + r % 64 by omega]
  refine (PFnExactFold.spec_l01Encode.calls r (encL r) w hf).mono ?_
  rintro e w' ⟨v, rfl, hR, hB⟩
  have ho := Kd.own_of_R hR
  obtain ⟨A, c, rfl, hr⟩ := own_reads (k := .u8) ho
  exact ⟨A, c, rfl, hr, hB⟩
theorem appRuneC (v : Value) (xs : List Int) (r : Int) (w0 w : World) (h0 : 0 ≤ r) (h1 : r ≤ 2047) (hO : OB w w0.heap.size v xs) (hB : Below w0.heap.size w0 w) (hl : xs.length + 4 ≤ 140737488355328) :
    Calls Tryd.prog 27 #[v, .int .i32 r] w fun e w' => ∃ v', e = .returned v' ∧ OB w' w0.heap.size v' (xs ++ encL r) ∧ Below w0.heap.size w0 w' := by
  refine (Tryd.utf8_AppendRune_plain w0.heap.size v xs.length (nums .u8 xs) r (by omega) (by omega) w hO hl hB.size).mono ?_
  rintro e w' ⟨v', rfl, hO1, o, hg⟩
  refine ⟨v', rfl, ?_, Below.grown (below_alloc hB o) hg (by simp; have := hB.size; omega) (own_base hO)⟩
  unfold OB
  rw [nums_append, List.length_append]
  have e1 : nums .u8 (encL r) = Lib.runeCells r := rfl
  have e2 : (Lib.runeCells r).length = (encL r).length := by rw [← e1, nums_length]
  rw [e1, ← e2]
  exact hO1
def inR (a b r : Int) : Bool := decide (a ≤ r ∧ r ≤ b)
theorem clos26 (a b r : Int) (B : Nat) (w : World) (hc : w.cell? ⟨B, 0, none⟩ = some (.int .i64 r)) :
    Calls Tryd.prog 26 #[.int .i64 a, .int .i64 b, .pointer (some ⟨B, 0, none⟩)] w fun e w' => e = .returned (.bool (inR a b r)) ∧ w = w' := by
  unfold inR
  by_cases h1 : a ≤ r
  · by_cases h2 : r ≤ b
    · go_enter Tryd.func26, Tryd.ntmps26
      go_wp2
      go_ret
      exact ⟨by simp [h1, h2], rfl⟩
    · have h2' : b < r := by omega
      go_enter Tryd.func26, Tryd.ntmps26
      go_wp2
      go_ret
      exact ⟨by simp; omega, rfl⟩
  · have h1' : r < a := by omega
    go_enter Tryd.func26, Tryd.ntmps26
    go_wp2
    go_ret
    exact ⟨by simp; omega, rfl⟩
set_option maxHeartbeats 4000000 in
set_option maxRecDepth 100000 in
theorem specFoldC (s : ByteArray) (w : World) (hs : s.size ≤ 1048576) :
    Calls Tryd.prog 12 #[.string s] w fun e w' => e = .returned (.string (foldS s)) ∧ Below w.heap.size w w' := by
  have cR := fun W x (h0 : 0 ≤ x) (h : x < (s.size : Int))  => l01RuneC s x W h0 h (Nat.le_trans hs (by decide)) 
  have CR := Lib.hid cR; clear cR
  rcases hL : longB s with _ | _
  · have hl : ¬ 65536 < (s.size : Int) := by simpa [longB] using hL
    have HL := Lib.hid hL
    clear hL
    have HP := Lib.hid (fp_len s)
    go_enter Tryd.func12, Tryd.ntmps12
    go_wp2_with fail
    go_loopw [3, 4] (fun o i wr => ∃ k : Nat, ∃ x : Int, ∃ xs : List Int, go s (fp s) [] k = (x, xs) ∧ i = .int .i64 x ∧ OB wr w.heap.size o xs ∧ Below w.heap.size w wr) (fun _ i _ => s.size - (intOf i).toNat)
    case atStart => exact ⟨0, 0, [], rfl, rfl, by simpa [nums] using OB.lit w w.heap.size [] (by simp) (by decide), below_alloc (Below.refl _ _) _⟩
    case round =>
      obtain ⟨k, x, xs, hG, rfl, hO, hB⟩ := hrel
      have hx := go_range (a0 := []) HP.out k
      rw [hG] at hx
      obtain ⟨hx0, hx1, hx2⟩ := hx
      have hxl : (xs.length : Int) ≤ 4 * x := by have h9 : (xs.length : Int) ≤ ((0 : Nat) : Int) + 4 * x := hx2; omega
      clear hx2
      have HG := Lib.hid hG; have HO := Lib.hid hO; have HB := Lib.hid hB
      clear hG hO hB
      have hbz := HB.out.size
      by_cases hlt : x < (s.size : Int)
      · have hr := rI_range s x hx0 hlt
        have hss := sub_size s x hx0 hlt
        have HGI := Lib.hid (show go s (fp s) [] (k + 1) = (x + nI s x, xs ++ fp s x) by have h9 := go_in (s := s) (P := fp s) (a0 := []) (k := k) (by rw [HG.out]; exact hlt); rw [HG.out] at h9; exact h9)
        have cR := fun W => CR.out W x hx0 hlt
        have HQ := Lib.hid (show fp s x = if foldB (rI s x) = true then encL (rI s x + 32) else bytesOf (sub s x) from rfl)
        have hsub : s.extract x.toNat (x + nI s x).toNat = sub s x := rfl
        obtain ⟨R, hR⟩ : ∃ R, rI s x = R := ⟨_, rfl⟩
        obtain ⟨K, hK⟩ : ∃ K, nI s x = K := ⟨_, rfl⟩
        rw [hR, hK] at hr
        simp only [hR, hK] at cR hsub
        rw [hK] at hss
        have HR := Lib.hid hR; have HK := Lib.hid hK
        clear hR hK
        obtain ⟨hr0, hr1, hk0, hk1, hk2⟩ := hr
        have hK9 : x + K ≤ 9223372036854775807 := by omega
        have hk3 : x ≤ x + K := by omega
        have hk4 : 0 ≤ K := by omega
        have hk5 : 0 ≤ x + K := by omega
        by_cases q64 : R ≤ 64
        · have hf : foldB R = false := by unfold foldB; rw [decide_eq_false_iff_not]; omega
          have d0 : decide (65 ≤ R) = false := decide_eq_false (by omega)
          have d1 : decide (R ≤ 90) = true := decide_eq_true (by omega)
          have d2 : decide (192 ≤ R) = false := decide_eq_false (by omega)
          have d3 : decide (R ≤ 222) = true := decide_eq_true (by omega)
          have d4 : decide (913 ≤ R) = false := decide_eq_false (by omega)
          have d5 : decide (R ≤ 937) = true := decide_eq_true (by omega)
          have d6 : decide (1040 ≤ R) = false := decide_eq_false (by omega)
          have d7 : decide (R ≤ 1071) = true := decide_eq_true (by omega)
          have b215 : (R == 215) = false := by rw [beq_eq_false_iff_ne]; omega
          have n215 : (R != 215) = true := by rw [bne_iff_ne]; omega
          have b930 : (R == 930) = false := by rw [beq_eq_false_iff_ne]; omega
          have n930 : (R != 930) = true := by rw [bne_iff_ne]; omega
          have kb := fun W => print_bytes (P := Tryd.prog) 9 32 5 Tryd.underlying9 Tryd.underlying32 Tryd.underlying5 (sub s x) W
          have HF := Lib.hid hf
          clear hf
          go_wp2_with (first | ((with_reducible refine gate_builtin (b := .append) (xs := #[.tmp 64, .tmp 71]) rfl ?_); at_builtin; refine print_append_row (w0 := w) w.heap.size rfl (.tmp 64) (.tmp 71) 32 5 .u8 1 rfl Tryd.underlying32 info5 (by decide) u3 xs (bytesOf (sub s x)) _ (sub s x).size _ rfl rfl (show OB _ _ _ _ from (HO.out.below hb).below (bytes_below (Below.refl _ _) (Nat.le_refl _) 5 (sub s x))) (bytes_reads w2 5 (sub s x) (by omega)) (bytes_below (below_step HB.out hb) (below_step HB.out hb).size 5 (sub s x)) (Nat.le_trans (below_step HB.out hb).size (by rw [Lib.bytesWorld_size]; omega)) (by omega) ?_; intro v1 w1 hO1 hB1 hg1 hg2; clear hg1 hg2) | (go_at_call 20; refine (cR _).mono ?_; rintro e w2 ⟨rfl, hb⟩))
          have HO3 := Lib.hid (show OB w1 w.heap.size v1 (xs ++ bytesOf (sub s x)) from hO1); have HB3 := Lib.hid hB1
          clear hO1 hB1
          go_wp2_with fail
          go_roundw
          case measure => simp [intOf]; omega
          case rel => exact ⟨k + 1, x + K, xs ++ bytesOf (sub s x), by rw [HGI.out, HK.out, HQ.out, HR.out, HF.out]; rfl, rfl, HO3.out, HB3.out⟩
        by_cases q90 : R ≤ 90
        · have hf : foldB R = true := by unfold foldB; rw [decide_eq_true_eq]; omega
          have d0 : decide (65 ≤ R) = true := decide_eq_true (by omega)
          have d1 : decide (R ≤ 90) = true := decide_eq_true (by omega)
          have d2 : decide (192 ≤ R) = false := decide_eq_false (by omega)
          have d3 : decide (R ≤ 222) = true := decide_eq_true (by omega)
          have d4 : decide (913 ≤ R) = false := decide_eq_false (by omega)
          have d5 : decide (R ≤ 937) = true := decide_eq_true (by omega)
          have d6 : decide (1040 ≤ R) = false := decide_eq_false (by omega)
          have d7 : decide (R ≤ 1071) = true := decide_eq_true (by omega)
          have b215 : (R == 215) = false := by rw [beq_eq_false_iff_ne]; omega
          have n215 : (R != 215) = true := by rw [bne_iff_ne]; omega
          have b930 : (R == 930) = false := by rw [beq_eq_false_iff_ne]; omega
          have n930 : (R != 930) = true := by rw [bne_iff_ne]; omega
          have hlen := encL_len (R + 32) (by omega) (by omega)
          have HF := Lib.hid hf
          clear hf
          go_wp2_with (first | ((with_reducible refine gate_builtin (b := .append) (xs := #[.tmp 59, .tmp 62]) rfl ?_); at_builtin; refine print_append_row (w0 := w) w.heap.size rfl (.tmp 59) (.tmp 62) 32 5 .u8 1 rfl Tryd.underlying32 info5 (by decide) u3 xs (encL (R + 32)) A3 (encL (R + 32)).length c3 rfl rfl ((HO.out.below hb).below hb3) hrd (below_step (below_step HB.out hb) hb3) (below_step (below_step HB.out hb) hb3).size (by omega) ?_; intro v1 w1 hO1 hB1 hg1 hg2; clear hg1 hg2) | (go_at_call 25; refine (l01EncodeC (R + 32) _ (by omega) (by omega)).mono ?_; rintro e w3 ⟨A3, c3, rfl, hrd, hb3⟩) | (go_at_call 20; refine (cR _).mono ?_; rintro e w2 ⟨rfl, hb⟩))
          have HO3 := Lib.hid (show OB w1 w.heap.size v1 (xs ++ encL (R + 32)) from hO1); have HB3 := Lib.hid hB1
          clear hO1 hB1
          go_wp2_with fail
          go_roundw
          case measure => simp [intOf]; omega
          case rel => exact ⟨k + 1, x + K, xs ++ encL (R + 32), by rw [HGI.out, HK.out, HQ.out, HR.out, HF.out]; rfl, rfl, HO3.out, HB3.out⟩
        by_cases q191 : R ≤ 191
        · have hf : foldB R = false := by unfold foldB; rw [decide_eq_false_iff_not]; omega
          have d0 : decide (65 ≤ R) = true := decide_eq_true (by omega)
          have d1 : decide (R ≤ 90) = false := decide_eq_false (by omega)
          have d2 : decide (192 ≤ R) = false := decide_eq_false (by omega)
          have d3 : decide (R ≤ 222) = true := decide_eq_true (by omega)
          have d4 : decide (913 ≤ R) = false := decide_eq_false (by omega)
          have d5 : decide (R ≤ 937) = true := decide_eq_true (by omega)
          have d6 : decide (1040 ≤ R) = false := decide_eq_false (by omega)
          have d7 : decide (R ≤ 1071) = true := decide_eq_true (by omega)
          have b215 : (R == 215) = false := by rw [beq_eq_false_iff_ne]; omega
          have n215 : (R != 215) = true := by rw [bne_iff_ne]; omega
          have b930 : (R == 930) = false := by rw [beq_eq_false_iff_ne]; omega
          have n930 : (R != 930) = true := by rw [bne_iff_ne]; omega
          have kb := fun W => print_bytes (P := Tryd.prog) 9 32 5 Tryd.underlying9 Tryd.underlying32 Tryd.underlying5 (sub s x) W
          have HF := Lib.hid hf
          clear hf
          go_wp2_with (first | ((with_reducible refine gate_builtin (b := .append) (xs := #[.tmp 64, .tmp 71]) rfl ?_); at_builtin; refine print_append_row (w0 := w) w.heap.size rfl (.tmp 64) (.tmp 71) 32 5 .u8 1 rfl Tryd.underlying32 info5 (by decide) u3 xs (bytesOf (sub s x)) _ (sub s x).size _ rfl rfl (show OB _ _ _ _ from (HO.out.below hb).below (bytes_below (Below.refl _ _) (Nat.le_refl _) 5 (sub s x))) (bytes_reads w2 5 (sub s x) (by omega)) (bytes_below (below_step HB.out hb) (below_step HB.out hb).size 5 (sub s x)) (Nat.le_trans (below_step HB.out hb).size (by rw [Lib.bytesWorld_size]; omega)) (by omega) ?_; intro v1 w1 hO1 hB1 hg1 hg2; clear hg1 hg2) | (go_at_call 20; refine (cR _).mono ?_; rintro e w2 ⟨rfl, hb⟩))
          have HO3 := Lib.hid (show OB w1 w.heap.size v1 (xs ++ bytesOf (sub s x)) from hO1); have HB3 := Lib.hid hB1
          clear hO1 hB1
          go_wp2_with fail
          go_roundw
          case measure => simp [intOf]; omega
          case rel => exact ⟨k + 1, x + K, xs ++ bytesOf (sub s x), by rw [HGI.out, HK.out, HQ.out, HR.out, HF.out]; rfl, rfl, HO3.out, HB3.out⟩
        by_cases q214 : R ≤ 214
        · have hf : foldB R = true := by unfold foldB; rw [decide_eq_true_eq]; omega
          have d0 : decide (65 ≤ R) = true := decide_eq_true (by omega)
          have d1 : decide (R ≤ 90) = false := decide_eq_false (by omega)
          have d2 : decide (192 ≤ R) = true := decide_eq_true (by omega)
          have d3 : decide (R ≤ 222) = true := decide_eq_true (by omega)
          have d4 : decide (913 ≤ R) = false := decide_eq_false (by omega)
          have d5 : decide (R ≤ 937) = true := decide_eq_true (by omega)
          have d6 : decide (1040 ≤ R) = false := decide_eq_false (by omega)
          have d7 : decide (R ≤ 1071) = true := decide_eq_true (by omega)
          have b215 : (R == 215) = false := by rw [beq_eq_false_iff_ne]; omega
          have n215 : (R != 215) = true := by rw [bne_iff_ne]; omega
          have b930 : (R == 930) = false := by rw [beq_eq_false_iff_ne]; omega
          have n930 : (R != 930) = true := by rw [bne_iff_ne]; omega
          have hlen := encL_len (R + 32) (by omega) (by omega)
          have HF := Lib.hid hf
          clear hf
          go_wp2_with (first | ((with_reducible refine gate_builtin (b := .append) (xs := #[.tmp 59, .tmp 62]) rfl ?_); at_builtin; refine print_append_row (w0 := w) w.heap.size rfl (.tmp 59) (.tmp 62) 32 5 .u8 1 rfl Tryd.underlying32 info5 (by decide) u3 xs (encL (R + 32)) A3 (encL (R + 32)).length c3 rfl rfl ((HO.out.below hb).below hb3) hrd (below_step (below_step HB.out hb) hb3) (below_step (below_step HB.out hb) hb3).size (by omega) ?_; intro v1 w1 hO1 hB1 hg1 hg2; clear hg1 hg2) | (go_at_call 25; refine (l01EncodeC (R + 32) _ (by omega) (by omega)).mono ?_; rintro e w3 ⟨A3, c3, rfl, hrd, hb3⟩) | (go_at_call 20; refine (cR _).mono ?_; rintro e w2 ⟨rfl, hb⟩))
          have HO3 := Lib.hid (show OB w1 w.heap.size v1 (xs ++ encL (R + 32)) from hO1); have HB3 := Lib.hid hB1
          clear hO1 hB1
          go_wp2_with fail
          go_roundw
          case measure => simp [intOf]; omega
          case rel => exact ⟨k + 1, x + K, xs ++ encL (R + 32), by rw [HGI.out, HK.out, HQ.out, HR.out, HF.out]; rfl, rfl, HO3.out, HB3.out⟩
        by_cases q215 : R ≤ 215
        · have hf : foldB R = false := by unfold foldB; rw [decide_eq_false_iff_not]; omega
          obtain rfl : R = 215 := by omega
          have kb := fun W => print_bytes (P := Tryd.prog) 9 32 5 Tryd.underlying9 Tryd.underlying32 Tryd.underlying5 (sub s x) W
          have HF := Lib.hid hf
          clear hf
          go_wp2_with (first | ((with_reducible refine gate_builtin (b := .append) (xs := #[.tmp 64, .tmp 71]) rfl ?_); at_builtin; refine print_append_row (w0 := w) w.heap.size rfl (.tmp 64) (.tmp 71) 32 5 .u8 1 rfl Tryd.underlying32 info5 (by decide) u3 xs (bytesOf (sub s x)) _ (sub s x).size _ rfl rfl (show OB _ _ _ _ from (HO.out.below hb).below (bytes_below (Below.refl _ _) (Nat.le_refl _) 5 (sub s x))) (bytes_reads w2 5 (sub s x) (by omega)) (bytes_below (below_step HB.out hb) (below_step HB.out hb).size 5 (sub s x)) (Nat.le_trans (below_step HB.out hb).size (by rw [Lib.bytesWorld_size]; omega)) (by omega) ?_; intro v1 w1 hO1 hB1 hg1 hg2; clear hg1 hg2) | (go_at_call 20; refine (cR _).mono ?_; rintro e w2 ⟨rfl, hb⟩))
          have HO3 := Lib.hid (show OB w1 w.heap.size v1 (xs ++ bytesOf (sub s x)) from hO1); have HB3 := Lib.hid hB1
          clear hO1 hB1
          go_wp2_with fail
          go_roundw
          case measure => simp [intOf]; omega
          case rel => exact ⟨k + 1, x + K, xs ++ bytesOf (sub s x), by rw [HGI.out, HK.out, HQ.out, HR.out, HF.out]; rfl, rfl, HO3.out, HB3.out⟩
        by_cases q222 : R ≤ 222
        · have hf : foldB R = true := by unfold foldB; rw [decide_eq_true_eq]; omega
          have d0 : decide (65 ≤ R) = true := decide_eq_true (by omega)
          have d1 : decide (R ≤ 90) = false := decide_eq_false (by omega)
          have d2 : decide (192 ≤ R) = true := decide_eq_true (by omega)
          have d3 : decide (R ≤ 222) = true := decide_eq_true (by omega)
          have d4 : decide (913 ≤ R) = false := decide_eq_false (by omega)
          have d5 : decide (R ≤ 937) = true := decide_eq_true (by omega)
          have d6 : decide (1040 ≤ R) = false := decide_eq_false (by omega)
          have d7 : decide (R ≤ 1071) = true := decide_eq_true (by omega)
          have b215 : (R == 215) = false := by rw [beq_eq_false_iff_ne]; omega
          have n215 : (R != 215) = true := by rw [bne_iff_ne]; omega
          have b930 : (R == 930) = false := by rw [beq_eq_false_iff_ne]; omega
          have n930 : (R != 930) = true := by rw [bne_iff_ne]; omega
          have hlen := encL_len (R + 32) (by omega) (by omega)
          have HF := Lib.hid hf
          clear hf
          go_wp2_with (first | ((with_reducible refine gate_builtin (b := .append) (xs := #[.tmp 59, .tmp 62]) rfl ?_); at_builtin; refine print_append_row (w0 := w) w.heap.size rfl (.tmp 59) (.tmp 62) 32 5 .u8 1 rfl Tryd.underlying32 info5 (by decide) u3 xs (encL (R + 32)) A3 (encL (R + 32)).length c3 rfl rfl ((HO.out.below hb).below hb3) hrd (below_step (below_step HB.out hb) hb3) (below_step (below_step HB.out hb) hb3).size (by omega) ?_; intro v1 w1 hO1 hB1 hg1 hg2; clear hg1 hg2) | (go_at_call 25; refine (l01EncodeC (R + 32) _ (by omega) (by omega)).mono ?_; rintro e w3 ⟨A3, c3, rfl, hrd, hb3⟩) | (go_at_call 20; refine (cR _).mono ?_; rintro e w2 ⟨rfl, hb⟩))
          have HO3 := Lib.hid (show OB w1 w.heap.size v1 (xs ++ encL (R + 32)) from hO1); have HB3 := Lib.hid hB1
          clear hO1 hB1
          go_wp2_with fail
          go_roundw
          case measure => simp [intOf]; omega
          case rel => exact ⟨k + 1, x + K, xs ++ encL (R + 32), by rw [HGI.out, HK.out, HQ.out, HR.out, HF.out]; rfl, rfl, HO3.out, HB3.out⟩
        by_cases q912 : R ≤ 912
        · have hf : foldB R = false := by unfold foldB; rw [decide_eq_false_iff_not]; omega
          have d0 : decide (65 ≤ R) = true := decide_eq_true (by omega)
          have d1 : decide (R ≤ 90) = false := decide_eq_false (by omega)
          have d2 : decide (192 ≤ R) = true := decide_eq_true (by omega)
          have d3 : decide (R ≤ 222) = false := decide_eq_false (by omega)
          have d4 : decide (913 ≤ R) = false := decide_eq_false (by omega)
          have d5 : decide (R ≤ 937) = true := decide_eq_true (by omega)
          have d6 : decide (1040 ≤ R) = false := decide_eq_false (by omega)
          have d7 : decide (R ≤ 1071) = true := decide_eq_true (by omega)
          have b215 : (R == 215) = false := by rw [beq_eq_false_iff_ne]; omega
          have n215 : (R != 215) = true := by rw [bne_iff_ne]; omega
          have b930 : (R == 930) = false := by rw [beq_eq_false_iff_ne]; omega
          have n930 : (R != 930) = true := by rw [bne_iff_ne]; omega
          have kb := fun W => print_bytes (P := Tryd.prog) 9 32 5 Tryd.underlying9 Tryd.underlying32 Tryd.underlying5 (sub s x) W
          have HF := Lib.hid hf
          clear hf
          go_wp2_with (first | ((with_reducible refine gate_builtin (b := .append) (xs := #[.tmp 64, .tmp 71]) rfl ?_); at_builtin; refine print_append_row (w0 := w) w.heap.size rfl (.tmp 64) (.tmp 71) 32 5 .u8 1 rfl Tryd.underlying32 info5 (by decide) u3 xs (bytesOf (sub s x)) _ (sub s x).size _ rfl rfl (show OB _ _ _ _ from (HO.out.below hb).below (bytes_below (Below.refl _ _) (Nat.le_refl _) 5 (sub s x))) (bytes_reads w2 5 (sub s x) (by omega)) (bytes_below (below_step HB.out hb) (below_step HB.out hb).size 5 (sub s x)) (Nat.le_trans (below_step HB.out hb).size (by rw [Lib.bytesWorld_size]; omega)) (by omega) ?_; intro v1 w1 hO1 hB1 hg1 hg2; clear hg1 hg2) | (go_at_call 20; refine (cR _).mono ?_; rintro e w2 ⟨rfl, hb⟩))
          have HO3 := Lib.hid (show OB w1 w.heap.size v1 (xs ++ bytesOf (sub s x)) from hO1); have HB3 := Lib.hid hB1
          clear hO1 hB1
          go_wp2_with fail
          go_roundw
          case measure => simp [intOf]; omega
          case rel => exact ⟨k + 1, x + K, xs ++ bytesOf (sub s x), by rw [HGI.out, HK.out, HQ.out, HR.out, HF.out]; rfl, rfl, HO3.out, HB3.out⟩
        by_cases q929 : R ≤ 929
        · have hf : foldB R = true := by unfold foldB; rw [decide_eq_true_eq]; omega
          have d0 : decide (65 ≤ R) = true := decide_eq_true (by omega)
          have d1 : decide (R ≤ 90) = false := decide_eq_false (by omega)
          have d2 : decide (192 ≤ R) = true := decide_eq_true (by omega)
          have d3 : decide (R ≤ 222) = false := decide_eq_false (by omega)
          have d4 : decide (913 ≤ R) = true := decide_eq_true (by omega)
          have d5 : decide (R ≤ 937) = true := decide_eq_true (by omega)
          have d6 : decide (1040 ≤ R) = false := decide_eq_false (by omega)
          have d7 : decide (R ≤ 1071) = true := decide_eq_true (by omega)
          have b215 : (R == 215) = false := by rw [beq_eq_false_iff_ne]; omega
          have n215 : (R != 215) = true := by rw [bne_iff_ne]; omega
          have b930 : (R == 930) = false := by rw [beq_eq_false_iff_ne]; omega
          have n930 : (R != 930) = true := by rw [bne_iff_ne]; omega
          have hlen := encL_len (R + 32) (by omega) (by omega)
          have HF := Lib.hid hf
          clear hf
          go_wp2_with (first | ((with_reducible refine gate_builtin (b := .append) (xs := #[.tmp 59, .tmp 62]) rfl ?_); at_builtin; refine print_append_row (w0 := w) w.heap.size rfl (.tmp 59) (.tmp 62) 32 5 .u8 1 rfl Tryd.underlying32 info5 (by decide) u3 xs (encL (R + 32)) A3 (encL (R + 32)).length c3 rfl rfl ((HO.out.below hb).below hb3) hrd (below_step (below_step HB.out hb) hb3) (below_step (below_step HB.out hb) hb3).size (by omega) ?_; intro v1 w1 hO1 hB1 hg1 hg2; clear hg1 hg2) | (go_at_call 25; refine (l01EncodeC (R + 32) _ (by omega) (by omega)).mono ?_; rintro e w3 ⟨A3, c3, rfl, hrd, hb3⟩) | (go_at_call 20; refine (cR _).mono ?_; rintro e w2 ⟨rfl, hb⟩))
          have HO3 := Lib.hid (show OB w1 w.heap.size v1 (xs ++ encL (R + 32)) from hO1); have HB3 := Lib.hid hB1
          clear hO1 hB1
          go_wp2_with fail
          go_roundw
          case measure => simp [intOf]; omega
          case rel => exact ⟨k + 1, x + K, xs ++ encL (R + 32), by rw [HGI.out, HK.out, HQ.out, HR.out, HF.out]; rfl, rfl, HO3.out, HB3.out⟩
        by_cases q930 : R ≤ 930
        · have hf : foldB R = false := by unfold foldB; rw [decide_eq_false_iff_not]; omega
          obtain rfl : R = 930 := by omega
          have kb := fun W => print_bytes (P := Tryd.prog) 9 32 5 Tryd.underlying9 Tryd.underlying32 Tryd.underlying5 (sub s x) W
          have HF := Lib.hid hf
          clear hf
          go_wp2_with (first | ((with_reducible refine gate_builtin (b := .append) (xs := #[.tmp 64, .tmp 71]) rfl ?_); at_builtin; refine print_append_row (w0 := w) w.heap.size rfl (.tmp 64) (.tmp 71) 32 5 .u8 1 rfl Tryd.underlying32 info5 (by decide) u3 xs (bytesOf (sub s x)) _ (sub s x).size _ rfl rfl (show OB _ _ _ _ from (HO.out.below hb).below (bytes_below (Below.refl _ _) (Nat.le_refl _) 5 (sub s x))) (bytes_reads w2 5 (sub s x) (by omega)) (bytes_below (below_step HB.out hb) (below_step HB.out hb).size 5 (sub s x)) (Nat.le_trans (below_step HB.out hb).size (by rw [Lib.bytesWorld_size]; omega)) (by omega) ?_; intro v1 w1 hO1 hB1 hg1 hg2; clear hg1 hg2) | (go_at_call 20; refine (cR _).mono ?_; rintro e w2 ⟨rfl, hb⟩))
          have HO3 := Lib.hid (show OB w1 w.heap.size v1 (xs ++ bytesOf (sub s x)) from hO1); have HB3 := Lib.hid hB1
          clear hO1 hB1
          go_wp2_with fail
          go_roundw
          case measure => simp [intOf]; omega
          case rel => exact ⟨k + 1, x + K, xs ++ bytesOf (sub s x), by rw [HGI.out, HK.out, HQ.out, HR.out, HF.out]; rfl, rfl, HO3.out, HB3.out⟩
        by_cases q937 : R ≤ 937
        · have hf : foldB R = true := by unfold foldB; rw [decide_eq_true_eq]; omega
          have d0 : decide (65 ≤ R) = true := decide_eq_true (by omega)
          have d1 : decide (R ≤ 90) = false := decide_eq_false (by omega)
          have d2 : decide (192 ≤ R) = true := decide_eq_true (by omega)
          have d3 : decide (R ≤ 222) = false := decide_eq_false (by omega)
          have d4 : decide (913 ≤ R) = true := decide_eq_true (by omega)
          have d5 : decide (R ≤ 937) = true := decide_eq_true (by omega)
          have d6 : decide (1040 ≤ R) = false := decide_eq_false (by omega)
          have d7 : decide (R ≤ 1071) = true := decide_eq_true (by omega)
          have b215 : (R == 215) = false := by rw [beq_eq_false_iff_ne]; omega
          have n215 : (R != 215) = true := by rw [bne_iff_ne]; omega
          have b930 : (R == 930) = false := by rw [beq_eq_false_iff_ne]; omega
          have n930 : (R != 930) = true := by rw [bne_iff_ne]; omega
          have hlen := encL_len (R + 32) (by omega) (by omega)
          have HF := Lib.hid hf
          clear hf
          go_wp2_with (first | ((with_reducible refine gate_builtin (b := .append) (xs := #[.tmp 59, .tmp 62]) rfl ?_); at_builtin; refine print_append_row (w0 := w) w.heap.size rfl (.tmp 59) (.tmp 62) 32 5 .u8 1 rfl Tryd.underlying32 info5 (by decide) u3 xs (encL (R + 32)) A3 (encL (R + 32)).length c3 rfl rfl ((HO.out.below hb).below hb3) hrd (below_step (below_step HB.out hb) hb3) (below_step (below_step HB.out hb) hb3).size (by omega) ?_; intro v1 w1 hO1 hB1 hg1 hg2; clear hg1 hg2) | (go_at_call 25; refine (l01EncodeC (R + 32) _ (by omega) (by omega)).mono ?_; rintro e w3 ⟨A3, c3, rfl, hrd, hb3⟩) | (go_at_call 20; refine (cR _).mono ?_; rintro e w2 ⟨rfl, hb⟩))
          have HO3 := Lib.hid (show OB w1 w.heap.size v1 (xs ++ encL (R + 32)) from hO1); have HB3 := Lib.hid hB1
          clear hO1 hB1
          go_wp2_with fail
          go_roundw
          case measure => simp [intOf]; omega
          case rel => exact ⟨k + 1, x + K, xs ++ encL (R + 32), by rw [HGI.out, HK.out, HQ.out, HR.out, HF.out]; rfl, rfl, HO3.out, HB3.out⟩
        by_cases q1039 : R ≤ 1039
        · have hf : foldB R = false := by unfold foldB; rw [decide_eq_false_iff_not]; omega
          have d0 : decide (65 ≤ R) = true := decide_eq_true (by omega)
          have d1 : decide (R ≤ 90) = false := decide_eq_false (by omega)
          have d2 : decide (192 ≤ R) = true := decide_eq_true (by omega)
          have d3 : decide (R ≤ 222) = false := decide_eq_false (by omega)
          have d4 : decide (913 ≤ R) = true := decide_eq_true (by omega)
          have d5 : decide (R ≤ 937) = false := decide_eq_false (by omega)
          have d6 : decide (1040 ≤ R) = false := decide_eq_false (by omega)
          have d7 : decide (R ≤ 1071) = true := decide_eq_true (by omega)
          have b215 : (R == 215) = false := by rw [beq_eq_false_iff_ne]; omega
          have n215 : (R != 215) = true := by rw [bne_iff_ne]; omega
          have b930 : (R == 930) = false := by rw [beq_eq_false_iff_ne]; omega
          have n930 : (R != 930) = true := by rw [bne_iff_ne]; omega
          have kb := fun W => print_bytes (P := Tryd.prog) 9 32 5 Tryd.underlying9 Tryd.underlying32 Tryd.underlying5 (sub s x) W
          have HF := Lib.hid hf
          clear hf
          go_wp2_with (first | ((with_reducible refine gate_builtin (b := .append) (xs := #[.tmp 64, .tmp 71]) rfl ?_); at_builtin; refine print_append_row (w0 := w) w.heap.size rfl (.tmp 64) (.tmp 71) 32 5 .u8 1 rfl Tryd.underlying32 info5 (by decide) u3 xs (bytesOf (sub s x)) _ (sub s x).size _ rfl rfl (show OB _ _ _ _ from (HO.out.below hb).below (bytes_below (Below.refl _ _) (Nat.le_refl _) 5 (sub s x))) (bytes_reads w2 5 (sub s x) (by omega)) (bytes_below (below_step HB.out hb) (below_step HB.out hb).size 5 (sub s x)) (Nat.le_trans (below_step HB.out hb).size (by rw [Lib.bytesWorld_size]; omega)) (by omega) ?_; intro v1 w1 hO1 hB1 hg1 hg2; clear hg1 hg2) | (go_at_call 20; refine (cR _).mono ?_; rintro e w2 ⟨rfl, hb⟩))
          have HO3 := Lib.hid (show OB w1 w.heap.size v1 (xs ++ bytesOf (sub s x)) from hO1); have HB3 := Lib.hid hB1
          clear hO1 hB1
          go_wp2_with fail
          go_roundw
          case measure => simp [intOf]; omega
          case rel => exact ⟨k + 1, x + K, xs ++ bytesOf (sub s x), by rw [HGI.out, HK.out, HQ.out, HR.out, HF.out]; rfl, rfl, HO3.out, HB3.out⟩
        by_cases q1071 : R ≤ 1071
        · have hf : foldB R = true := by unfold foldB; rw [decide_eq_true_eq]; omega
          have d0 : decide (65 ≤ R) = true := decide_eq_true (by omega)
          have d1 : decide (R ≤ 90) = false := decide_eq_false (by omega)
          have d2 : decide (192 ≤ R) = true := decide_eq_true (by omega)
          have d3 : decide (R ≤ 222) = false := decide_eq_false (by omega)
          have d4 : decide (913 ≤ R) = true := decide_eq_true (by omega)
          have d5 : decide (R ≤ 937) = false := decide_eq_false (by omega)
          have d6 : decide (1040 ≤ R) = true := decide_eq_true (by omega)
          have d7 : decide (R ≤ 1071) = true := decide_eq_true (by omega)
          have b215 : (R == 215) = false := by rw [beq_eq_false_iff_ne]; omega
          have n215 : (R != 215) = true := by rw [bne_iff_ne]; omega
          have b930 : (R == 930) = false := by rw [beq_eq_false_iff_ne]; omega
          have n930 : (R != 930) = true := by rw [bne_iff_ne]; omega
          have hlen := encL_len (R + 32) (by omega) (by omega)
          have HF := Lib.hid hf
          clear hf
          go_wp2_with (first | ((with_reducible refine gate_builtin (b := .append) (xs := #[.tmp 59, .tmp 62]) rfl ?_); at_builtin; refine print_append_row (w0 := w) w.heap.size rfl (.tmp 59) (.tmp 62) 32 5 .u8 1 rfl Tryd.underlying32 info5 (by decide) u3 xs (encL (R + 32)) A3 (encL (R + 32)).length c3 rfl rfl ((HO.out.below hb).below hb3) hrd (below_step (below_step HB.out hb) hb3) (below_step (below_step HB.out hb) hb3).size (by omega) ?_; intro v1 w1 hO1 hB1 hg1 hg2; clear hg1 hg2) | (go_at_call 25; refine (l01EncodeC (R + 32) _ (by omega) (by omega)).mono ?_; rintro e w3 ⟨A3, c3, rfl, hrd, hb3⟩) | (go_at_call 20; refine (cR _).mono ?_; rintro e w2 ⟨rfl, hb⟩))
          have HO3 := Lib.hid (show OB w1 w.heap.size v1 (xs ++ encL (R + 32)) from hO1); have HB3 := Lib.hid hB1
          clear hO1 hB1
          go_wp2_with fail
          go_roundw
          case measure => simp [intOf]; omega
          case rel => exact ⟨k + 1, x + K, xs ++ encL (R + 32), by rw [HGI.out, HK.out, HQ.out, HR.out, HF.out]; rfl, rfl, HO3.out, HB3.out⟩
        have hf : foldB R = false := by unfold foldB; rw [decide_eq_false_iff_not]; omega
        have d0 : decide (65 ≤ R) = true := decide_eq_true (by omega)
        have d1 : decide (R ≤ 90) = false := decide_eq_false (by omega)
        have d2 : decide (192 ≤ R) = true := decide_eq_true (by omega)
        have d3 : decide (R ≤ 222) = false := decide_eq_false (by omega)
        have d4 : decide (913 ≤ R) = true := decide_eq_true (by omega)
        have d5 : decide (R ≤ 937) = false := decide_eq_false (by omega)
        have d6 : decide (1040 ≤ R) = true := decide_eq_true (by omega)
        have d7 : decide (R ≤ 1071) = false := decide_eq_false (by omega)
        have b215 : (R == 215) = false := by rw [beq_eq_false_iff_ne]; omega
        have n215 : (R != 215) = true := by rw [bne_iff_ne]; omega
        have b930 : (R == 930) = false := by rw [beq_eq_false_iff_ne]; omega
        have n930 : (R != 930) = true := by rw [bne_iff_ne]; omega
        have kb := fun W => print_bytes (P := Tryd.prog) 9 32 5 Tryd.underlying9 Tryd.underlying32 Tryd.underlying5 (sub s x) W
        have HF := Lib.hid hf
        clear hf
        go_wp2_with (first | ((with_reducible refine gate_builtin (b := .append) (xs := #[.tmp 64, .tmp 71]) rfl ?_); at_builtin; refine print_append_row (w0 := w) w.heap.size rfl (.tmp 64) (.tmp 71) 32 5 .u8 1 rfl Tryd.underlying32 info5 (by decide) u3 xs (bytesOf (sub s x)) _ (sub s x).size _ rfl rfl (show OB _ _ _ _ from (HO.out.below hb).below (bytes_below (Below.refl _ _) (Nat.le_refl _) 5 (sub s x))) (bytes_reads w2 5 (sub s x) (by omega)) (bytes_below (below_step HB.out hb) (below_step HB.out hb).size 5 (sub s x)) (Nat.le_trans (below_step HB.out hb).size (by rw [Lib.bytesWorld_size]; omega)) (by omega) ?_; intro v1 w1 hO1 hB1 hg1 hg2; clear hg1 hg2) | (go_at_call 20; refine (cR _).mono ?_; rintro e w2 ⟨rfl, hb⟩))
        have HO3 := Lib.hid (show OB w1 w.heap.size v1 (xs ++ bytesOf (sub s x)) from hO1); have HB3 := Lib.hid hB1
        clear hO1 hB1
        go_wp2_with fail
        go_roundw
        case measure => simp [intOf]; omega
        case rel => exact ⟨k + 1, x + K, xs ++ bytesOf (sub s x), by rw [HGI.out, HK.out, HQ.out, HR.out, HF.out]; rfl, rfl, HO3.out, HB3.out⟩
      · have hE := go_end (a0 := []) HP.out (k := k) (by rw [HG.out]; exact hlt)
        rw [HG.out] at hE
        have HE := Lib.hid (show xs = all s (fp s) [] from hE)
        clear hE
        have hcs := own_string (P := Tryd.prog) Tryd.underlying32 Tryd.underlying5 Tryd.underlying9 HO.out
        have hq : foldS s = strOfNums xs := by unfold foldS; rw [HL.out, HE.out]; rfl
        have HQ9 := Lib.hid hq
        clear hq
        go_wp2_with fail
        go_ret
        exact ⟨by rw [HQ9.out]; rfl, HB.out⟩
  · have hl : 65536 < (s.size : Int) := by simpa [longB] using hL
    have hq : foldS s = ⟨#[]⟩ := by unfold foldS; rw [hL]; rfl
    rw [hq]
    clear hq hL
    go_enter Tryd.func12, Tryd.ntmps12
    go_wp2_with fail
    go_ret
    exact ⟨rfl, Below.refl _ _⟩
set_option maxHeartbeats 4000000 in
set_option maxRecDepth 100000 in
theorem implFoldC (s : ByteArray) (w : World) (hs : s.size ≤ 1048576) (hT : Tabs w) (h2 : 2 ≤ w.heap.size) :
    Calls Tryd.prog 13 #[.string s] w fun e w' => e = .returned (.string (foldS s)) ∧ Below w.heap.size w w' := by
  have hmf : ∀ (fn : Fn) (first cap : Array Value) (w : World), (Instr.makeFunc fn first cap).run Tryd.prog w = .ok (.func fn first cap) w := fun _ _ _ _ => rfl
  have HTB := Lib.hid (fun W (hb : Below w.heap.size w W) => hT.below h2 hb)
  clear hT
  have cT := fun W b hc => tooLongC s b W hc
  have cR := fun W x (h0 : 0 ≤ x) (h : x < (s.size : Int)) (hb : Below w.heap.size w W) => runeAtC s x W h0 h (Nat.le_trans hs (by decide)) (HTB.out W hb)
  have CR := Lib.hid cR; clear cR
  rcases hL : longB s with _ | _
  · have hl : ¬ 65536 < (s.size : Int) := by simpa [longB] using hL
    rw [hL] at cT
    have HL := Lib.hid hL
    clear hL
    have HP := Lib.hid (fp_len s)
    go_enter Tryd.func13, Tryd.ntmps13
    go_wp2_with (go_at_call 21; refine (cT _ w.heap.size (by simp)).mono ?_; rintro e w9 ⟨rfl, rfl⟩)
    clear cT
    go_loopw [3, 4] (fun o i wr => ∃ k : Nat, ∃ x : Int, ∃ xs : List Int, go s (fp s) [] k = (x, xs) ∧ i = .int .i64 x ∧ OB wr w.heap.size o xs ∧ Below w.heap.size w wr) (fun _ i _ => s.size - (intOf i).toNat)
    case atStart => exact ⟨0, 0, [], rfl, rfl, OB.nil _ _, below_alloc (Below.refl _ _) _⟩
    case round =>
      obtain ⟨k, x, xs, hG, rfl, hO, hB⟩ := hrel
      have hx := go_range (a0 := []) HP.out k
      rw [hG] at hx
      obtain ⟨hx0, hx1, hx2⟩ := hx
      have hxl : (xs.length : Int) ≤ 4 * x := by have h9 : (xs.length : Int) ≤ ((0 : Nat) : Int) + 4 * x := hx2; omega
      clear hx2
      have HG := Lib.hid hG; have HO := Lib.hid hO; have HB := Lib.hid hB
      clear hG hO hB
      have hbz := HB.out.size
      by_cases hlt : x < (s.size : Int)
      · have hr := rI_range s x hx0 hlt
        have hss := sub_size s x hx0 hlt
        have HGI := Lib.hid (show go s (fp s) [] (k + 1) = (x + nI s x, xs ++ fp s x) by have h9 := go_in (s := s) (P := fp s) (a0 := []) (k := k) (by rw [HG.out]; exact hlt); rw [HG.out] at h9; exact h9)
        have cR := fun W hb => CR.out W x hx0 hlt hb
        have HQ := Lib.hid (show fp s x = if foldB (rI s x) = true then encL (rI s x + 32) else bytesOf (sub s x) from rfl)
        have hsub : s.extract x.toNat (x + nI s x).toNat = sub s x := rfl
        obtain ⟨R, hR⟩ : ∃ R, rI s x = R := ⟨_, rfl⟩
        obtain ⟨K, hK⟩ : ∃ K, nI s x = K := ⟨_, rfl⟩
        rw [hR, hK] at hr
        simp only [hR, hK] at cR hsub
        rw [hK] at hss
        have HR := Lib.hid hR; have HK := Lib.hid hK
        clear hR hK
        obtain ⟨hr0, hr1, hk0, hk1, hk2⟩ := hr
        have hK9 : x + K ≤ 9223372036854775807 := by omega
        have hk3 : x ≤ x + K := by omega
        have hk4 : 0 ≤ K := by omega
        have hk5 : 0 ≤ x + K := by omega
        by_cases q64 : R ≤ 64
        · have hf : foldB R = false := by unfold foldB; rw [decide_eq_false_iff_not]; omega
          have e65 : inR 65 90 R = false := by unfold inR; rw [decide_eq_false_iff_not]; omega
          have e192 : inR 192 222 R = false := by unfold inR; rw [decide_eq_false_iff_not]; omega
          have e913 : inR 913 937 R = false := by unfold inR; rw [decide_eq_false_iff_not]; omega
          have e1040 : inR 1040 1071 R = false := by unfold inR; rw [decide_eq_false_iff_not]; omega
          have b215 : (R == 215) = false := by rw [beq_eq_false_iff_ne]; omega
          have n215 : (R != 215) = true := by rw [bne_iff_ne]; omega
          have b930 : (R == 930) = false := by rw [beq_eq_false_iff_ne]; omega
          have n930 : (R != 930) = true := by rw [bne_iff_ne]; omega
          have HF := Lib.hid hf
          clear hf
          go_wp2_with (first | ((with_reducible refine gate_builtin (b := .append) (xs := #[.tmp 49, .tmp 55]) rfl ?_); at_builtin; refine print_append_str (w0 := w) w.heap.size rfl (.tmp 49) (.tmp 55) 32 9 5 rfl Tryd.underlying32 Tryd.underlying9 info5 u3 xs (sub s x) rfl rfl (OB.below (HO.out.below hb) ((Below.refl _ _).alloc (Nat.le_refl _) (.cells #[.int .i64 R] 3))) (below_alloc (below_step HB.out hb) (.cells #[.int .i64 R] 3)) (below_alloc (below_step HB.out hb) (.cells #[.int .i64 R] 3)).size (by omega) ?_; intro v1 w1 hO1 hB1 hg1; clear hg1) | (go_at_call 26; refine (clos26 _ _ R w2.heap.size _ (by simp)).mono ?_; rintro e w8 ⟨rfl, rfl⟩) | (go_at_call 22; refine (cR _ HB.out).mono ?_; rintro e w2 ⟨rfl, hb⟩))
          have HO3 := Lib.hid (show OB w1 w.heap.size v1 (xs ++ bytesOf (sub s x)) from hO1); have HB3 := Lib.hid hB1
          clear hO1 hB1
          go_wp2_with fail
          go_roundw
          case measure => simp [intOf]; omega
          case rel => exact ⟨k + 1, x + K, xs ++ bytesOf (sub s x), by rw [HGI.out, HK.out, HQ.out, HR.out, HF.out]; rfl, rfl, HO3.out, HB3.out⟩
        by_cases q90 : R ≤ 90
        · have hf : foldB R = true := by unfold foldB; rw [decide_eq_true_eq]; omega
          have e65 : inR 65 90 R = true := by unfold inR; rw [decide_eq_true_eq]; omega
          have e192 : inR 192 222 R = false := by unfold inR; rw [decide_eq_false_iff_not]; omega
          have e913 : inR 913 937 R = false := by unfold inR; rw [decide_eq_false_iff_not]; omega
          have e1040 : inR 1040 1071 R = false := by unfold inR; rw [decide_eq_false_iff_not]; omega
          have b215 : (R == 215) = false := by rw [beq_eq_false_iff_ne]; omega
          have n215 : (R != 215) = true := by rw [bne_iff_ne]; omega
          have b930 : (R == 930) = false := by rw [beq_eq_false_iff_ne]; omega
          have n930 : (R != 930) = true := by rw [bne_iff_ne]; omega
          have HF := Lib.hid hf
          clear hf
          go_wp2_with (first | (go_at_call 27; refine (appRuneC u3 xs (R + 32) w _ (by omega) (by omega) (OB.below (HO.out.below hb) ((Below.refl _ _).alloc (Nat.le_refl _) (.cells #[.int .i64 R] 3))) (below_alloc (below_step HB.out hb) (.cells #[.int .i64 R] 3)) (by omega)).mono ?_; rintro e w1 ⟨v1, rfl, hO1, hB1⟩) | (go_at_call 26; refine (clos26 _ _ R w2.heap.size _ (by simp)).mono ?_; rintro e w8 ⟨rfl, rfl⟩) | (go_at_call 22; refine (cR _ HB.out).mono ?_; rintro e w2 ⟨rfl, hb⟩))
          have HO3 := Lib.hid (show OB w1 w.heap.size v1 (xs ++ encL (R + 32)) from hO1); have HB3 := Lib.hid hB1
          clear hO1 hB1
          go_wp2_with fail
          go_roundw
          case measure => simp [intOf]; omega
          case rel => exact ⟨k + 1, x + K, xs ++ encL (R + 32), by rw [HGI.out, HK.out, HQ.out, HR.out, HF.out]; rfl, rfl, HO3.out, HB3.out⟩
        by_cases q191 : R ≤ 191
        · have hf : foldB R = false := by unfold foldB; rw [decide_eq_false_iff_not]; omega
          have e65 : inR 65 90 R = false := by unfold inR; rw [decide_eq_false_iff_not]; omega
          have e192 : inR 192 222 R = false := by unfold inR; rw [decide_eq_false_iff_not]; omega
          have e913 : inR 913 937 R = false := by unfold inR; rw [decide_eq_false_iff_not]; omega
          have e1040 : inR 1040 1071 R = false := by unfold inR; rw [decide_eq_false_iff_not]; omega
          have b215 : (R == 215) = false := by rw [beq_eq_false_iff_ne]; omega
          have n215 : (R != 215) = true := by rw [bne_iff_ne]; omega
          have b930 : (R == 930) = false := by rw [beq_eq_false_iff_ne]; omega
          have n930 : (R != 930) = true := by rw [bne_iff_ne]; omega
          have HF := Lib.hid hf
          clear hf
          go_wp2_with (first | ((with_reducible refine gate_builtin (b := .append) (xs := #[.tmp 49, .tmp 55]) rfl ?_); at_builtin; refine print_append_str (w0 := w) w.heap.size rfl (.tmp 49) (.tmp 55) 32 9 5 rfl Tryd.underlying32 Tryd.underlying9 info5 u3 xs (sub s x) rfl rfl (OB.below (HO.out.below hb) ((Below.refl _ _).alloc (Nat.le_refl _) (.cells #[.int .i64 R] 3))) (below_alloc (below_step HB.out hb) (.cells #[.int .i64 R] 3)) (below_alloc (below_step HB.out hb) (.cells #[.int .i64 R] 3)).size (by omega) ?_; intro v1 w1 hO1 hB1 hg1; clear hg1) | (go_at_call 26; refine (clos26 _ _ R w2.heap.size _ (by simp)).mono ?_; rintro e w8 ⟨rfl, rfl⟩) | (go_at_call 22; refine (cR _ HB.out).mono ?_; rintro e w2 ⟨rfl, hb⟩))
          have HO3 := Lib.hid (show OB w1 w.heap.size v1 (xs ++ bytesOf (sub s x)) from hO1); have HB3 := Lib.hid hB1
          clear hO1 hB1
          go_wp2_with fail
          go_roundw
          case measure => simp [intOf]; omega
          case rel => exact ⟨k + 1, x + K, xs ++ bytesOf (sub s x), by rw [HGI.out, HK.out, HQ.out, HR.out, HF.out]; rfl, rfl, HO3.out, HB3.out⟩
        by_cases q214 : R ≤ 214
        · have hf : foldB R = true := by unfold foldB; rw [decide_eq_true_eq]; omega
          have e65 : inR 65 90 R = false := by unfold inR; rw [decide_eq_false_iff_not]; omega
          have e192 : inR 192 222 R = true := by unfold inR; rw [decide_eq_true_eq]; omega
          have e913 : inR 913 937 R = false := by unfold inR; rw [decide_eq_false_iff_not]; omega
          have e1040 : inR 1040 1071 R = false := by unfold inR; rw [decide_eq_false_iff_not]; omega
          have b215 : (R == 215) = false := by rw [beq_eq_false_iff_ne]; omega
          have n215 : (R != 215) = true := by rw [bne_iff_ne]; omega
          have b930 : (R == 930) = false := by rw [beq_eq_false_iff_ne]; omega
          have n930 : (R != 930) = true := by rw [bne_iff_ne]; omega
          have HF := Lib.hid hf
          clear hf
          go_wp2_with (first | (go_at_call 27; refine (appRuneC u3 xs (R + 32) w _ (by omega) (by omega) (OB.below (HO.out.below hb) ((Below.refl _ _).alloc (Nat.le_refl _) (.cells #[.int .i64 R] 3))) (below_alloc (below_step HB.out hb) (.cells #[.int .i64 R] 3)) (by omega)).mono ?_; rintro e w1 ⟨v1, rfl, hO1, hB1⟩) | (go_at_call 26; refine (clos26 _ _ R w2.heap.size _ (by simp)).mono ?_; rintro e w8 ⟨rfl, rfl⟩) | (go_at_call 22; refine (cR _ HB.out).mono ?_; rintro e w2 ⟨rfl, hb⟩))
          have HO3 := Lib.hid (show OB w1 w.heap.size v1 (xs ++ encL (R + 32)) from hO1); have HB3 := Lib.hid hB1
          clear hO1 hB1
          go_wp2_with fail
          go_roundw
          case measure => simp [intOf]; omega
          case rel => exact ⟨k + 1, x + K, xs ++ encL (R + 32), by rw [HGI.out, HK.out, HQ.out, HR.out, HF.out]; rfl, rfl, HO3.out, HB3.out⟩
        by_cases q215 : R ≤ 215
        · have hf : foldB R = false := by unfold foldB; rw [decide_eq_false_iff_not]; omega
          obtain rfl : R = 215 := by omega
          have e65 : inR 65 90 215 = false := rfl
          have e192 : inR 192 222 215 = true := rfl
          have e913 : inR 913 937 215 = false := rfl
          have e1040 : inR 1040 1071 215 = false := rfl
          have HF := Lib.hid hf
          clear hf
          go_wp2_with (first | ((with_reducible refine gate_builtin (b := .append) (xs := #[.tmp 49, .tmp 55]) rfl ?_); at_builtin; refine print_append_str (w0 := w) w.heap.size rfl (.tmp 49) (.tmp 55) 32 9 5 rfl Tryd.underlying32 Tryd.underlying9 info5 u3 xs (sub s x) rfl rfl (OB.below (HO.out.below hb) ((Below.refl _ _).alloc (Nat.le_refl _) (.cells #[.int .i64 215] 3))) (below_alloc (below_step HB.out hb) (.cells #[.int .i64 215] 3)) (below_alloc (below_step HB.out hb) (.cells #[.int .i64 215] 3)).size (by omega) ?_; intro v1 w1 hO1 hB1 hg1; clear hg1) | (go_at_call 26; refine (clos26 _ _ 215 w2.heap.size _ (by simp)).mono ?_; rintro e w8 ⟨rfl, rfl⟩) | (go_at_call 22; refine (cR _ HB.out).mono ?_; rintro e w2 ⟨rfl, hb⟩))
          have HO3 := Lib.hid (show OB w1 w.heap.size v1 (xs ++ bytesOf (sub s x)) from hO1); have HB3 := Lib.hid hB1
          clear hO1 hB1
          go_wp2_with fail
          go_roundw
          case measure => simp [intOf]; omega
          case rel => exact ⟨k + 1, x + K, xs ++ bytesOf (sub s x), by rw [HGI.out, HK.out, HQ.out, HR.out, HF.out]; rfl, rfl, HO3.out, HB3.out⟩
        by_cases q222 : R ≤ 222
        · have hf : foldB R = true := by unfold foldB; rw [decide_eq_true_eq]; omega
          have e65 : inR 65 90 R = false := by unfold inR; rw [decide_eq_false_iff_not]; omega
          have e192 : inR 192 222 R = true := by unfold inR; rw [decide_eq_true_eq]; omega
          have e913 : inR 913 937 R = false := by unfold inR; rw [decide_eq_false_iff_not]; omega
          have e1040 : inR 1040 1071 R = false := by unfold inR; rw [decide_eq_false_iff_not]; omega
          have b215 : (R == 215) = false := by rw [beq_eq_false_iff_ne]; omega
          have n215 : (R != 215) = true := by rw [bne_iff_ne]; omega
          have b930 : (R == 930) = false := by rw [beq_eq_false_iff_ne]; omega
          have n930 : (R != 930) = true := by rw [bne_iff_ne]; omega
          have HF := Lib.hid hf
          clear hf
          go_wp2_with (first | (go_at_call 27; refine (appRuneC u3 xs (R + 32) w _ (by omega) (by omega) (OB.below (HO.out.below hb) ((Below.refl _ _).alloc (Nat.le_refl _) (.cells #[.int .i64 R] 3))) (below_alloc (below_step HB.out hb) (.cells #[.int .i64 R] 3)) (by omega)).mono ?_; rintro e w1 ⟨v1, rfl, hO1, hB1⟩) | (go_at_call 26; refine (clos26 _ _ R w2.heap.size _ (by simp)).mono ?_; rintro e w8 ⟨rfl, rfl⟩) | (go_at_call 22; refine (cR _ HB.out).mono ?_; rintro e w2 ⟨rfl, hb⟩))
          have HO3 := Lib.hid (show OB w1 w.heap.size v1 (xs ++ encL (R + 32)) from hO1); have HB3 := Lib.hid hB1
          clear hO1 hB1
          go_wp2_with fail
          go_roundw
          case measure => simp [intOf]; omega
          case rel => exact ⟨k + 1, x + K, xs ++ encL (R + 32), by rw [HGI.out, HK.out, HQ.out, HR.out, HF.out]; rfl, rfl, HO3.out, HB3.out⟩
        by_cases q912 : R ≤ 912
        · have hf : foldB R = false := by unfold foldB; rw [decide_eq_false_iff_not]; omega
          have e65 : inR 65 90 R = false := by unfold inR; rw [decide_eq_false_iff_not]; omega
          have e192 : inR 192 222 R = false := by unfold inR; rw [decide_eq_false_iff_not]; omega
          have e913 : inR 913 937 R = false := by unfold inR; rw [decide_eq_false_iff_not]; omega
          have e1040 : inR 1040 1071 R = false := by unfold inR; rw [decide_eq_false_iff_not]; omega
          have b215 : (R == 215) = false := by rw [beq_eq_false_iff_ne]; omega
          have n215 : (R != 215) = true := by rw [bne_iff_ne]; omega
          have b930 : (R == 930) = false := by rw [beq_eq_false_iff_ne]; omega
          have n930 : (R != 930) = true := by rw [bne_iff_ne]; omega
          have HF := Lib.hid hf
          clear hf
          go_wp2_with (first | ((with_reducible refine gate_builtin (b := .append) (xs := #[.tmp 49, .tmp 55]) rfl ?_); at_builtin; refine print_append_str (w0 := w) w.heap.size rfl (.tmp 49) (.tmp 55) 32 9 5 rfl Tryd.underlying32 Tryd.underlying9 info5 u3 xs (sub s x) rfl rfl (OB.below (HO.out.below hb) ((Below.refl _ _).alloc (Nat.le_refl _) (.cells #[.int .i64 R] 3))) (below_alloc (below_step HB.out hb) (.cells #[.int .i64 R] 3)) (below_alloc (below_step HB.out hb) (.cells #[.int .i64 R] 3)).size (by omega) ?_; intro v1 w1 hO1 hB1 hg1; clear hg1) | (go_at_call 26; refine (clos26 _ _ R w2.heap.size _ (by simp)).mono ?_; rintro e w8 ⟨rfl, rfl⟩) | (go_at_call 22; refine (cR _ HB.out).mono ?_; rintro e w2 ⟨rfl, hb⟩))
          have HO3 := Lib.hid (show OB w1 w.heap.size v1 (xs ++ bytesOf (sub s x)) from hO1); have HB3 := Lib.hid hB1
          clear hO1 hB1
          go_wp2_with fail
          go_roundw
          case measure => simp [intOf]; omega
          case rel => exact ⟨k + 1, x + K, xs ++ bytesOf (sub s x), by rw [HGI.out, HK.out, HQ.out, HR.out, HF.out]; rfl, rfl, HO3.out, HB3.out⟩
        by_cases q929 : R ≤ 929
        · have hf : foldB R = true := by unfold foldB; rw [decide_eq_true_eq]; omega
          have e65 : inR 65 90 R = false := by unfold inR; rw [decide_eq_false_iff_not]; omega
          have e192 : inR 192 222 R = false := by unfold inR; rw [decide_eq_false_iff_not]; omega
          have e913 : inR 913 937 R = true := by unfold inR; rw [decide_eq_true_eq]; omega
          have e1040 : inR 1040 1071 R = false := by unfold inR; rw [decide_eq_false_iff_not]; omega
          have b215 : (R == 215) = false := by rw [beq_eq_false_iff_ne]; omega
          have n215 : (R != 215) = true := by rw [bne_iff_ne]; omega
          have b930 : (R == 930) = false := by rw [beq_eq_false_iff_ne]; omega
          have n930 : (R != 930) = true := by rw [bne_iff_ne]; omega
          have HF := Lib.hid hf
          clear hf
          go_wp2_with (first | (go_at_call 27; refine (appRuneC u3 xs (R + 32) w _ (by omega) (by omega) (OB.below (HO.out.below hb) ((Below.refl _ _).alloc (Nat.le_refl _) (.cells #[.int .i64 R] 3))) (below_alloc (below_step HB.out hb) (.cells #[.int .i64 R] 3)) (by omega)).mono ?_; rintro e w1 ⟨v1, rfl, hO1, hB1⟩) | (go_at_call 26; refine (clos26 _ _ R w2.heap.size _ (by simp)).mono ?_; rintro e w8 ⟨rfl, rfl⟩) | (go_at_call 22; refine (cR _ HB.out).mono ?_; rintro e w2 ⟨rfl, hb⟩))
          have HO3 := Lib.hid (show OB w1 w.heap.size v1 (xs ++ encL (R + 32)) from hO1); have HB3 := Lib.hid hB1
          clear hO1 hB1
          go_wp2_with fail
          go_roundw
          case measure => simp [intOf]; omega
          case rel => exact ⟨k + 1, x + K, xs ++ encL (R + 32), by rw [HGI.out, HK.out, HQ.out, HR.out, HF.out]; rfl, rfl, HO3.out, HB3.out⟩
        by_cases q930 : R ≤ 930
        · have hf : foldB R = false := by unfold foldB; rw [decide_eq_false_iff_not]; omega
          obtain rfl : R = 930 := by omega
          have e65 : inR 65 90 930 = false := rfl
          have e192 : inR 192 222 930 = false := rfl
          have e913 : inR 913 937 930 = true := rfl
          have e1040 : inR 1040 1071 930 = false := rfl
          have HF := Lib.hid hf
          clear hf
          go_wp2_with (first | ((with_reducible refine gate_builtin (b := .append) (xs := #[.tmp 49, .tmp 55]) rfl ?_); at_builtin; refine print_append_str (w0 := w) w.heap.size rfl (.tmp 49) (.tmp 55) 32 9 5 rfl Tryd.underlying32 Tryd.underlying9 info5 u3 xs (sub s x) rfl rfl (OB.below (HO.out.below hb) ((Below.refl _ _).alloc (Nat.le_refl _) (.cells #[.int .i64 930] 3))) (below_alloc (below_step HB.out hb) (.cells #[.int .i64 930] 3)) (below_alloc (below_step HB.out hb) (.cells #[.int .i64 930] 3)).size (by omega) ?_; intro v1 w1 hO1 hB1 hg1; clear hg1) | (go_at_call 26; refine (clos26 _ _ 930 w2.heap.size _ (by simp)).mono ?_; rintro e w8 ⟨rfl, rfl⟩) | (go_at_call 22; refine (cR _ HB.out).mono ?_; rintro e w2 ⟨rfl, hb⟩))
          have HO3 := Lib.hid (show OB w1 w.heap.size v1 (xs ++ bytesOf (sub s x)) from hO1); have HB3 := Lib.hid hB1
          clear hO1 hB1
          go_wp2_with fail
          go_roundw
          case measure => simp [intOf]; omega
          case rel => exact ⟨k + 1, x + K, xs ++ bytesOf (sub s x), by rw [HGI.out, HK.out, HQ.out, HR.out, HF.out]; rfl, rfl, HO3.out, HB3.out⟩
        by_cases q937 : R ≤ 937
        · have hf : foldB R = true := by unfold foldB; rw [decide_eq_true_eq]; omega
          have e65 : inR 65 90 R = false := by unfold inR; rw [decide_eq_false_iff_not]; omega
          have e192 : inR 192 222 R = false := by unfold inR; rw [decide_eq_false_iff_not]; omega
          have e913 : inR 913 937 R = true := by unfold inR; rw [decide_eq_true_eq]; omega
          have e1040 : inR 1040 1071 R = false := by unfold inR; rw [decide_eq_false_iff_not]; omega
          have b215 : (R == 215) = false := by rw [beq_eq_false_iff_ne]; omega
          have n215 : (R != 215) = true := by rw [bne_iff_ne]; omega
          have b930 : (R == 930) = false := by rw [beq_eq_false_iff_ne]; omega
          have n930 : (R != 930) = true := by rw [bne_iff_ne]; omega
          have HF := Lib.hid hf
          clear hf
          go_wp2_with (first | (go_at_call 27; refine (appRuneC u3 xs (R + 32) w _ (by omega) (by omega) (OB.below (HO.out.below hb) ((Below.refl _ _).alloc (Nat.le_refl _) (.cells #[.int .i64 R] 3))) (below_alloc (below_step HB.out hb) (.cells #[.int .i64 R] 3)) (by omega)).mono ?_; rintro e w1 ⟨v1, rfl, hO1, hB1⟩) | (go_at_call 26; refine (clos26 _ _ R w2.heap.size _ (by simp)).mono ?_; rintro e w8 ⟨rfl, rfl⟩) | (go_at_call 22; refine (cR _ HB.out).mono ?_; rintro e w2 ⟨rfl, hb⟩))
          have HO3 := Lib.hid (show OB w1 w.heap.size v1 (xs ++ encL (R + 32)) from hO1); have HB3 := Lib.hid hB1
          clear hO1 hB1
          go_wp2_with fail
          go_roundw
          case measure => simp [intOf]; omega
          case rel => exact ⟨k + 1, x + K, xs ++ encL (R + 32), by rw [HGI.out, HK.out, HQ.out, HR.out, HF.out]; rfl, rfl, HO3.out, HB3.out⟩
        by_cases q1039 : R ≤ 1039
        · have hf : foldB R = false := by unfold foldB; rw [decide_eq_false_iff_not]; omega
          have e65 : inR 65 90 R = false := by unfold inR; rw [decide_eq_false_iff_not]; omega
          have e192 : inR 192 222 R = false := by unfold inR; rw [decide_eq_false_iff_not]; omega
          have e913 : inR 913 937 R = false := by unfold inR; rw [decide_eq_false_iff_not]; omega
          have e1040 : inR 1040 1071 R = false := by unfold inR; rw [decide_eq_false_iff_not]; omega
          have b215 : (R == 215) = false := by rw [beq_eq_false_iff_ne]; omega
          have n215 : (R != 215) = true := by rw [bne_iff_ne]; omega
          have b930 : (R == 930) = false := by rw [beq_eq_false_iff_ne]; omega
          have n930 : (R != 930) = true := by rw [bne_iff_ne]; omega
          have HF := Lib.hid hf
          clear hf
          go_wp2_with (first | ((with_reducible refine gate_builtin (b := .append) (xs := #[.tmp 49, .tmp 55]) rfl ?_); at_builtin; refine print_append_str (w0 := w) w.heap.size rfl (.tmp 49) (.tmp 55) 32 9 5 rfl Tryd.underlying32 Tryd.underlying9 info5 u3 xs (sub s x) rfl rfl (OB.below (HO.out.below hb) ((Below.refl _ _).alloc (Nat.le_refl _) (.cells #[.int .i64 R] 3))) (below_alloc (below_step HB.out hb) (.cells #[.int .i64 R] 3)) (below_alloc (below_step HB.out hb) (.cells #[.int .i64 R] 3)).size (by omega) ?_; intro v1 w1 hO1 hB1 hg1; clear hg1) | (go_at_call 26; refine (clos26 _ _ R w2.heap.size _ (by simp)).mono ?_; rintro e w8 ⟨rfl, rfl⟩) | (go_at_call 22; refine (cR _ HB.out).mono ?_; rintro e w2 ⟨rfl, hb⟩))
          have HO3 := Lib.hid (show OB w1 w.heap.size v1 (xs ++ bytesOf (sub s x)) from hO1); have HB3 := Lib.hid hB1
          clear hO1 hB1
          go_wp2_with fail
          go_roundw
          case measure => simp [intOf]; omega
          case rel => exact ⟨k + 1, x + K, xs ++ bytesOf (sub s x), by rw [HGI.out, HK.out, HQ.out, HR.out, HF.out]; rfl, rfl, HO3.out, HB3.out⟩
        by_cases q1071 : R ≤ 1071
        · have hf : foldB R = true := by unfold foldB; rw [decide_eq_true_eq]; omega
          have e65 : inR 65 90 R = false := by unfold inR; rw [decide_eq_false_iff_not]; omega
          have e192 : inR 192 222 R = false := by unfold inR; rw [decide_eq_false_iff_not]; omega
          have e913 : inR 913 937 R = false := by unfold inR; rw [decide_eq_false_iff_not]; omega
          have e1040 : inR 1040 1071 R = true := by unfold inR; rw [decide_eq_true_eq]; omega
          have b215 : (R == 215) = false := by rw [beq_eq_false_iff_ne]; omega
          have n215 : (R != 215) = true := by rw [bne_iff_ne]; omega
          have b930 : (R == 930) = false := by rw [beq_eq_false_iff_ne]; omega
          have n930 : (R != 930) = true := by rw [bne_iff_ne]; omega
          have HF := Lib.hid hf
          clear hf
          go_wp2_with (first | (go_at_call 27; refine (appRuneC u3 xs (R + 32) w _ (by omega) (by omega) (OB.below (HO.out.below hb) ((Below.refl _ _).alloc (Nat.le_refl _) (.cells #[.int .i64 R] 3))) (below_alloc (below_step HB.out hb) (.cells #[.int .i64 R] 3)) (by omega)).mono ?_; rintro e w1 ⟨v1, rfl, hO1, hB1⟩) | (go_at_call 26; refine (clos26 _ _ R w2.heap.size _ (by simp)).mono ?_; rintro e w8 ⟨rfl, rfl⟩) | (go_at_call 22; refine (cR _ HB.out).mono ?_; rintro e w2 ⟨rfl, hb⟩))
          have HO3 := Lib.hid (show OB w1 w.heap.size v1 (xs ++ encL (R + 32)) from hO1); have HB3 := Lib.hid hB1
          clear hO1 hB1
          go_wp2_with fail
          go_roundw
          case measure => simp [intOf]; omega
          case rel => exact ⟨k + 1, x + K, xs ++ encL (R + 32), by rw [HGI.out, HK.out, HQ.out, HR.out, HF.out]; rfl, rfl, HO3.out, HB3.out⟩
        have hf : foldB R = false := by unfold foldB; rw [decide_eq_false_iff_not]; omega
        have e65 : inR 65 90 R = false := by unfold inR; rw [decide_eq_false_iff_not]; omega
        have e192 : inR 192 222 R = false := by unfold inR; rw [decide_eq_false_iff_not]; omega
        have e913 : inR 913 937 R = false := by unfold inR; rw [decide_eq_false_iff_not]; omega
        have e1040 : inR 1040 1071 R = false := by unfold inR; rw [decide_eq_false_iff_not]; omega
        have b215 : (R == 215) = false := by rw [beq_eq_false_iff_ne]; omega
        have n215 : (R != 215) = true := by rw [bne_iff_ne]; omega
        have b930 : (R == 930) = false := by rw [beq_eq_false_iff_ne]; omega
        have n930 : (R != 930) = true := by rw [bne_iff_ne]; omega
        have HF := Lib.hid hf
        clear hf
        go_wp2_with (first | ((with_reducible refine gate_builtin (b := .append) (xs := #[.tmp 49, .tmp 55]) rfl ?_); at_builtin; refine print_append_str (w0 := w) w.heap.size rfl (.tmp 49) (.tmp 55) 32 9 5 rfl Tryd.underlying32 Tryd.underlying9 info5 u3 xs (sub s x) rfl rfl (OB.below (HO.out.below hb) ((Below.refl _ _).alloc (Nat.le_refl _) (.cells #[.int .i64 R] 3))) (below_alloc (below_step HB.out hb) (.cells #[.int .i64 R] 3)) (below_alloc (below_step HB.out hb) (.cells #[.int .i64 R] 3)).size (by omega) ?_; intro v1 w1 hO1 hB1 hg1; clear hg1) | (go_at_call 26; refine (clos26 _ _ R w2.heap.size _ (by simp)).mono ?_; rintro e w8 ⟨rfl, rfl⟩) | (go_at_call 22; refine (cR _ HB.out).mono ?_; rintro e w2 ⟨rfl, hb⟩))
        have HO3 := Lib.hid (show OB w1 w.heap.size v1 (xs ++ bytesOf (sub s x)) from hO1); have HB3 := Lib.hid hB1
        clear hO1 hB1
        go_wp2_with fail
        go_roundw
        case measure => simp [intOf]; omega
        case rel => exact ⟨k + 1, x + K, xs ++ bytesOf (sub s x), by rw [HGI.out, HK.out, HQ.out, HR.out, HF.out]; rfl, rfl, HO3.out, HB3.out⟩
      · have hE := go_end (a0 := []) HP.out (k := k) (by rw [HG.out]; exact hlt)
        rw [HG.out] at hE
        have HE := Lib.hid (show xs = all s (fp s) [] from hE)
        clear hE
        have hcs := own_string (P := Tryd.prog) Tryd.underlying32 Tryd.underlying5 Tryd.underlying9 HO.out
        have hq : foldS s = strOfNums xs := by unfold foldS; rw [HL.out, HE.out]; rfl
        have HQ9 := Lib.hid hq
        clear hq
        go_wp2_with fail
        go_ret
        exact ⟨by rw [HQ9.out]; rfl, HB.out⟩
  · have hl : 65536 < (s.size : Int) := by simpa [longB] using hL
    have hq : foldS s = ⟨#[]⟩ := by unfold foldS; rw [hL]; rfl
    rw [hL] at cT
    rw [hq]
    clear hq hL
    go_enter Tryd.func13, Tryd.ntmps13
    go_wp2_with (go_at_call 21; refine (cT _ w.heap.size (by simp)).mono ?_; rintro e w9 ⟨rfl, rfl⟩)
    go_ret
    exact ⟨rfl, below_alloc (Below.refl _ _) _⟩
set_option maxHeartbeats 1000000 in
theorem lawFold (s : ByteArray) (w : World) (hT : Tabs w) (h2 : 2 ≤ w.heap.size) :
    Calls Tryd.prog 5 #[.string s] w fun e w' => e = .returned (.bool true) ∧ Below w.heap.size w w' := by
  by_cases hl : 1048576 < (s.size : Int)
  · go_enter Tryd.func5, Tryd.ntmps5
    go_wp2_with fail
    go_ret
    exact ⟨rfl, Below.refl _ _⟩
  · have hs : s.size ≤ 1048576 := by omega
    have c1 := specFoldC s w hs
    have c2 := fun W (hb : Below w.heap.size w W) => implFoldC s W hs (hT.below h2 hb) (Nat.le_trans h2 hb.size)
    obtain ⟨Q, hQ⟩ : ∃ Q, foldS s = Q := ⟨_, rfl⟩
    rw [hQ] at c1 c2
    clear hQ
    go_enter Tryd.func5, Tryd.ntmps5
    go_wp2_with (go_at_call 12; refine c1.mono ?_; rintro e w1 ⟨rfl, hb1⟩)
    have HB := Lib.hid hb1
    clear hb1
    go_wp2_with (go_at_call 13; refine (c2 _ HB.out).mono ?_; rintro e w2 ⟨rfl, hb2⟩)
    go_ret
    exact ⟨rfl, below_step HB.out hb2⟩
end Go.Proofs.YtgiaogocdihhhaaDoor.Tex
