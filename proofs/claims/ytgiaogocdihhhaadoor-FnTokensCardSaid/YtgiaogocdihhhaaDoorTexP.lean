/- Texts: Quote, the specification's and the program's, walked; the law. -/
import Derived.Test.YtgiaogocdihhhaaDoorTexO
import Derived.BigRegion
import Derived.IntWalk
import Derived.StillTailTactics
import Derived.Handy
namespace Go.Proofs.YtgiaogocdihhhaaDoor.Tex
open Go.RowKit Go.Proofs.YtgiaogocdihhhaaDoorW.PrintWords Go.Proofs.YtgiaogocdihhhaaDoorW.PrintLast Go.Proofs.YtgiaogocdihhhaaDoorW.PrintMore
set_option linter.unusedVariables false
set_option linter.unusedSimpArgs false
set_option maxRecDepth 100000 in
theorem and15_fin : ∀ x : Fin 256, Go.bits .and .u8 ((x.val : Nat) : Int) 15 = ((x.val : Nat) : Int) % 16 := by decide
theorem and15 (B : Int) (h0 : 0 ≤ B) (h1 : B ≤ 255) : Go.bits .and .u8 B 15 = B % 16 := by
  have h := and15_fin ⟨B.toNat, by omega⟩
  simp only at h
  rw [show ((B.toNat : Nat) : Int) = B by omega] at h
  exact h
set_option maxHeartbeats 4000000 in
set_option maxRecDepth 100000 in
theorem specQuoteC (s : ByteArray) (w : World) (hs : s.size ≤ 1048576) :
    Calls Tryd.prog 10 #[.string s] w fun e w' => e = .returned (.string (quoteS s)) ∧ Below w.heap.size w w' := by
  have cR := fun W x (h0 : 0 ≤ x) (h : x < (s.size : Int))  => l01RuneC s x W h0 h (Nat.le_trans hs (by decide)) 
  have cW := fun W x (h0 : 0 ≤ x) (h : x < (s.size : Int))  => l01WrongC s x W h0 h (Nat.le_trans hs (by decide)) 
  have CR := Lib.hid cR; have CW := Lib.hid cW; clear cR cW
  rcases hL : longB s with _ | _
  · have hl : ¬ 65536 < (s.size : Int) := by simpa [longB] using hL
    have HL := Lib.hid hL
    clear hL
    have HP := Lib.hid (qp_len s)
    go_enter Tryd.func10, Tryd.ntmps10
    go_wp2_with fail
    go_loopw [3, 4] (fun o i wr => ∃ k : Nat, ∃ x : Int, ∃ xs : List Int, go s (qp s) [34] k = (x, xs) ∧ i = .int .i64 x ∧ OB wr w.heap.size o xs ∧ Below w.heap.size w wr) (fun _ i _ => s.size - (intOf i).toNat)
    case atStart => exact ⟨0, 0, [34], rfl, rfl, by simpa [nums] using OB.lit w w.heap.size [34] (by simp) (by decide), below_alloc (Below.refl _ _) _⟩
    case round =>
      obtain ⟨k, x, xs, hG, rfl, hO, hB⟩ := hrel
      have hx := go_range (a0 := [34]) HP.out k
      rw [hG] at hx
      obtain ⟨hx0, hx1, hx2⟩ := hx
      have hxl : (xs.length : Int) ≤ 1 + 4 * x := hx2
      clear hx2
      have HG := Lib.hid hG; have HO := Lib.hid hO; have HB := Lib.hid hB
      clear hG hO hB
      have hbz := HB.out.size
      by_cases hlt : x < (s.size : Int)
      · have hr := rI_range s x hx0 hlt
        have hss := sub_size s x hx0 hlt
        have hqp := Lib.hid (show qp s x = _ from rfl)
        have HGI := Lib.hid (show go s (qp s) [34] (k + 1) = (x + nI s x, xs ++ qp s x) by have h9 := go_in (s := s) (P := qp s) (a0 := [34]) (k := k) (by rw [HG.out]; exact hlt); rw [HG.out] at h9; exact h9)
        have cR := fun W => CR.out W x hx0 hlt
        have cW := fun W => CW.out W x hx0 hlt
        have HQ := Lib.hid (show qp s x = if rI s x = 10 then [92, 110] else if rI s x = 34 ∨ rI s x = 92 then [92, rI s x] else if rI s x < 32 ∨ rI s x = 127 ∨ wrongB s x = true then [92, 120, bt hexS (bt s x / 16), bt hexS (bt s x % 16)] else bytesOf (sub s x) from rfl)
        have hsub : s.extract x.toNat (x + nI s x).toNat = sub s x := rfl
        obtain ⟨R, hR⟩ : ∃ R, rI s x = R := ⟨_, rfl⟩
        obtain ⟨K, hK⟩ : ∃ K, nI s x = K := ⟨_, rfl⟩
        rw [hR, hK] at hr
        simp only [hR, hK] at cR hsub
        rw [hK] at hss
        have HR := Lib.hid hR; have HK := Lib.hid hK
        clear hR hK hqp
        obtain ⟨hr0, hr1, hk0, hk1, hk2⟩ := hr
        by_cases h10 : R = 10
        · subst h10
          go_wp2_with (first | ((with_reducible refine gate_builtin (b := .append) (xs := #[.tmp 33, .tmp 34]) rfl ?_); at_builtin; refine print_append_row (w0 := w) w.heap.size rfl (.tmp 33) (.tmp 34) 32 5 .u8 1 rfl Tryd.underlying32 info5 (by decide) u3 xs [92, 110] _ 2 2 rfl rfl ((HO.out.below hb).alloc _) (by simpa [nums] using lit_reads w2 [92, 110] (by simp)) (below_alloc (below_step HB.out hb) _) (below_alloc (below_step HB.out hb) _).size (by simp; omega) ?_; intro v1 w1 hO1 hB1 hg1 hg2; clear hg1 hg2) | (go_at_call 20; refine (cR _).mono ?_; rintro e w2 ⟨rfl, hb⟩))
          have HO3 := Lib.hid (show OB w1 w.heap.size v1 (xs ++ [92, 110]) from hO1); have HB3 := Lib.hid hB1
          clear hO1 hB1
          go_wp2_with fail
          go_roundw
          case measure => simp [intOf]; omega
          case rel => exact ⟨k + 1, x + K, xs ++ [92, 110], by rw [HGI.out, HK.out, HQ.out, HR.out, if_pos rfl], rfl, HO3.out, HB3.out⟩
        by_cases h34 : R = 34
        · subst h34
          go_wp2_with (first | ((with_reducible refine gate_builtin (b := .append) (xs := #[.tmp 43, .tmp 46]) rfl ?_); at_builtin; refine print_append_row (w0 := w) w.heap.size rfl (.tmp 43) (.tmp 46) 32 5 .u8 1 rfl Tryd.underlying32 info5 (by decide) u3 xs [92, 34] _ 2 2 rfl rfl ((HO.out.below hb).alloc _) (by simpa [nums] using lit_reads w2 [92, 34] (by simp)) (below_alloc (below_step HB.out hb) _) (below_alloc (below_step HB.out hb) _).size (by simp; omega) ?_; intro v1 w1 hO1 hB1 hg1 hg2; clear hg1 hg2) | (go_at_call 20; refine (cR _).mono ?_; rintro e w2 ⟨rfl, hb⟩))
          have HO3 := Lib.hid (show OB w1 w.heap.size v1 (xs ++ [92, 34]) from hO1); have HB3 := Lib.hid hB1
          clear hO1 hB1
          go_wp2_with fail
          go_roundw
          case measure => simp [intOf]; omega
          case rel => exact ⟨k + 1, x + K, xs ++ [92, 34], by rw [HGI.out, HK.out, HQ.out, HR.out, if_neg (by decide), if_pos (.inl rfl)], rfl, HO3.out, HB3.out⟩
        by_cases h92 : R = 92
        · subst h92
          go_wp2_with (first | ((with_reducible refine gate_builtin (b := .append) (xs := #[.tmp 43, .tmp 46]) rfl ?_); at_builtin; refine print_append_row (w0 := w) w.heap.size rfl (.tmp 43) (.tmp 46) 32 5 .u8 1 rfl Tryd.underlying32 info5 (by decide) u3 xs [92, 92] _ 2 2 rfl rfl ((HO.out.below hb).alloc _) (by simpa [nums] using lit_reads w2 [92, 92] (by simp)) (below_alloc (below_step HB.out hb) _) (below_alloc (below_step HB.out hb) _).size (by simp; omega) ?_; intro v1 w1 hO1 hB1 hg1 hg2; clear hg1 hg2) | (go_at_call 20; refine (cR _).mono ?_; rintro e w2 ⟨rfl, hb⟩))
          have HO3 := Lib.hid (show OB w1 w.heap.size v1 (xs ++ [92, 92]) from hO1); have HB3 := Lib.hid hB1
          clear hO1 hB1
          go_wp2_with fail
          go_roundw
          case measure => simp [intOf]; omega
          case rel => exact ⟨k + 1, x + K, xs ++ [92, 92], by rw [HGI.out, HK.out, HQ.out, HR.out, if_neg (by decide), if_pos (.inr rfl)], rfl, HO3.out, HB3.out⟩
        have b10 : (R == 10) = false := by rw [beq_eq_false_iff_ne]; exact h10
        have b34 : (R == 34) = false := by rw [beq_eq_false_iff_ne]; exact h34
        have b92 : (R == 92) = false := by rw [beq_eq_false_iff_ne]; exact h92
        have HN := Lib.hid (And.intro h10 (And.intro h34 h92))
        clear h10 h34 h92
        have hB0 := (bt_range s x).1; have hB9 := (bt_range s x).2
        have hx2 := eq_true hx0; have hx3 := eq_true hlt
        have hI1 : ∀ W, (Instr.index 9 (.string s) (.int .i64 x)).run Tryd.prog W = .ok (.int .u8 (bt s x)) W := fun W => by rw [run_index_string W 9 s .i64 x Tryd.underlying9, dif_pos ⟨hx0, hlt⟩, bt_at]
        have hH : ∀ (j : Int) (W : World), 0 ≤ j → j < 16 → (Instr.index 9 (.string ⟨#[48, 49, 50, 51, 52, 53, 54, 55, 56, 57, 97, 98, 99, 100, 101, 102]⟩) (.int .u8 j)).run Tryd.prog W = .ok (.int .u8 (bt hexS j)) W := fun j W h0 h1 => by rw [run_index_string W 9 _ .u8 j Tryd.underlying9, dif_pos ⟨h0, by show j < (16 : Int); exact h1⟩, bt_at]; rfl
        obtain ⟨B, hBB⟩ : ∃ B, bt s x = B := ⟨_, rfl⟩
        rw [hBB] at hB0 hB9
        simp only [hBB] at hI1
        have HBB := Lib.hid hBB
        clear hBB
        have hI2 := fun W => hH (B / 16) W (by omega) (by omega)
        have hI3 := fun W => hH (B % 16) W (by omega) (by omega)
        have hq16 : IntKind.u8.wrap (B.tdiv 16) = B / 16 := IntWalk.u8_quo B 16 (by omega)
        have hm16 : B.tmod 16 = B % 16 := IntWalk.rem_in B 16 hB0
        clear hH
        obtain ⟨H1, hH1⟩ : ∃ H, bt hexS (B / 16) = H := ⟨_, rfl⟩
        obtain ⟨H2, hH2⟩ : ∃ H, bt hexS (B % 16) = H := ⟨_, rfl⟩
        simp only [hH1] at hI2
        simp only [hH2] at hI3
        have HH1 := Lib.hid hH1; have HH2 := Lib.hid hH2
        clear hH1 hH2
        by_cases h32 : R < 32
        · have d32 : decide (R < 32) = true := decide_eq_true h32
          go_wp2_with (go_at_call 20; refine (cR _).mono ?_; rintro e w2 ⟨rfl, hb⟩)
          refine start_ (n := 14) (S := fun w' => True) (ds := []) #[false, false, false, false, false, false, false, false, false, false, false, false, false, false] (by kernel_rfl) rfl rfl trivial (fun hHeld => ?_)
          refine pure_ (i := 0) (N := some 60) (v := ?_) (a' := ?_) #[true, false, false, false, false, false, false, false, false, false, false, false, false, false] rfl rfl (by kernel_rfl) (fun _ _ _ h => h) (Or.inl ⟨by rfl, ?_⟩) ?_ ?_
          rotate_left
          · intro w'
            go_simp
            with_reducible rfl
          rotate_left
          · simp only [Act.put, List.setIfInBounds_toArray, List.set_cons_zero, List.set_cons_succ, i64_w, i32_w]
            rfl
          refine pure_ (i := 1) (N := some 61) (v := ?_) (a' := ?_) #[true, true, false, false, false, false, false, false, false, false, false, false, false, false] rfl rfl (by kernel_rfl) (fun _ _ _ h => h) (Or.inl ⟨by rfl, ?_⟩) ?_ ?_
          rotate_left
          · intro w'
            go_simp
            with_reducible rfl
          rotate_left
          · simp only [Act.put, List.setIfInBounds_toArray, List.set_cons_zero, List.set_cons_succ, i64_w, i32_w]
            rfl
          refine pure_ (i := 2) (N := some 62) (v := ?_) (a' := ?_) #[true, true, true, false, false, false, false, false, false, false, false, false, false, false] rfl rfl (by kernel_rfl) (fun _ _ _ h => h) (Or.inl ⟨by rfl, ?_⟩) ?_ ?_
          rotate_left
          · intro w'
            go_simp
            with_reducible rfl
          rotate_left
          · simp only [Act.put, List.setIfInBounds_toArray, List.set_cons_zero, List.set_cons_succ, i64_w, i32_w]
            rfl
          refine pure_ (i := 6) (N := some 66) (v := ?_) (a' := ?_) #[true, true, true, false, false, false, true, false, false, false, false, false, false, false] rfl rfl (by kernel_rfl) (fun _ _ _ h => h) (Or.inl ⟨by rfl, ?_⟩) ?_ ?_
          rotate_left
          · intro w'
            go_simp
            with_reducible rfl
          rotate_left
          · simp only [Act.put, List.setIfInBounds_toArray, List.set_cons_zero, List.set_cons_succ, i64_w, i32_w]
            rfl
          refine pure_ (i := 7) (N := some 67) (v := ?_) (a' := ?_) #[true, true, true, false, false, false, true, true, false, false, false, false, false, false] rfl rfl (by kernel_rfl) (fun _ _ _ h => h) (Or.inl ⟨by rfl, ?_⟩) ?_ ?_
          rotate_left
          · intro w'
            go_simp
            with_reducible rfl
          rotate_left
          · simp only [Act.put, List.setIfInBounds_toArray, List.set_cons_zero, List.set_cons_succ, i64_w, i32_w]
            rfl
          refine take_ (i := 3) (N := some 63) (v := ?_) (a' := ?_) #[true, true, true, true, false, false, true, true, false, false, false, false, false, false] rfl rfl (by kernel_rfl) (fun _ _ _ h => h) (Or.inl ⟨by rfl, ?_⟩) hHeld ?_ ?_
          rotate_left
          · intro w' _
            go_simp
            with_reducible rfl
          rotate_left
          · simp only [Act.put, List.setIfInBounds_toArray, List.set_cons_zero, List.set_cons_succ, i64_w, i32_w]
            rfl
          refine pure_ (i := 4) (N := some 64) (v := ?_) (a' := ?_) #[true, true, true, true, true, false, true, true, false, false, false, false, false, false] rfl rfl (by kernel_rfl) (fun _ _ _ h => h) (Or.inl ⟨by rfl, ?_⟩) ?_ ?_
          rotate_left
          · intro w'
            go_simp
            with_reducible rfl
          rotate_left
          · simp only [Act.put, List.setIfInBounds_toArray, List.set_cons_zero, List.set_cons_succ, i64_w, i32_w]
            rfl
          refine take_ (i := 5) (N := some 65) (v := ?_) (a' := ?_) #[true, true, true, true, true, true, true, true, false, false, false, false, false, false] rfl rfl (by kernel_rfl) (fun _ _ _ h => h) (Or.inl ⟨by rfl, ?_⟩) hHeld ?_ ?_
          rotate_left
          · intro w' _
            go_simp
            with_reducible rfl
          rotate_left
          · simp only [Act.put, List.setIfInBounds_toArray, List.set_cons_zero, List.set_cons_succ, i64_w, i32_w]
            rfl
          refine take_ (i := 8) (N := some 68) (v := ?_) (a' := ?_) #[true, true, true, true, true, true, true, true, true, false, false, false, false, false] rfl rfl (by kernel_rfl) (fun _ _ _ h => h) (Or.inl ⟨by rfl, ?_⟩) hHeld ?_ ?_
          rotate_left
          · intro w' _
            go_simp
            with_reducible rfl
          rotate_left
          · simp only [Act.put, List.setIfInBounds_toArray, List.set_cons_zero, List.set_cons_succ, i64_w, i32_w]
            rfl
          refine pure_ (i := 9) (N := some 69) (v := ?_) (a' := ?_) #[true, true, true, true, true, true, true, true, true, true, false, false, false, false] rfl rfl (by kernel_rfl) (fun _ _ _ h => h) (Or.inl ⟨by rfl, ?_⟩) ?_ ?_
          rotate_left
          · intro w'
            go_simp
            with_reducible rfl
          rotate_left
          · simp only [Act.put, List.setIfInBounds_toArray, List.set_cons_zero, List.set_cons_succ, i64_w, i32_w]
            rfl
          refine take_ (i := 10) (N := some 70) (v := ?_) (a' := ?_) #[true, true, true, true, true, true, true, true, true, true, true, false, false, false] rfl rfl (by kernel_rfl) (fun _ _ _ h => h) (Or.inl ⟨by rfl, ?_⟩) hHeld ?_ ?_
          rotate_left
          · intro w' _
            go_simp
            with_reducible rfl
          rotate_left
          · simp only [Act.put, List.setIfInBounds_toArray, List.set_cons_zero, List.set_cons_succ, i64_w, i32_w]
            rfl
          refine one_ (i := 11) (N := some 71) #[true, true, true, true, true, true, true, true, true, true, true, true, false, false] rfl rfl (by kernel_rfl) (by decide) (fun K hK => ?_)
          refine value_ (w1 := ?_) (v := ?_) (by rfl) rfl ?_ ?_
          rotate_left 2
          · go_simp
            constructor
            · rfl
            · rfl
          refine hK.out _ _ trivial (fun hHeld => ?_)
          clear hK K
          refine norm_ (a' := ?_) ?_ ?_
          rotate_left
          · show Act.put _ (some 71) _ = _
            simp only [Act.put, List.setIfInBounds_toArray, List.set_cons_zero, List.set_cons_succ, i64_w, i32_w]
            rfl
          refine one_ (i := 12) (N := some 72) #[true, true, true, true, true, true, true, true, true, true, true, true, true, false] rfl rfl (by kernel_rfl) (by decide) (fun K hK => ?_)
          refine Kd.R_append_rows_step (Kd.int .u8) (Rr := fun x cs => cs = [.int .u8 x]) (w0 := w) w.heap.size (by rfl) (.tmp 60) (.tmp 71) 32 5 (.int .u8 0) 1 rfl Tryd.underlying32 info5 rfl (by decide) (by decide) u3 xs [92, 120, H1, H2] _ _ _ (fun _ => True) (fun _ => False) rfl rfl (Kd.R_of_own (show OB _ _ _ _ from OB.alloc (OB.drew ((HO.out.below hb))) _) (fun _ _ => trivial)) (lit_C [92, 120, H1, H2] w2.drew (by simp)) (fun _ _ h => h) (fun _ h => h.elim) (fun _ _ => trivial) (below_alloc (below_drew ((below_step HB.out hb))) _) (Nat.le_trans ((below_step HB.out hb)).size (by simp)) (by simp; omega) ?_
          intro v1 w1 hR1 hB1 hg1 hg2
          clear hg1 hg2
          refine hK.out _ _ trivial (fun hHeld => ?_)
          clear hK K
          refine norm_ (a' := ?_) ?_ ?_
          rotate_left
          · show Act.put _ (some 72) _ = _
            simp only [Act.put, List.setIfInBounds_toArray, List.set_cons_zero, List.set_cons_succ, i64_w, i32_w]
            rfl
          refine pure_ (i := 13) (N := some 3) (v := ?_) (a' := ?_) #[true, true, true, true, true, true, true, true, true, true, true, true, true, true] rfl rfl (by kernel_rfl) (fun _ _ _ h => h) (Or.inl ⟨by rfl, ?_⟩) ?_ ?_
          rotate_left
          · intro w'
            go_simp
            with_reducible rfl
          rotate_left
          · simp only [Act.put, List.setIfInBounds_toArray, List.set_cons_zero, List.set_cons_succ, i64_w, i32_w]
            rfl
          refine done_ (by kernel_rfl) ?_
          have hO1 : OB w1 w.heap.size v1 (xs ++ [92, 120, H1, H2]) := Kd.own_of_R hR1
          clear hR1
          have HO3 := Lib.hid (show OB w1 w.heap.size v1 (xs ++ [92, 120, H1, H2]) from hO1); have HB3 := Lib.hid hB1
          clear hO1 hB1
          go_wp2_with fail
          go_roundw
          case measure => simp [intOf]; omega
          case rel => exact ⟨k + 1, x + K, xs ++ [92, 120, H1, H2], by rw [HGI.out, HK.out, HQ.out, HR.out, if_neg HN.out.1, if_neg (by intro h; rcases h with h | h; exact HN.out.2.1 h; exact HN.out.2.2 h), if_pos (.inl h32), HBB.out, HH1.out, HH2.out], rfl, HO3.out, HB3.out⟩
        by_cases h127 : R = 127
        · subst h127
          go_wp2_with (go_at_call 20; refine (cR _).mono ?_; rintro e w2 ⟨rfl, hb⟩)
          refine start_ (n := 14) (S := fun w' => True) (ds := []) #[false, false, false, false, false, false, false, false, false, false, false, false, false, false] (by kernel_rfl) rfl rfl trivial (fun hHeld => ?_)
          refine pure_ (i := 0) (N := some 60) (v := ?_) (a' := ?_) #[true, false, false, false, false, false, false, false, false, false, false, false, false, false] rfl rfl (by kernel_rfl) (fun _ _ _ h => h) (Or.inl ⟨by rfl, ?_⟩) ?_ ?_
          rotate_left
          · intro w'
            go_simp
            with_reducible rfl
          rotate_left
          · simp only [Act.put, List.setIfInBounds_toArray, List.set_cons_zero, List.set_cons_succ, i64_w, i32_w]
            rfl
          refine pure_ (i := 1) (N := some 61) (v := ?_) (a' := ?_) #[true, true, false, false, false, false, false, false, false, false, false, false, false, false] rfl rfl (by kernel_rfl) (fun _ _ _ h => h) (Or.inl ⟨by rfl, ?_⟩) ?_ ?_
          rotate_left
          · intro w'
            go_simp
            with_reducible rfl
          rotate_left
          · simp only [Act.put, List.setIfInBounds_toArray, List.set_cons_zero, List.set_cons_succ, i64_w, i32_w]
            rfl
          refine pure_ (i := 2) (N := some 62) (v := ?_) (a' := ?_) #[true, true, true, false, false, false, false, false, false, false, false, false, false, false] rfl rfl (by kernel_rfl) (fun _ _ _ h => h) (Or.inl ⟨by rfl, ?_⟩) ?_ ?_
          rotate_left
          · intro w'
            go_simp
            with_reducible rfl
          rotate_left
          · simp only [Act.put, List.setIfInBounds_toArray, List.set_cons_zero, List.set_cons_succ, i64_w, i32_w]
            rfl
          refine pure_ (i := 6) (N := some 66) (v := ?_) (a' := ?_) #[true, true, true, false, false, false, true, false, false, false, false, false, false, false] rfl rfl (by kernel_rfl) (fun _ _ _ h => h) (Or.inl ⟨by rfl, ?_⟩) ?_ ?_
          rotate_left
          · intro w'
            go_simp
            with_reducible rfl
          rotate_left
          · simp only [Act.put, List.setIfInBounds_toArray, List.set_cons_zero, List.set_cons_succ, i64_w, i32_w]
            rfl
          refine pure_ (i := 7) (N := some 67) (v := ?_) (a' := ?_) #[true, true, true, false, false, false, true, true, false, false, false, false, false, false] rfl rfl (by kernel_rfl) (fun _ _ _ h => h) (Or.inl ⟨by rfl, ?_⟩) ?_ ?_
          rotate_left
          · intro w'
            go_simp
            with_reducible rfl
          rotate_left
          · simp only [Act.put, List.setIfInBounds_toArray, List.set_cons_zero, List.set_cons_succ, i64_w, i32_w]
            rfl
          refine take_ (i := 3) (N := some 63) (v := ?_) (a' := ?_) #[true, true, true, true, false, false, true, true, false, false, false, false, false, false] rfl rfl (by kernel_rfl) (fun _ _ _ h => h) (Or.inl ⟨by rfl, ?_⟩) hHeld ?_ ?_
          rotate_left
          · intro w' _
            go_simp
            with_reducible rfl
          rotate_left
          · simp only [Act.put, List.setIfInBounds_toArray, List.set_cons_zero, List.set_cons_succ, i64_w, i32_w]
            rfl
          refine pure_ (i := 4) (N := some 64) (v := ?_) (a' := ?_) #[true, true, true, true, true, false, true, true, false, false, false, false, false, false] rfl rfl (by kernel_rfl) (fun _ _ _ h => h) (Or.inl ⟨by rfl, ?_⟩) ?_ ?_
          rotate_left
          · intro w'
            go_simp
            with_reducible rfl
          rotate_left
          · simp only [Act.put, List.setIfInBounds_toArray, List.set_cons_zero, List.set_cons_succ, i64_w, i32_w]
            rfl
          refine take_ (i := 5) (N := some 65) (v := ?_) (a' := ?_) #[true, true, true, true, true, true, true, true, false, false, false, false, false, false] rfl rfl (by kernel_rfl) (fun _ _ _ h => h) (Or.inl ⟨by rfl, ?_⟩) hHeld ?_ ?_
          rotate_left
          · intro w' _
            go_simp
            with_reducible rfl
          rotate_left
          · simp only [Act.put, List.setIfInBounds_toArray, List.set_cons_zero, List.set_cons_succ, i64_w, i32_w]
            rfl
          refine take_ (i := 8) (N := some 68) (v := ?_) (a' := ?_) #[true, true, true, true, true, true, true, true, true, false, false, false, false, false] rfl rfl (by kernel_rfl) (fun _ _ _ h => h) (Or.inl ⟨by rfl, ?_⟩) hHeld ?_ ?_
          rotate_left
          · intro w' _
            go_simp
            with_reducible rfl
          rotate_left
          · simp only [Act.put, List.setIfInBounds_toArray, List.set_cons_zero, List.set_cons_succ, i64_w, i32_w]
            rfl
          refine pure_ (i := 9) (N := some 69) (v := ?_) (a' := ?_) #[true, true, true, true, true, true, true, true, true, true, false, false, false, false] rfl rfl (by kernel_rfl) (fun _ _ _ h => h) (Or.inl ⟨by rfl, ?_⟩) ?_ ?_
          rotate_left
          · intro w'
            go_simp
            with_reducible rfl
          rotate_left
          · simp only [Act.put, List.setIfInBounds_toArray, List.set_cons_zero, List.set_cons_succ, i64_w, i32_w]
            rfl
          refine take_ (i := 10) (N := some 70) (v := ?_) (a' := ?_) #[true, true, true, true, true, true, true, true, true, true, true, false, false, false] rfl rfl (by kernel_rfl) (fun _ _ _ h => h) (Or.inl ⟨by rfl, ?_⟩) hHeld ?_ ?_
          rotate_left
          · intro w' _
            go_simp
            with_reducible rfl
          rotate_left
          · simp only [Act.put, List.setIfInBounds_toArray, List.set_cons_zero, List.set_cons_succ, i64_w, i32_w]
            rfl
          refine one_ (i := 11) (N := some 71) #[true, true, true, true, true, true, true, true, true, true, true, true, false, false] rfl rfl (by kernel_rfl) (by decide) (fun K hK => ?_)
          refine value_ (w1 := ?_) (v := ?_) (by rfl) rfl ?_ ?_
          rotate_left 2
          · go_simp
            constructor
            · rfl
            · rfl
          refine hK.out _ _ trivial (fun hHeld => ?_)
          clear hK K
          refine norm_ (a' := ?_) ?_ ?_
          rotate_left
          · show Act.put _ (some 71) _ = _
            simp only [Act.put, List.setIfInBounds_toArray, List.set_cons_zero, List.set_cons_succ, i64_w, i32_w]
            rfl
          refine one_ (i := 12) (N := some 72) #[true, true, true, true, true, true, true, true, true, true, true, true, true, false] rfl rfl (by kernel_rfl) (by decide) (fun K hK => ?_)
          refine Kd.R_append_rows_step (Kd.int .u8) (Rr := fun x cs => cs = [.int .u8 x]) (w0 := w) w.heap.size (by rfl) (.tmp 60) (.tmp 71) 32 5 (.int .u8 0) 1 rfl Tryd.underlying32 info5 rfl (by decide) (by decide) u3 xs [92, 120, H1, H2] _ _ _ (fun _ => True) (fun _ => False) rfl rfl (Kd.R_of_own (show OB _ _ _ _ from OB.alloc (OB.drew ((HO.out.below hb))) _) (fun _ _ => trivial)) (lit_C [92, 120, H1, H2] w2.drew (by simp)) (fun _ _ h => h) (fun _ h => h.elim) (fun _ _ => trivial) (below_alloc (below_drew ((below_step HB.out hb))) _) (Nat.le_trans ((below_step HB.out hb)).size (by simp)) (by simp; omega) ?_
          intro v1 w1 hR1 hB1 hg1 hg2
          clear hg1 hg2
          refine hK.out _ _ trivial (fun hHeld => ?_)
          clear hK K
          refine norm_ (a' := ?_) ?_ ?_
          rotate_left
          · show Act.put _ (some 72) _ = _
            simp only [Act.put, List.setIfInBounds_toArray, List.set_cons_zero, List.set_cons_succ, i64_w, i32_w]
            rfl
          refine pure_ (i := 13) (N := some 3) (v := ?_) (a' := ?_) #[true, true, true, true, true, true, true, true, true, true, true, true, true, true] rfl rfl (by kernel_rfl) (fun _ _ _ h => h) (Or.inl ⟨by rfl, ?_⟩) ?_ ?_
          rotate_left
          · intro w'
            go_simp
            with_reducible rfl
          rotate_left
          · simp only [Act.put, List.setIfInBounds_toArray, List.set_cons_zero, List.set_cons_succ, i64_w, i32_w]
            rfl
          refine done_ (by kernel_rfl) ?_
          have hO1 : OB w1 w.heap.size v1 (xs ++ [92, 120, H1, H2]) := Kd.own_of_R hR1
          clear hR1
          have HO3 := Lib.hid (show OB w1 w.heap.size v1 (xs ++ [92, 120, H1, H2]) from hO1); have HB3 := Lib.hid hB1
          clear hO1 hB1
          go_wp2_with fail
          go_roundw
          case measure => simp [intOf]; omega
          case rel => exact ⟨k + 1, x + K, xs ++ [92, 120, H1, H2], by rw [HGI.out, HK.out, HQ.out, HR.out, if_neg HN.out.1, if_neg (by intro h; rcases h with h | h; exact HN.out.2.1 h; exact HN.out.2.2 h), if_pos (.inr (.inl rfl)), HBB.out, HH1.out, HH2.out], rfl, HO3.out, HB3.out⟩
        have b127 : (R == 127) = false := by rw [beq_eq_false_iff_ne]; exact h127
        have H127 := Lib.hid h127
        clear h127
        rcases hw : wrongB s x with _ | _
        · rw [hw] at cW
          have kb := fun W => print_bytes (P := Tryd.prog) 9 32 5 Tryd.underlying9 Tryd.underlying32 Tryd.underlying5 (sub s x) W
          have hK9 : x + K ≤ 9223372036854775807 := by omega
          have hk3 : x ≤ x + K := by omega
          have hk4 : 0 ≤ K := by omega
          have hk5 : 0 ≤ x + K := by omega
          go_wp2_with (first | ((with_reducible refine gate_builtin (b := .append) (xs := #[.tmp 21, .tmp 28]) rfl ?_); at_builtin; refine print_append_row (w0 := w) w.heap.size rfl (.tmp 21) (.tmp 28) 32 5 .u8 1 rfl Tryd.underlying32 info5 (by decide) u3 xs (bytesOf (sub s x)) _ (sub s x).size _ rfl rfl (show OB _ _ _ _ from ((HO.out.below hb).below hb3).below (bytes_below (Below.refl _ _) (Nat.le_refl _) 5 (sub s x))) (bytes_reads w3 5 (sub s x) (by omega)) (bytes_below (below_step (below_step HB.out hb) hb3) (below_step (below_step HB.out hb) hb3).size 5 (sub s x)) (Nat.le_trans (below_step (below_step HB.out hb) hb3).size (by rw [Lib.bytesWorld_size]; omega)) (by omega) ?_; intro v1 w1 hO1 hB1 hg1 hg2; clear hg1 hg2) | (go_at_call 20; refine (cR _).mono ?_; rintro e w2 ⟨rfl, hb⟩) | (go_at_call 23; refine (cW _).mono ?_; rintro e w3 ⟨rfl, hb3⟩))
          have HO3 := Lib.hid (show OB w1 w.heap.size v1 (xs ++ bytesOf (sub s x)) from hO1); have HB3 := Lib.hid hB1
          clear hO1 hB1
          go_wp2_with fail
          go_roundw
          case measure => simp [intOf]; omega
          case rel => exact ⟨k + 1, x + K, xs ++ bytesOf (sub s x), by rw [HGI.out, HK.out, HQ.out, HR.out, if_neg HN.out.1, if_neg (by intro h; rcases h with h | h; exact HN.out.2.1 h; exact HN.out.2.2 h), if_neg (by intro h; rcases h with h | h | h; exact absurd h (by omega); exact H127.out h; rw [hw] at h; cases h)], rfl, HO3.out, HB3.out⟩
        · rw [hw] at cW
          go_wp2_with (first | (go_at_call 20; refine (cR _).mono ?_; rintro e w2 ⟨rfl, hb⟩) | (go_at_call 23; refine (cW _).mono ?_; rintro e w3 ⟨rfl, hb3⟩))
          refine start_ (n := 14) (S := fun w' => True) (ds := []) #[false, false, false, false, false, false, false, false, false, false, false, false, false, false] (by kernel_rfl) rfl rfl trivial (fun hHeld => ?_)
          refine pure_ (i := 0) (N := some 60) (v := ?_) (a' := ?_) #[true, false, false, false, false, false, false, false, false, false, false, false, false, false] rfl rfl (by kernel_rfl) (fun _ _ _ h => h) (Or.inl ⟨by rfl, ?_⟩) ?_ ?_
          rotate_left
          · intro w'
            go_simp
            with_reducible rfl
          rotate_left
          · simp only [Act.put, List.setIfInBounds_toArray, List.set_cons_zero, List.set_cons_succ, i64_w, i32_w]
            rfl
          refine pure_ (i := 1) (N := some 61) (v := ?_) (a' := ?_) #[true, true, false, false, false, false, false, false, false, false, false, false, false, false] rfl rfl (by kernel_rfl) (fun _ _ _ h => h) (Or.inl ⟨by rfl, ?_⟩) ?_ ?_
          rotate_left
          · intro w'
            go_simp
            with_reducible rfl
          rotate_left
          · simp only [Act.put, List.setIfInBounds_toArray, List.set_cons_zero, List.set_cons_succ, i64_w, i32_w]
            rfl
          refine pure_ (i := 2) (N := some 62) (v := ?_) (a' := ?_) #[true, true, true, false, false, false, false, false, false, false, false, false, false, false] rfl rfl (by kernel_rfl) (fun _ _ _ h => h) (Or.inl ⟨by rfl, ?_⟩) ?_ ?_
          rotate_left
          · intro w'
            go_simp
            with_reducible rfl
          rotate_left
          · simp only [Act.put, List.setIfInBounds_toArray, List.set_cons_zero, List.set_cons_succ, i64_w, i32_w]
            rfl
          refine pure_ (i := 6) (N := some 66) (v := ?_) (a' := ?_) #[true, true, true, false, false, false, true, false, false, false, false, false, false, false] rfl rfl (by kernel_rfl) (fun _ _ _ h => h) (Or.inl ⟨by rfl, ?_⟩) ?_ ?_
          rotate_left
          · intro w'
            go_simp
            with_reducible rfl
          rotate_left
          · simp only [Act.put, List.setIfInBounds_toArray, List.set_cons_zero, List.set_cons_succ, i64_w, i32_w]
            rfl
          refine pure_ (i := 7) (N := some 67) (v := ?_) (a' := ?_) #[true, true, true, false, false, false, true, true, false, false, false, false, false, false] rfl rfl (by kernel_rfl) (fun _ _ _ h => h) (Or.inl ⟨by rfl, ?_⟩) ?_ ?_
          rotate_left
          · intro w'
            go_simp
            with_reducible rfl
          rotate_left
          · simp only [Act.put, List.setIfInBounds_toArray, List.set_cons_zero, List.set_cons_succ, i64_w, i32_w]
            rfl
          refine take_ (i := 3) (N := some 63) (v := ?_) (a' := ?_) #[true, true, true, true, false, false, true, true, false, false, false, false, false, false] rfl rfl (by kernel_rfl) (fun _ _ _ h => h) (Or.inl ⟨by rfl, ?_⟩) hHeld ?_ ?_
          rotate_left
          · intro w' _
            go_simp
            with_reducible rfl
          rotate_left
          · simp only [Act.put, List.setIfInBounds_toArray, List.set_cons_zero, List.set_cons_succ, i64_w, i32_w]
            rfl
          refine pure_ (i := 4) (N := some 64) (v := ?_) (a' := ?_) #[true, true, true, true, true, false, true, true, false, false, false, false, false, false] rfl rfl (by kernel_rfl) (fun _ _ _ h => h) (Or.inl ⟨by rfl, ?_⟩) ?_ ?_
          rotate_left
          · intro w'
            go_simp
            with_reducible rfl
          rotate_left
          · simp only [Act.put, List.setIfInBounds_toArray, List.set_cons_zero, List.set_cons_succ, i64_w, i32_w]
            rfl
          refine take_ (i := 5) (N := some 65) (v := ?_) (a' := ?_) #[true, true, true, true, true, true, true, true, false, false, false, false, false, false] rfl rfl (by kernel_rfl) (fun _ _ _ h => h) (Or.inl ⟨by rfl, ?_⟩) hHeld ?_ ?_
          rotate_left
          · intro w' _
            go_simp
            with_reducible rfl
          rotate_left
          · simp only [Act.put, List.setIfInBounds_toArray, List.set_cons_zero, List.set_cons_succ, i64_w, i32_w]
            rfl
          refine take_ (i := 8) (N := some 68) (v := ?_) (a' := ?_) #[true, true, true, true, true, true, true, true, true, false, false, false, false, false] rfl rfl (by kernel_rfl) (fun _ _ _ h => h) (Or.inl ⟨by rfl, ?_⟩) hHeld ?_ ?_
          rotate_left
          · intro w' _
            go_simp
            with_reducible rfl
          rotate_left
          · simp only [Act.put, List.setIfInBounds_toArray, List.set_cons_zero, List.set_cons_succ, i64_w, i32_w]
            rfl
          refine pure_ (i := 9) (N := some 69) (v := ?_) (a' := ?_) #[true, true, true, true, true, true, true, true, true, true, false, false, false, false] rfl rfl (by kernel_rfl) (fun _ _ _ h => h) (Or.inl ⟨by rfl, ?_⟩) ?_ ?_
          rotate_left
          · intro w'
            go_simp
            with_reducible rfl
          rotate_left
          · simp only [Act.put, List.setIfInBounds_toArray, List.set_cons_zero, List.set_cons_succ, i64_w, i32_w]
            rfl
          refine take_ (i := 10) (N := some 70) (v := ?_) (a' := ?_) #[true, true, true, true, true, true, true, true, true, true, true, false, false, false] rfl rfl (by kernel_rfl) (fun _ _ _ h => h) (Or.inl ⟨by rfl, ?_⟩) hHeld ?_ ?_
          rotate_left
          · intro w' _
            go_simp
            with_reducible rfl
          rotate_left
          · simp only [Act.put, List.setIfInBounds_toArray, List.set_cons_zero, List.set_cons_succ, i64_w, i32_w]
            rfl
          refine one_ (i := 11) (N := some 71) #[true, true, true, true, true, true, true, true, true, true, true, true, false, false] rfl rfl (by kernel_rfl) (by decide) (fun K hK => ?_)
          refine value_ (w1 := ?_) (v := ?_) (by rfl) rfl ?_ ?_
          rotate_left 2
          · go_simp
            constructor
            · rfl
            · rfl
          refine hK.out _ _ trivial (fun hHeld => ?_)
          clear hK K
          refine norm_ (a' := ?_) ?_ ?_
          rotate_left
          · show Act.put _ (some 71) _ = _
            simp only [Act.put, List.setIfInBounds_toArray, List.set_cons_zero, List.set_cons_succ, i64_w, i32_w]
            rfl
          refine one_ (i := 12) (N := some 72) #[true, true, true, true, true, true, true, true, true, true, true, true, true, false] rfl rfl (by kernel_rfl) (by decide) (fun K hK => ?_)
          refine Kd.R_append_rows_step (Kd.int .u8) (Rr := fun x cs => cs = [.int .u8 x]) (w0 := w) w.heap.size (by rfl) (.tmp 60) (.tmp 71) 32 5 (.int .u8 0) 1 rfl Tryd.underlying32 info5 rfl (by decide) (by decide) u3 xs [92, 120, H1, H2] _ _ _ (fun _ => True) (fun _ => False) rfl rfl (Kd.R_of_own (show OB _ _ _ _ from OB.alloc (OB.drew (((HO.out.below hb).below hb3))) _) (fun _ _ => trivial)) (lit_C [92, 120, H1, H2] w3.drew (by simp)) (fun _ _ h => h) (fun _ h => h.elim) (fun _ _ => trivial) (below_alloc (below_drew ((below_step (below_step HB.out hb) hb3))) _) (Nat.le_trans ((below_step (below_step HB.out hb) hb3)).size (by simp)) (by simp; omega) ?_
          intro v1 w1 hR1 hB1 hg1 hg2
          clear hg1 hg2
          refine hK.out _ _ trivial (fun hHeld => ?_)
          clear hK K
          refine norm_ (a' := ?_) ?_ ?_
          rotate_left
          · show Act.put _ (some 72) _ = _
            simp only [Act.put, List.setIfInBounds_toArray, List.set_cons_zero, List.set_cons_succ, i64_w, i32_w]
            rfl
          refine pure_ (i := 13) (N := some 3) (v := ?_) (a' := ?_) #[true, true, true, true, true, true, true, true, true, true, true, true, true, true] rfl rfl (by kernel_rfl) (fun _ _ _ h => h) (Or.inl ⟨by rfl, ?_⟩) ?_ ?_
          rotate_left
          · intro w'
            go_simp
            with_reducible rfl
          rotate_left
          · simp only [Act.put, List.setIfInBounds_toArray, List.set_cons_zero, List.set_cons_succ, i64_w, i32_w]
            rfl
          refine done_ (by kernel_rfl) ?_
          have hO1 : OB w1 w.heap.size v1 (xs ++ [92, 120, H1, H2]) := Kd.own_of_R hR1
          clear hR1
          have HO3 := Lib.hid (show OB w1 w.heap.size v1 (xs ++ [92, 120, H1, H2]) from hO1); have HB3 := Lib.hid hB1
          clear hO1 hB1
          go_wp2_with fail
          go_roundw
          case measure => simp [intOf]; omega
          case rel => exact ⟨k + 1, x + K, xs ++ [92, 120, H1, H2], by rw [HGI.out, HK.out, HQ.out, HR.out, if_neg HN.out.1, if_neg (by intro h; rcases h with h | h; exact HN.out.2.1 h; exact HN.out.2.2 h), if_pos (.inr (.inr hw)), HBB.out, HH1.out, HH2.out], rfl, HO3.out, HB3.out⟩
      · have hE := go_end (a0 := [34]) HP.out (k := k) (by rw [HG.out]; exact hlt)
        rw [HG.out] at hE
        have HE := Lib.hid (show xs = all s (qp s) [34] from hE)
        clear hE
        go_wp2_with ((with_reducible refine gate_builtin (b := .append) (xs := #[.tmp 76, .tmp 77]) rfl ?_); at_builtin; refine print_append_row (w0 := w) w.heap.size rfl (.tmp 76) (.tmp 77) 32 5 .u8 1 rfl Tryd.underlying32 info5 (by decide) u3 xs [34] _ 1 1 rfl rfl (HO.out.alloc _) (by simpa [nums] using lit_reads wr [34] (by simp)) (below_alloc HB.out _) (below_alloc HB.out _).size (by simp; omega) ?_; intro v1 w1 hO1 hB1 hg1 hg2; clear hg1 hg2; have hcs := own_string (P := Tryd.prog) Tryd.underlying32 Tryd.underlying5 Tryd.underlying9 hO1)
        have hq : quoteS s = strOfNums (xs ++ [34]) := by unfold quoteS quoteL; rw [HL.out, HE.out]; rfl
        have HQ9 := Lib.hid hq
        clear hq hO1
        have HB3 := Lib.hid hB1
        clear hB1
        go_ret
        exact ⟨by rw [HQ9.out]; rfl, HB3.out⟩
  · have hl : 65536 < (s.size : Int) := by simpa [longB] using hL
    have hq : quoteS s = ⟨#[]⟩ := by unfold quoteS; rw [hL]; rfl
    rw [hq]
    clear hq hL
    go_enter Tryd.func10, Tryd.ntmps10
    go_wp2_with fail
    go_ret
    exact ⟨rfl, Below.refl _ _⟩
set_option maxHeartbeats 4000000 in
set_option maxRecDepth 100000 in
theorem implQuoteC (s : ByteArray) (w : World) (hs : s.size ≤ 1048576) (hT : Tabs w) (h2 : 2 ≤ w.heap.size) :
    Calls Tryd.prog 11 #[.string s] w fun e w' => e = .returned (.string (quoteS s)) ∧ Below w.heap.size w w' := by
  have HTB := Lib.hid (fun W (hb : Below w.heap.size w W) => hT.below h2 hb)
  clear hT
  have cT := fun W b hc => tooLongC s b W hc
  have cR := fun W x (h0 : 0 ≤ x) (h : x < (s.size : Int)) (hb : Below w.heap.size w W) => runeAtC s x W h0 h (Nat.le_trans hs (by decide)) (HTB.out W hb)
  have cW := fun W x (h0 : 0 ≤ x) (h : x < (s.size : Int)) (hb : Below w.heap.size w W) => wrongAtC s x W h0 h (Nat.le_trans hs (by decide)) (HTB.out W hb)
  have CR := Lib.hid cR; have CW := Lib.hid cW; clear cR cW
  rcases hL : longB s with _ | _
  · have hl : ¬ 65536 < (s.size : Int) := by simpa [longB] using hL
    rw [hL] at cT
    have HL := Lib.hid hL
    clear hL
    have HP := Lib.hid (qp_len s)
    go_enter Tryd.func11, Tryd.ntmps11
    go_wp2_with (go_at_call 21; refine (cT _ w.heap.size (by simp)).mono ?_; rintro e w9 ⟨rfl, rfl⟩)
    clear cT
    go_loopw [3, 4] (fun o i wr => ∃ k : Nat, ∃ x : Int, ∃ xs : List Int, go s (qp s) [34] k = (x, xs) ∧ i = .int .i64 x ∧ OB wr w.heap.size o xs ∧ Below w.heap.size w wr) (fun _ i _ => s.size - (intOf i).toNat)
    case atStart => exact ⟨0, 0, [34], rfl, rfl, by simpa [nums] using OB.lit (w.alloc (.cells #[.string s] 9)) w.heap.size [34] (by simp) (by decide), below_alloc (below_alloc (Below.refl _ _) _) _⟩
    case round =>
      obtain ⟨k, x, xs, hG, rfl, hO, hB⟩ := hrel
      have hx := go_range (a0 := [34]) HP.out k
      rw [hG] at hx
      obtain ⟨hx0, hx1, hx2⟩ := hx
      have hxl : (xs.length : Int) ≤ 1 + 4 * x := hx2
      clear hx2
      have HG := Lib.hid hG; have HO := Lib.hid hO; have HB := Lib.hid hB
      clear hG hO hB
      have hbz := HB.out.size
      by_cases hlt : x < (s.size : Int)
      · have hr := rI_range s x hx0 hlt
        have hss := sub_size s x hx0 hlt
        have hqp := Lib.hid (show qp s x = _ from rfl)
        have HGI := Lib.hid (show go s (qp s) [34] (k + 1) = (x + nI s x, xs ++ qp s x) by have h9 := go_in (s := s) (P := qp s) (a0 := [34]) (k := k) (by rw [HG.out]; exact hlt); rw [HG.out] at h9; exact h9)
        have cR := fun W hb => CR.out W x hx0 hlt hb
        have cW := fun W hb => CW.out W x hx0 hlt hb
        have HQ := Lib.hid (show qp s x = if rI s x = 10 then [92, 110] else if rI s x = 34 ∨ rI s x = 92 then [92, rI s x] else if rI s x < 32 ∨ rI s x = 127 ∨ wrongB s x = true then [92, 120, bt hexS (bt s x / 16), bt hexS (bt s x % 16)] else bytesOf (sub s x) from rfl)
        have hsub : s.extract x.toNat (x + nI s x).toNat = sub s x := rfl
        obtain ⟨R, hR⟩ : ∃ R, rI s x = R := ⟨_, rfl⟩
        obtain ⟨K, hK⟩ : ∃ K, nI s x = K := ⟨_, rfl⟩
        rw [hR, hK] at hr
        simp only [hR, hK] at cR hsub
        rw [hK] at hss
        have HR := Lib.hid hR; have HK := Lib.hid hK
        clear hR hK hqp
        obtain ⟨hr0, hr1, hk0, hk1, hk2⟩ := hr
        by_cases h10 : R = 10
        · subst h10
          go_wp2_with (first | ((with_reducible refine gate_builtin (b := .append) (xs := #[.tmp 32, .const (.string ⟨#[92, 110]⟩)]) rfl ?_); at_builtin; refine print_append_str (w0 := w) w.heap.size rfl (.tmp 32) (.const (.string ⟨#[92, 110]⟩)) 32 9 5 rfl Tryd.underlying32 Tryd.underlying9 info5 u3 xs ⟨#[92, 110]⟩ rfl rfl (HO.out.below hb) (below_step HB.out hb) (below_step HB.out hb).size (by show xs.length + 2 ≤ _; omega) ?_; intro v1 w1 hO1 hB1 hg1; clear hg1) | (go_at_call 22; refine (cR _ HB.out).mono ?_; rintro e w2 ⟨rfl, hb⟩))
          have HO3 := Lib.hid (show OB w1 w.heap.size v1 (xs ++ bytesOf ⟨#[92, 110]⟩) from hO1); have HB3 := Lib.hid hB1
          clear hO1 hB1
          go_wp2_with fail
          go_roundw
          case measure => simp [intOf]; omega
          case rel => exact ⟨k + 1, x + K, xs ++ bytesOf ⟨#[92, 110]⟩, by rw [HGI.out, HK.out, HQ.out, HR.out, if_pos rfl]; rfl, rfl, HO3.out, HB3.out⟩
        by_cases h34 : R = 34
        · subst h34
          go_wp2_with (first | ((with_reducible refine gate_builtin (b := .append) (xs := #[.tmp 41, .tmp 44]) rfl ?_); at_builtin; refine print_append_row (w0 := w) w.heap.size rfl (.tmp 41) (.tmp 44) 32 5 .u8 1 rfl Tryd.underlying32 info5 (by decide) u3 xs [92, 34] _ 2 2 rfl rfl ((HO.out.below hb).alloc _) (by simpa [nums] using lit_reads w2 [92, 34] (by simp)) (below_alloc (below_step HB.out hb) _) (below_alloc (below_step HB.out hb) _).size (by simp; omega) ?_; intro v1 w1 hO1 hB1 hg1 hg2; clear hg1 hg2) | (go_at_call 22; refine (cR _ HB.out).mono ?_; rintro e w2 ⟨rfl, hb⟩))
          have HO3 := Lib.hid (show OB w1 w.heap.size v1 (xs ++ [92, 34]) from hO1); have HB3 := Lib.hid hB1
          clear hO1 hB1
          go_wp2_with fail
          go_roundw
          case measure => simp [intOf]; omega
          case rel => exact ⟨k + 1, x + K, xs ++ [92, 34], by rw [HGI.out, HK.out, HQ.out, HR.out, if_neg (by decide), if_pos (.inl rfl)], rfl, HO3.out, HB3.out⟩
        by_cases h92 : R = 92
        · subst h92
          go_wp2_with (first | ((with_reducible refine gate_builtin (b := .append) (xs := #[.tmp 41, .tmp 44]) rfl ?_); at_builtin; refine print_append_row (w0 := w) w.heap.size rfl (.tmp 41) (.tmp 44) 32 5 .u8 1 rfl Tryd.underlying32 info5 (by decide) u3 xs [92, 92] _ 2 2 rfl rfl ((HO.out.below hb).alloc _) (by simpa [nums] using lit_reads w2 [92, 92] (by simp)) (below_alloc (below_step HB.out hb) _) (below_alloc (below_step HB.out hb) _).size (by simp; omega) ?_; intro v1 w1 hO1 hB1 hg1 hg2; clear hg1 hg2) | (go_at_call 22; refine (cR _ HB.out).mono ?_; rintro e w2 ⟨rfl, hb⟩))
          have HO3 := Lib.hid (show OB w1 w.heap.size v1 (xs ++ [92, 92]) from hO1); have HB3 := Lib.hid hB1
          clear hO1 hB1
          go_wp2_with fail
          go_roundw
          case measure => simp [intOf]; omega
          case rel => exact ⟨k + 1, x + K, xs ++ [92, 92], by rw [HGI.out, HK.out, HQ.out, HR.out, if_neg (by decide), if_pos (.inr rfl)], rfl, HO3.out, HB3.out⟩
        have b10 : (R == 10) = false := by rw [beq_eq_false_iff_ne]; exact h10
        have b34 : (R == 34) = false := by rw [beq_eq_false_iff_ne]; exact h34
        have b92 : (R == 92) = false := by rw [beq_eq_false_iff_ne]; exact h92
        have HN := Lib.hid (And.intro h10 (And.intro h34 h92))
        clear h10 h34 h92
        have hB0 := (bt_range s x).1; have hB9 := (bt_range s x).2
        have hx2 := eq_true hx0; have hx3 := eq_true hlt
        have hI1 : ∀ W, (Instr.index 9 (.string s) (.int .i64 x)).run Tryd.prog W = .ok (.int .u8 (bt s x)) W := fun W => by rw [run_index_string W 9 s .i64 x Tryd.underlying9, dif_pos ⟨hx0, hlt⟩, bt_at]
        have hH : ∀ (j : Int) (W : World), 0 ≤ j → j < 16 → (Instr.index 9 (.string ⟨#[48, 49, 50, 51, 52, 53, 54, 55, 56, 57, 97, 98, 99, 100, 101, 102]⟩) (.int .u8 j)).run Tryd.prog W = .ok (.int .u8 (bt hexS j)) W := fun j W h0 h1 => by rw [run_index_string W 9 _ .u8 j Tryd.underlying9, dif_pos ⟨h0, by show j < (16 : Int); exact h1⟩, bt_at]; rfl
        obtain ⟨B, hBB⟩ : ∃ B, bt s x = B := ⟨_, rfl⟩
        rw [hBB] at hB0 hB9
        simp only [hBB] at hI1
        have HBB := Lib.hid hBB
        clear hBB
        have hI2 := fun W => hH (B / 16) W (by omega) (by omega)
        have hb15 : Go.bits .and .u8 B 15 = B % 16 := and15 B hB0 hB9
        have hI3 := fun W => hH (B % 16) W (by omega) (by omega)
        have hb4 : B / 16 % 256 = B / 16 := by omega
        clear hH
        obtain ⟨H1, hH1⟩ : ∃ H, bt hexS (B / 16) = H := ⟨_, rfl⟩
        obtain ⟨H2, hH2⟩ : ∃ H, bt hexS (B % 16) = H := ⟨_, rfl⟩
        simp only [hH1] at hI2
        simp only [hH2] at hI3
        have HH1 := Lib.hid hH1; have HH2 := Lib.hid hH2
        clear hH1 hH2
        by_cases h32 : R < 32
        · have d32 : decide (R < 32) = true := decide_eq_true h32
          go_wp2_with (go_at_call 22; refine (cR _ HB.out).mono ?_; rintro e w2 ⟨rfl, hb⟩)
          refine start_ (n := 14) (S := fun w' => True) (ds := []) #[false, false, false, false, false, false, false, false, false, false, false, false, false, false] (by kernel_rfl) rfl rfl trivial (fun hHeld => ?_)
          refine pure_ (i := 0) (N := some 58) (v := ?_) (a' := ?_) #[true, false, false, false, false, false, false, false, false, false, false, false, false, false] rfl rfl (by kernel_rfl) (fun _ _ _ h => h) (Or.inl ⟨by rfl, ?_⟩) ?_ ?_
          rotate_left
          · intro w'
            go_simp
            with_reducible rfl
          rotate_left
          · simp only [Act.put, List.setIfInBounds_toArray, List.set_cons_zero, List.set_cons_succ, i64_w, i32_w]
            rfl
          refine pure_ (i := 1) (N := some 59) (v := ?_) (a' := ?_) #[true, true, false, false, false, false, false, false, false, false, false, false, false, false] rfl rfl (by kernel_rfl) (fun _ _ _ h => h) (Or.inl ⟨by rfl, ?_⟩) ?_ ?_
          rotate_left
          · intro w'
            go_simp
            with_reducible rfl
          rotate_left
          · simp only [Act.put, List.setIfInBounds_toArray, List.set_cons_zero, List.set_cons_succ, i64_w, i32_w]
            rfl
          refine pure_ (i := 2) (N := some 60) (v := ?_) (a' := ?_) #[true, true, true, false, false, false, false, false, false, false, false, false, false, false] rfl rfl (by kernel_rfl) (fun _ _ _ h => h) (Or.inl ⟨by rfl, ?_⟩) ?_ ?_
          rotate_left
          · intro w'
            go_simp
            with_reducible rfl
          rotate_left
          · simp only [Act.put, List.setIfInBounds_toArray, List.set_cons_zero, List.set_cons_succ, i64_w, i32_w]
            rfl
          refine pure_ (i := 6) (N := some 64) (v := ?_) (a' := ?_) #[true, true, true, false, false, false, true, false, false, false, false, false, false, false] rfl rfl (by kernel_rfl) (fun _ _ _ h => h) (Or.inl ⟨by rfl, ?_⟩) ?_ ?_
          rotate_left
          · intro w'
            go_simp
            with_reducible rfl
          rotate_left
          · simp only [Act.put, List.setIfInBounds_toArray, List.set_cons_zero, List.set_cons_succ, i64_w, i32_w]
            rfl
          refine pure_ (i := 7) (N := some 65) (v := ?_) (a' := ?_) #[true, true, true, false, false, false, true, true, false, false, false, false, false, false] rfl rfl (by kernel_rfl) (fun _ _ _ h => h) (Or.inl ⟨by rfl, ?_⟩) ?_ ?_
          rotate_left
          · intro w'
            go_simp
            with_reducible rfl
          rotate_left
          · simp only [Act.put, List.setIfInBounds_toArray, List.set_cons_zero, List.set_cons_succ, i64_w, i32_w]
            rfl
          refine take_ (i := 3) (N := some 61) (v := ?_) (a' := ?_) #[true, true, true, true, false, false, true, true, false, false, false, false, false, false] rfl rfl (by kernel_rfl) (fun _ _ _ h => h) (Or.inl ⟨by rfl, ?_⟩) hHeld ?_ ?_
          rotate_left
          · intro w' _
            go_simp
            with_reducible rfl
          rotate_left
          · simp only [Act.put, List.setIfInBounds_toArray, List.set_cons_zero, List.set_cons_succ, i64_w, i32_w]
            rfl
          refine pure_ (i := 4) (N := some 62) (v := ?_) (a' := ?_) #[true, true, true, true, true, false, true, true, false, false, false, false, false, false] rfl rfl (by kernel_rfl) (fun _ _ _ h => h) (Or.inl ⟨by rfl, ?_⟩) ?_ ?_
          rotate_left
          · intro w'
            go_simp
            with_reducible rfl
          rotate_left
          · simp only [Act.put, List.setIfInBounds_toArray, List.set_cons_zero, List.set_cons_succ, i64_w, i32_w]
            rfl
          refine take_ (i := 5) (N := some 63) (v := ?_) (a' := ?_) #[true, true, true, true, true, true, true, true, false, false, false, false, false, false] rfl rfl (by kernel_rfl) (fun _ _ _ h => h) (Or.inl ⟨by rfl, ?_⟩) hHeld ?_ ?_
          rotate_left
          · intro w' _
            go_simp
            with_reducible rfl
          rotate_left
          · simp only [Act.put, List.setIfInBounds_toArray, List.set_cons_zero, List.set_cons_succ, i64_w, i32_w]
            rfl
          refine take_ (i := 8) (N := some 66) (v := ?_) (a' := ?_) #[true, true, true, true, true, true, true, true, true, false, false, false, false, false] rfl rfl (by kernel_rfl) (fun _ _ _ h => h) (Or.inl ⟨by rfl, ?_⟩) hHeld ?_ ?_
          rotate_left
          · intro w' _
            go_simp
            with_reducible rfl
          rotate_left
          · simp only [Act.put, List.setIfInBounds_toArray, List.set_cons_zero, List.set_cons_succ, i64_w, i32_w]
            rfl
          refine pure_ (i := 9) (N := some 67) (v := ?_) (a' := ?_) #[true, true, true, true, true, true, true, true, true, true, false, false, false, false] rfl rfl (by kernel_rfl) (fun _ _ _ h => h) (Or.inl ⟨by rfl, ?_⟩) ?_ ?_
          rotate_left
          · intro w'
            go_simp
            with_reducible rfl
          rotate_left
          · simp only [Act.put, List.setIfInBounds_toArray, List.set_cons_zero, List.set_cons_succ, i64_w, i32_w]
            rfl
          refine take_ (i := 10) (N := some 68) (v := ?_) (a' := ?_) #[true, true, true, true, true, true, true, true, true, true, true, false, false, false] rfl rfl (by kernel_rfl) (fun _ _ _ h => h) (Or.inl ⟨by rfl, ?_⟩) hHeld ?_ ?_
          rotate_left
          · intro w' _
            go_simp
            with_reducible rfl
          rotate_left
          · simp only [Act.put, List.setIfInBounds_toArray, List.set_cons_zero, List.set_cons_succ, i64_w, i32_w]
            rfl
          refine one_ (i := 11) (N := some 69) #[true, true, true, true, true, true, true, true, true, true, true, true, false, false] rfl rfl (by kernel_rfl) (by decide) (fun K hK => ?_)
          refine value_ (w1 := ?_) (v := ?_) (by rfl) rfl ?_ ?_
          rotate_left 2
          · go_simp
            constructor
            · rfl
            · rfl
          refine hK.out _ _ trivial (fun hHeld => ?_)
          clear hK K
          refine norm_ (a' := ?_) ?_ ?_
          rotate_left
          · show Act.put _ (some 69) _ = _
            simp only [Act.put, List.setIfInBounds_toArray, List.set_cons_zero, List.set_cons_succ, i64_w, i32_w]
            rfl
          refine one_ (i := 12) (N := some 70) #[true, true, true, true, true, true, true, true, true, true, true, true, true, false] rfl rfl (by kernel_rfl) (by decide) (fun K hK => ?_)
          refine Kd.R_append_rows_step (Kd.int .u8) (Rr := fun x cs => cs = [.int .u8 x]) (w0 := w) w.heap.size (by rfl) (.tmp 58) (.tmp 69) 32 5 (.int .u8 0) 1 rfl Tryd.underlying32 info5 rfl (by decide) (by decide) u3 xs [92, 120, H1, H2] _ _ _ (fun _ => True) (fun _ => False) rfl rfl (Kd.R_of_own (show OB _ _ _ _ from OB.alloc (OB.drew ((HO.out.below hb))) _) (fun _ _ => trivial)) (lit_C [92, 120, H1, H2] w2.drew (by simp)) (fun _ _ h => h) (fun _ h => h.elim) (fun _ _ => trivial) (below_alloc (below_drew ((below_step HB.out hb))) _) (Nat.le_trans ((below_step HB.out hb)).size (by simp)) (by simp; omega) ?_
          intro v1 w1 hR1 hB1 hg1 hg2
          clear hg1 hg2
          refine hK.out _ _ trivial (fun hHeld => ?_)
          clear hK K
          refine norm_ (a' := ?_) ?_ ?_
          rotate_left
          · show Act.put _ (some 70) _ = _
            simp only [Act.put, List.setIfInBounds_toArray, List.set_cons_zero, List.set_cons_succ, i64_w, i32_w]
            rfl
          refine pure_ (i := 13) (N := some 3) (v := ?_) (a' := ?_) #[true, true, true, true, true, true, true, true, true, true, true, true, true, true] rfl rfl (by kernel_rfl) (fun _ _ _ h => h) (Or.inl ⟨by rfl, ?_⟩) ?_ ?_
          rotate_left
          · intro w'
            go_simp
            with_reducible rfl
          rotate_left
          · simp only [Act.put, List.setIfInBounds_toArray, List.set_cons_zero, List.set_cons_succ, i64_w, i32_w]
            rfl
          refine done_ (by kernel_rfl) ?_
          have hO1 : OB w1 w.heap.size v1 (xs ++ [92, 120, H1, H2]) := Kd.own_of_R hR1
          clear hR1
          have HO3 := Lib.hid (show OB w1 w.heap.size v1 (xs ++ [92, 120, H1, H2]) from hO1); have HB3 := Lib.hid hB1
          clear hO1 hB1
          go_wp2_with fail
          go_roundw
          case measure => simp [intOf]; omega
          case rel => exact ⟨k + 1, x + K, xs ++ [92, 120, H1, H2], by rw [HGI.out, HK.out, HQ.out, HR.out, if_neg HN.out.1, if_neg (by intro h; rcases h with h | h; exact HN.out.2.1 h; exact HN.out.2.2 h), if_pos (.inl h32), HBB.out, HH1.out, HH2.out], rfl, HO3.out, HB3.out⟩
        by_cases h127 : R = 127
        · subst h127
          go_wp2_with (go_at_call 22; refine (cR _ HB.out).mono ?_; rintro e w2 ⟨rfl, hb⟩)
          refine start_ (n := 14) (S := fun w' => True) (ds := []) #[false, false, false, false, false, false, false, false, false, false, false, false, false, false] (by kernel_rfl) rfl rfl trivial (fun hHeld => ?_)
          refine pure_ (i := 0) (N := some 58) (v := ?_) (a' := ?_) #[true, false, false, false, false, false, false, false, false, false, false, false, false, false] rfl rfl (by kernel_rfl) (fun _ _ _ h => h) (Or.inl ⟨by rfl, ?_⟩) ?_ ?_
          rotate_left
          · intro w'
            go_simp
            with_reducible rfl
          rotate_left
          · simp only [Act.put, List.setIfInBounds_toArray, List.set_cons_zero, List.set_cons_succ, i64_w, i32_w]
            rfl
          refine pure_ (i := 1) (N := some 59) (v := ?_) (a' := ?_) #[true, true, false, false, false, false, false, false, false, false, false, false, false, false] rfl rfl (by kernel_rfl) (fun _ _ _ h => h) (Or.inl ⟨by rfl, ?_⟩) ?_ ?_
          rotate_left
          · intro w'
            go_simp
            with_reducible rfl
          rotate_left
          · simp only [Act.put, List.setIfInBounds_toArray, List.set_cons_zero, List.set_cons_succ, i64_w, i32_w]
            rfl
          refine pure_ (i := 2) (N := some 60) (v := ?_) (a' := ?_) #[true, true, true, false, false, false, false, false, false, false, false, false, false, false] rfl rfl (by kernel_rfl) (fun _ _ _ h => h) (Or.inl ⟨by rfl, ?_⟩) ?_ ?_
          rotate_left
          · intro w'
            go_simp
            with_reducible rfl
          rotate_left
          · simp only [Act.put, List.setIfInBounds_toArray, List.set_cons_zero, List.set_cons_succ, i64_w, i32_w]
            rfl
          refine pure_ (i := 6) (N := some 64) (v := ?_) (a' := ?_) #[true, true, true, false, false, false, true, false, false, false, false, false, false, false] rfl rfl (by kernel_rfl) (fun _ _ _ h => h) (Or.inl ⟨by rfl, ?_⟩) ?_ ?_
          rotate_left
          · intro w'
            go_simp
            with_reducible rfl
          rotate_left
          · simp only [Act.put, List.setIfInBounds_toArray, List.set_cons_zero, List.set_cons_succ, i64_w, i32_w]
            rfl
          refine pure_ (i := 7) (N := some 65) (v := ?_) (a' := ?_) #[true, true, true, false, false, false, true, true, false, false, false, false, false, false] rfl rfl (by kernel_rfl) (fun _ _ _ h => h) (Or.inl ⟨by rfl, ?_⟩) ?_ ?_
          rotate_left
          · intro w'
            go_simp
            with_reducible rfl
          rotate_left
          · simp only [Act.put, List.setIfInBounds_toArray, List.set_cons_zero, List.set_cons_succ, i64_w, i32_w]
            rfl
          refine take_ (i := 3) (N := some 61) (v := ?_) (a' := ?_) #[true, true, true, true, false, false, true, true, false, false, false, false, false, false] rfl rfl (by kernel_rfl) (fun _ _ _ h => h) (Or.inl ⟨by rfl, ?_⟩) hHeld ?_ ?_
          rotate_left
          · intro w' _
            go_simp
            with_reducible rfl
          rotate_left
          · simp only [Act.put, List.setIfInBounds_toArray, List.set_cons_zero, List.set_cons_succ, i64_w, i32_w]
            rfl
          refine pure_ (i := 4) (N := some 62) (v := ?_) (a' := ?_) #[true, true, true, true, true, false, true, true, false, false, false, false, false, false] rfl rfl (by kernel_rfl) (fun _ _ _ h => h) (Or.inl ⟨by rfl, ?_⟩) ?_ ?_
          rotate_left
          · intro w'
            go_simp
            with_reducible rfl
          rotate_left
          · simp only [Act.put, List.setIfInBounds_toArray, List.set_cons_zero, List.set_cons_succ, i64_w, i32_w]
            rfl
          refine take_ (i := 5) (N := some 63) (v := ?_) (a' := ?_) #[true, true, true, true, true, true, true, true, false, false, false, false, false, false] rfl rfl (by kernel_rfl) (fun _ _ _ h => h) (Or.inl ⟨by rfl, ?_⟩) hHeld ?_ ?_
          rotate_left
          · intro w' _
            go_simp
            with_reducible rfl
          rotate_left
          · simp only [Act.put, List.setIfInBounds_toArray, List.set_cons_zero, List.set_cons_succ, i64_w, i32_w]
            rfl
          refine take_ (i := 8) (N := some 66) (v := ?_) (a' := ?_) #[true, true, true, true, true, true, true, true, true, false, false, false, false, false] rfl rfl (by kernel_rfl) (fun _ _ _ h => h) (Or.inl ⟨by rfl, ?_⟩) hHeld ?_ ?_
          rotate_left
          · intro w' _
            go_simp
            with_reducible rfl
          rotate_left
          · simp only [Act.put, List.setIfInBounds_toArray, List.set_cons_zero, List.set_cons_succ, i64_w, i32_w]
            rfl
          refine pure_ (i := 9) (N := some 67) (v := ?_) (a' := ?_) #[true, true, true, true, true, true, true, true, true, true, false, false, false, false] rfl rfl (by kernel_rfl) (fun _ _ _ h => h) (Or.inl ⟨by rfl, ?_⟩) ?_ ?_
          rotate_left
          · intro w'
            go_simp
            with_reducible rfl
          rotate_left
          · simp only [Act.put, List.setIfInBounds_toArray, List.set_cons_zero, List.set_cons_succ, i64_w, i32_w]
            rfl
          refine take_ (i := 10) (N := some 68) (v := ?_) (a' := ?_) #[true, true, true, true, true, true, true, true, true, true, true, false, false, false] rfl rfl (by kernel_rfl) (fun _ _ _ h => h) (Or.inl ⟨by rfl, ?_⟩) hHeld ?_ ?_
          rotate_left
          · intro w' _
            go_simp
            with_reducible rfl
          rotate_left
          · simp only [Act.put, List.setIfInBounds_toArray, List.set_cons_zero, List.set_cons_succ, i64_w, i32_w]
            rfl
          refine one_ (i := 11) (N := some 69) #[true, true, true, true, true, true, true, true, true, true, true, true, false, false] rfl rfl (by kernel_rfl) (by decide) (fun K hK => ?_)
          refine value_ (w1 := ?_) (v := ?_) (by rfl) rfl ?_ ?_
          rotate_left 2
          · go_simp
            constructor
            · rfl
            · rfl
          refine hK.out _ _ trivial (fun hHeld => ?_)
          clear hK K
          refine norm_ (a' := ?_) ?_ ?_
          rotate_left
          · show Act.put _ (some 69) _ = _
            simp only [Act.put, List.setIfInBounds_toArray, List.set_cons_zero, List.set_cons_succ, i64_w, i32_w]
            rfl
          refine one_ (i := 12) (N := some 70) #[true, true, true, true, true, true, true, true, true, true, true, true, true, false] rfl rfl (by kernel_rfl) (by decide) (fun K hK => ?_)
          refine Kd.R_append_rows_step (Kd.int .u8) (Rr := fun x cs => cs = [.int .u8 x]) (w0 := w) w.heap.size (by rfl) (.tmp 58) (.tmp 69) 32 5 (.int .u8 0) 1 rfl Tryd.underlying32 info5 rfl (by decide) (by decide) u3 xs [92, 120, H1, H2] _ _ _ (fun _ => True) (fun _ => False) rfl rfl (Kd.R_of_own (show OB _ _ _ _ from OB.alloc (OB.drew ((HO.out.below hb))) _) (fun _ _ => trivial)) (lit_C [92, 120, H1, H2] w2.drew (by simp)) (fun _ _ h => h) (fun _ h => h.elim) (fun _ _ => trivial) (below_alloc (below_drew ((below_step HB.out hb))) _) (Nat.le_trans ((below_step HB.out hb)).size (by simp)) (by simp; omega) ?_
          intro v1 w1 hR1 hB1 hg1 hg2
          clear hg1 hg2
          refine hK.out _ _ trivial (fun hHeld => ?_)
          clear hK K
          refine norm_ (a' := ?_) ?_ ?_
          rotate_left
          · show Act.put _ (some 70) _ = _
            simp only [Act.put, List.setIfInBounds_toArray, List.set_cons_zero, List.set_cons_succ, i64_w, i32_w]
            rfl
          refine pure_ (i := 13) (N := some 3) (v := ?_) (a' := ?_) #[true, true, true, true, true, true, true, true, true, true, true, true, true, true] rfl rfl (by kernel_rfl) (fun _ _ _ h => h) (Or.inl ⟨by rfl, ?_⟩) ?_ ?_
          rotate_left
          · intro w'
            go_simp
            with_reducible rfl
          rotate_left
          · simp only [Act.put, List.setIfInBounds_toArray, List.set_cons_zero, List.set_cons_succ, i64_w, i32_w]
            rfl
          refine done_ (by kernel_rfl) ?_
          have hO1 : OB w1 w.heap.size v1 (xs ++ [92, 120, H1, H2]) := Kd.own_of_R hR1
          clear hR1
          have HO3 := Lib.hid (show OB w1 w.heap.size v1 (xs ++ [92, 120, H1, H2]) from hO1); have HB3 := Lib.hid hB1
          clear hO1 hB1
          go_wp2_with fail
          go_roundw
          case measure => simp [intOf]; omega
          case rel => exact ⟨k + 1, x + K, xs ++ [92, 120, H1, H2], by rw [HGI.out, HK.out, HQ.out, HR.out, if_neg HN.out.1, if_neg (by intro h; rcases h with h | h; exact HN.out.2.1 h; exact HN.out.2.2 h), if_pos (.inr (.inl rfl)), HBB.out, HH1.out, HH2.out], rfl, HO3.out, HB3.out⟩
        have b127 : (R == 127) = false := by rw [beq_eq_false_iff_ne]; exact h127
        have H127 := Lib.hid h127
        clear h127
        rcases hw : wrongB s x with _ | _
        · rw [hw] at cW
          have hK9 : x + K ≤ 9223372036854775807 := by omega
          have hk3 : x ≤ x + K := by omega
          have hk4 : 0 ≤ K := by omega
          have hk5 : 0 ≤ x + K := by omega
          go_wp2_with (first | ((with_reducible refine gate_builtin (b := .append) (xs := #[.tmp 21, .tmp 27]) rfl ?_); at_builtin; refine print_append_str (w0 := w) w.heap.size rfl (.tmp 21) (.tmp 27) 32 9 5 rfl Tryd.underlying32 Tryd.underlying9 info5 u3 xs (sub s x) rfl rfl ((HO.out.below hb).below hb3) (below_step (below_step HB.out hb) hb3) (below_step (below_step HB.out hb) hb3).size (by omega) ?_; intro v1 w1 hO1 hB1 hg1; clear hg1) | (go_at_call 22; refine (cR _ HB.out).mono ?_; rintro e w2 ⟨rfl, hb⟩) | (go_at_call 24; refine (cW _ (below_step HB.out hb)).mono ?_; rintro e w3 ⟨rfl, hb3⟩))
          have HO3 := Lib.hid (show OB w1 w.heap.size v1 (xs ++ bytesOf (sub s x)) from hO1); have HB3 := Lib.hid hB1
          clear hO1 hB1
          go_wp2_with fail
          go_roundw
          case measure => simp [intOf]; omega
          case rel => exact ⟨k + 1, x + K, xs ++ bytesOf (sub s x), by rw [HGI.out, HK.out, HQ.out, HR.out, if_neg HN.out.1, if_neg (by intro h; rcases h with h | h; exact HN.out.2.1 h; exact HN.out.2.2 h), if_neg (by intro h; rcases h with h | h | h; exact absurd h (by omega); exact H127.out h; rw [hw] at h; cases h)], rfl, HO3.out, HB3.out⟩
        · rw [hw] at cW
          go_wp2_with (first | (go_at_call 22; refine (cR _ HB.out).mono ?_; rintro e w2 ⟨rfl, hb⟩) | (go_at_call 24; refine (cW _ (below_step HB.out hb)).mono ?_; rintro e w3 ⟨rfl, hb3⟩))
          refine start_ (n := 14) (S := fun w' => True) (ds := []) #[false, false, false, false, false, false, false, false, false, false, false, false, false, false] (by kernel_rfl) rfl rfl trivial (fun hHeld => ?_)
          refine pure_ (i := 0) (N := some 58) (v := ?_) (a' := ?_) #[true, false, false, false, false, false, false, false, false, false, false, false, false, false] rfl rfl (by kernel_rfl) (fun _ _ _ h => h) (Or.inl ⟨by rfl, ?_⟩) ?_ ?_
          rotate_left
          · intro w'
            go_simp
            with_reducible rfl
          rotate_left
          · simp only [Act.put, List.setIfInBounds_toArray, List.set_cons_zero, List.set_cons_succ, i64_w, i32_w]
            rfl
          refine pure_ (i := 1) (N := some 59) (v := ?_) (a' := ?_) #[true, true, false, false, false, false, false, false, false, false, false, false, false, false] rfl rfl (by kernel_rfl) (fun _ _ _ h => h) (Or.inl ⟨by rfl, ?_⟩) ?_ ?_
          rotate_left
          · intro w'
            go_simp
            with_reducible rfl
          rotate_left
          · simp only [Act.put, List.setIfInBounds_toArray, List.set_cons_zero, List.set_cons_succ, i64_w, i32_w]
            rfl
          refine pure_ (i := 2) (N := some 60) (v := ?_) (a' := ?_) #[true, true, true, false, false, false, false, false, false, false, false, false, false, false] rfl rfl (by kernel_rfl) (fun _ _ _ h => h) (Or.inl ⟨by rfl, ?_⟩) ?_ ?_
          rotate_left
          · intro w'
            go_simp
            with_reducible rfl
          rotate_left
          · simp only [Act.put, List.setIfInBounds_toArray, List.set_cons_zero, List.set_cons_succ, i64_w, i32_w]
            rfl
          refine pure_ (i := 6) (N := some 64) (v := ?_) (a' := ?_) #[true, true, true, false, false, false, true, false, false, false, false, false, false, false] rfl rfl (by kernel_rfl) (fun _ _ _ h => h) (Or.inl ⟨by rfl, ?_⟩) ?_ ?_
          rotate_left
          · intro w'
            go_simp
            with_reducible rfl
          rotate_left
          · simp only [Act.put, List.setIfInBounds_toArray, List.set_cons_zero, List.set_cons_succ, i64_w, i32_w]
            rfl
          refine pure_ (i := 7) (N := some 65) (v := ?_) (a' := ?_) #[true, true, true, false, false, false, true, true, false, false, false, false, false, false] rfl rfl (by kernel_rfl) (fun _ _ _ h => h) (Or.inl ⟨by rfl, ?_⟩) ?_ ?_
          rotate_left
          · intro w'
            go_simp
            with_reducible rfl
          rotate_left
          · simp only [Act.put, List.setIfInBounds_toArray, List.set_cons_zero, List.set_cons_succ, i64_w, i32_w]
            rfl
          refine take_ (i := 3) (N := some 61) (v := ?_) (a' := ?_) #[true, true, true, true, false, false, true, true, false, false, false, false, false, false] rfl rfl (by kernel_rfl) (fun _ _ _ h => h) (Or.inl ⟨by rfl, ?_⟩) hHeld ?_ ?_
          rotate_left
          · intro w' _
            go_simp
            with_reducible rfl
          rotate_left
          · simp only [Act.put, List.setIfInBounds_toArray, List.set_cons_zero, List.set_cons_succ, i64_w, i32_w]
            rfl
          refine pure_ (i := 4) (N := some 62) (v := ?_) (a' := ?_) #[true, true, true, true, true, false, true, true, false, false, false, false, false, false] rfl rfl (by kernel_rfl) (fun _ _ _ h => h) (Or.inl ⟨by rfl, ?_⟩) ?_ ?_
          rotate_left
          · intro w'
            go_simp
            with_reducible rfl
          rotate_left
          · simp only [Act.put, List.setIfInBounds_toArray, List.set_cons_zero, List.set_cons_succ, i64_w, i32_w]
            rfl
          refine take_ (i := 5) (N := some 63) (v := ?_) (a' := ?_) #[true, true, true, true, true, true, true, true, false, false, false, false, false, false] rfl rfl (by kernel_rfl) (fun _ _ _ h => h) (Or.inl ⟨by rfl, ?_⟩) hHeld ?_ ?_
          rotate_left
          · intro w' _
            go_simp
            with_reducible rfl
          rotate_left
          · simp only [Act.put, List.setIfInBounds_toArray, List.set_cons_zero, List.set_cons_succ, i64_w, i32_w]
            rfl
          refine take_ (i := 8) (N := some 66) (v := ?_) (a' := ?_) #[true, true, true, true, true, true, true, true, true, false, false, false, false, false] rfl rfl (by kernel_rfl) (fun _ _ _ h => h) (Or.inl ⟨by rfl, ?_⟩) hHeld ?_ ?_
          rotate_left
          · intro w' _
            go_simp
            with_reducible rfl
          rotate_left
          · simp only [Act.put, List.setIfInBounds_toArray, List.set_cons_zero, List.set_cons_succ, i64_w, i32_w]
            rfl
          refine pure_ (i := 9) (N := some 67) (v := ?_) (a' := ?_) #[true, true, true, true, true, true, true, true, true, true, false, false, false, false] rfl rfl (by kernel_rfl) (fun _ _ _ h => h) (Or.inl ⟨by rfl, ?_⟩) ?_ ?_
          rotate_left
          · intro w'
            go_simp
            with_reducible rfl
          rotate_left
          · simp only [Act.put, List.setIfInBounds_toArray, List.set_cons_zero, List.set_cons_succ, i64_w, i32_w]
            rfl
          refine take_ (i := 10) (N := some 68) (v := ?_) (a' := ?_) #[true, true, true, true, true, true, true, true, true, true, true, false, false, false] rfl rfl (by kernel_rfl) (fun _ _ _ h => h) (Or.inl ⟨by rfl, ?_⟩) hHeld ?_ ?_
          rotate_left
          · intro w' _
            go_simp
            with_reducible rfl
          rotate_left
          · simp only [Act.put, List.setIfInBounds_toArray, List.set_cons_zero, List.set_cons_succ, i64_w, i32_w]
            rfl
          refine one_ (i := 11) (N := some 69) #[true, true, true, true, true, true, true, true, true, true, true, true, false, false] rfl rfl (by kernel_rfl) (by decide) (fun K hK => ?_)
          refine value_ (w1 := ?_) (v := ?_) (by rfl) rfl ?_ ?_
          rotate_left 2
          · go_simp
            constructor
            · rfl
            · rfl
          refine hK.out _ _ trivial (fun hHeld => ?_)
          clear hK K
          refine norm_ (a' := ?_) ?_ ?_
          rotate_left
          · show Act.put _ (some 69) _ = _
            simp only [Act.put, List.setIfInBounds_toArray, List.set_cons_zero, List.set_cons_succ, i64_w, i32_w]
            rfl
          refine one_ (i := 12) (N := some 70) #[true, true, true, true, true, true, true, true, true, true, true, true, true, false] rfl rfl (by kernel_rfl) (by decide) (fun K hK => ?_)
          refine Kd.R_append_rows_step (Kd.int .u8) (Rr := fun x cs => cs = [.int .u8 x]) (w0 := w) w.heap.size (by rfl) (.tmp 58) (.tmp 69) 32 5 (.int .u8 0) 1 rfl Tryd.underlying32 info5 rfl (by decide) (by decide) u3 xs [92, 120, H1, H2] _ _ _ (fun _ => True) (fun _ => False) rfl rfl (Kd.R_of_own (show OB _ _ _ _ from OB.alloc (OB.drew (((HO.out.below hb).below hb3))) _) (fun _ _ => trivial)) (lit_C [92, 120, H1, H2] w3.drew (by simp)) (fun _ _ h => h) (fun _ h => h.elim) (fun _ _ => trivial) (below_alloc (below_drew ((below_step (below_step HB.out hb) hb3))) _) (Nat.le_trans ((below_step (below_step HB.out hb) hb3)).size (by simp)) (by simp; omega) ?_
          intro v1 w1 hR1 hB1 hg1 hg2
          clear hg1 hg2
          refine hK.out _ _ trivial (fun hHeld => ?_)
          clear hK K
          refine norm_ (a' := ?_) ?_ ?_
          rotate_left
          · show Act.put _ (some 70) _ = _
            simp only [Act.put, List.setIfInBounds_toArray, List.set_cons_zero, List.set_cons_succ, i64_w, i32_w]
            rfl
          refine pure_ (i := 13) (N := some 3) (v := ?_) (a' := ?_) #[true, true, true, true, true, true, true, true, true, true, true, true, true, true] rfl rfl (by kernel_rfl) (fun _ _ _ h => h) (Or.inl ⟨by rfl, ?_⟩) ?_ ?_
          rotate_left
          · intro w'
            go_simp
            with_reducible rfl
          rotate_left
          · simp only [Act.put, List.setIfInBounds_toArray, List.set_cons_zero, List.set_cons_succ, i64_w, i32_w]
            rfl
          refine done_ (by kernel_rfl) ?_
          have hO1 : OB w1 w.heap.size v1 (xs ++ [92, 120, H1, H2]) := Kd.own_of_R hR1
          clear hR1
          have HO3 := Lib.hid (show OB w1 w.heap.size v1 (xs ++ [92, 120, H1, H2]) from hO1); have HB3 := Lib.hid hB1
          clear hO1 hB1
          go_wp2_with fail
          go_roundw
          case measure => simp [intOf]; omega
          case rel => exact ⟨k + 1, x + K, xs ++ [92, 120, H1, H2], by rw [HGI.out, HK.out, HQ.out, HR.out, if_neg HN.out.1, if_neg (by intro h; rcases h with h | h; exact HN.out.2.1 h; exact HN.out.2.2 h), if_pos (.inr (.inr hw)), HBB.out, HH1.out, HH2.out], rfl, HO3.out, HB3.out⟩
      · have hE := go_end (a0 := [34]) HP.out (k := k) (by rw [HG.out]; exact hlt)
        rw [HG.out] at hE
        have HE := Lib.hid (show xs = all s (qp s) [34] from hE)
        clear hE
        go_wp2_with ((with_reducible refine gate_builtin (b := .append) (xs := #[.tmp 74, .tmp 75]) rfl ?_); at_builtin; refine print_append_row (w0 := w) w.heap.size rfl (.tmp 74) (.tmp 75) 32 5 .u8 1 rfl Tryd.underlying32 info5 (by decide) u3 xs [34] _ 1 1 rfl rfl (HO.out.alloc _) (by simpa [nums] using lit_reads wr [34] (by simp)) (below_alloc HB.out _) (below_alloc HB.out _).size (by simp; omega) ?_; intro v1 w1 hO1 hB1 hg1 hg2; clear hg1 hg2; have hcs := own_string (P := Tryd.prog) Tryd.underlying32 Tryd.underlying5 Tryd.underlying9 hO1)
        have hq : quoteS s = strOfNums (xs ++ [34]) := by unfold quoteS quoteL; rw [HL.out, HE.out]; rfl
        have HQ9 := Lib.hid hq
        clear hq hO1
        have HB3 := Lib.hid hB1
        clear hB1
        go_ret
        exact ⟨by rw [HQ9.out]; rfl, HB3.out⟩
  · have hl : 65536 < (s.size : Int) := by simpa [longB] using hL
    have hq : quoteS s = ⟨#[]⟩ := by unfold quoteS; rw [hL]; rfl
    rw [hL] at cT
    rw [hq]
    clear hq hL
    go_enter Tryd.func11, Tryd.ntmps11
    go_wp2_with (go_at_call 21; refine (cT _ w.heap.size (by simp)).mono ?_; rintro e w9 ⟨rfl, rfl⟩)
    go_ret
    exact ⟨rfl, below_alloc (Below.refl _ _) _⟩
end Go.Proofs.YtgiaogocdihhhaaDoor.Tex
