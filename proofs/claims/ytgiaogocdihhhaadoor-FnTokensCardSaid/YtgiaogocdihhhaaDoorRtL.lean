/- Tokens, there and back: the law. -/
import Derived.Test.YtgiaogocdihhhaaDoorRtF
import Derived.Test.YtgiaogocdihhhaaDoorTokV
import Derived.Test.YtgiaogocdihhhaaDoorSrcT
namespace Go.Proofs.YtgiaogocdihhhaaDoor.Tex
open Go.RowKit Go.Proofs.YtgiaogocdihhhaaDoorW.PrintWords Go.Proofs.YtgiaogocdihhhaaDoorW.PrintLast Go.Proofs.YtgiaogocdihhhaaDoorW.PrintMore Go.Proofs.YtgiaogocdihhhaaDoor.PFnExactTokens
set_option linter.unusedVariables false
set_option linter.unusedSimpArgs false
theorem toks_len (s : ByteArray) : ∀ n a l c (out : List S35), out.length ≤ 20000 → (toks s n a l c out).2.2.length ≤ 20000
  | 0, a, l, c, out, h => by rw [toks]; exact Nat.zero_le _
  | n + 1, a, l, c, out, h => by
    obtain ⟨q, hq⟩ : ∃ q, blk s (s.size + 1) false a l c = q := ⟨_, rfl⟩
    obtain ⟨p1, p2, p3, p4⟩ := q
    rw [toks_step s n a l c out p1 p2 p3 p4 hq]
    split
    · exact Nat.zero_le _
    · split
      · exact h
      · split
        · exact Nat.zero_le _
        · split
          · exact Nat.zero_le _
          · split
            · exact Nat.zero_le _
            · exact toks_len s n _ _ _ _ (by rw [List.length_append, List.length_singleton]; omega)
theorem tokR_len (s : ByteArray) : (tokR s).2.2.length ≤ 20000 := by
  unfold tokR
  split
  · exact Nat.zero_le _
  · exact toks_len s _ _ _ _ _ (Nat.zero_le _)
theorem getD_mem {L : List S35} {j : Nat} (h : j < L.length) : L.getD j z35 ∈ L := by
  rw [List.getD_eq_getElem?_getD, List.getElem?_eq_getElem h]
  exact List.getElem_mem h
theorem lawSmall (s : ByteArray) (L : List S35) (b : Int) (h : tokR s = (0, b, L)) (j : Nat) (hj : j < L.length) : (L.getD j z35).f1.size ≤ 65536 := tokR_small s L b h _ (getD_mem hj)
set_option maxHeartbeats 8000000 in
set_option maxRecDepth 100000 in
theorem lawFnTokens (A0 : Option Addr) (c0 : Nat) (l0 : List Int) (w : World) (hr0 : Kd.C (Kd.int .u8) w A0 l0.length l0) (hc0 : l0.length ≤ c0) (hby : ∀ k : Int, 0 ≤ k → k < l0.length → 0 ≤ rd l0 k ∧ rd l0 k ≤ 255) (hT : Tabs w) (h2 : 2 ≤ w.heap.size) :
    Calls Tryd.prog 7 #[.slice A0 l0.length c0] w fun e w' => e = .returned (.bool true) ∧ Below w.heap.size w w' := by
  by_cases hl : 1048576 < (l0.length : Int)
  · go_enter Tryd.func7, Tryd.ntmps7
    go_wp2_with fail
    go_ret
    exact ⟨rfl, Below.refl _ _⟩
  · have hF : Src.Bytes l0 := ⟨by omega, hby⟩
    have c2 := fun (t : ByteArray) W (ht : t.size ≤ 1048576) (hb : Below w.heap.size w W) => implTokensC t W ht (hT.below h2 hb) (Nat.le_trans h2 hb.size)
    have cq := fun (s : ByteArray) W (hs : s.size ≤ 1048576) (hb : Below w.heap.size w W) => implQuoteC s W hs (hT.below h2 hb) (Nat.le_trans h2 hb.size)
    have C2 := Lib.hid c2; have CQ := Lib.hid cq
    clear c2 cq
    have HR := Lib.hid hr0; have HF := Lib.hid hF
    clear hr0 hF hby
    go_enter Tryd.func7, Tryd.ntmps7
    go_wp2_with fail
    refine (Src.drawTokensC A0 c0 l0 w HR.out hc0 HF.out).mono ?_
    rintro e w1 ⟨t, rfl, ht, hb1⟩
    have B1 := Lib.hid hb1
    clear hb1 HR HF
    have c1 := specTokensC t w1 (by omega)
    have c2t := fun W (hb : Below w.heap.size w W) => C2.out t W (by omega) hb
    have hlen := tokR_len t
    obtain ⟨Q, hQ⟩ : ∃ Q, tokR t = Q := ⟨_, rfl⟩
    have HQ := Lib.hid hQ
    rw [hQ] at c1 c2t hlen
    obtain ⟨a, b, L⟩ := Q
    simp only at c1 c2t hlen
    have C2T := Lib.hid c2t
    clear hQ c2t
    go_wp2_with fail
    refine c1.mono ?_
    rintro e w2 ⟨V0, rfl, hR0, hb2⟩
    have B2 := Lib.hid (below_step B1.out hb2)
    obtain ⟨A, k0, rfl, hk0, hC0⟩ := Kd.R_reads hR0
    have C0 := Lib.hid hC0
    clear hb2 hR0 hC0 c1
    go_wp2_with fail
    refine (C2T.out w2 B2.out).mono ?_
    rintro e w3 ⟨V1, rfl, hR1, hb3⟩
    have B3 := Lib.hid (below_step B2.out hb3)
    obtain ⟨A1, k1, rfl, hk1, hC1⟩ := Kd.R_reads hR1
    have C1 := Lib.hid hC1; have C0' := Lib.hid (Kd.C_below C0.out hb3)
    clear hb3 hR1 hC1 C2T C0 B1 B2
    have C0 := C0'
    clear C0'
    by_cases ha : a = 0
    · subst ha
      go_wp2_with fail
      have hTK := Lib.hid HQ.out
      go_loopw [10, 11] (fun sv iv wr => ∃ (u : ByteArray) (x : Int), 0 ≤ x ∧ x ≤ (L.length : Int) ∧ sv = .string u ∧ iv = .int .i64 x ∧ bytesOf u = pcs (L.take x.toNat) ∧ (u.size : Int) ≤ x * 300000 ∧ Below w3.heap.size w3 wr) (fun _ iv _ => L.length - (intOf iv).toNat)
      case atStart => exact ⟨⟨#[]⟩, 0, by omega, by omega, rfl, rfl, rfl, by show ((0 : Nat) : Int) ≤ _; omega, Below.refl _ _⟩
      case round =>
        obtain ⟨u, x, hx0, hx1, rfl, rfl, hu, hus, hB⟩ := hrel
        have HU := Lib.hid hu; have HB := Lib.hid hB
        clear hu hB
        by_cases hlt : x < (L.length : Int)
        · have hxn : x.toNat < L.length := by omega
          have hsm := lawSmall t L b HQ.out x.toNat hxn
          have hpt := pcs_take L x.toNat hxn
          obtain ⟨ad1, e1, a0, a1, a2, a3, a4, a5⟩ := at_T35 (Kd.C_below C1.out HB.out) x hx0 hlt
          obtain ⟨ad0, e0, d0, d1, d2, d3, d4, d5⟩ := at_T35 (Kd.C_below C0.out HB.out) x hx0 hlt
          subst e1 e0
          have hrd : rd_T35 L x = L.getD x.toNat z35 := rfl
          rw [hrd] at a0 a1 a2 a3 a4 a5 d0 d1 d2 d3 d4 d5
          obtain ⟨X, hX⟩ : ∃ X, L.getD x.toNat z35 = X := ⟨_, rfl⟩
          rw [hX] at a0 a1 a2 a3 a4 a5 d0 d1 d2 d3 d4 d5 hsm hpt
          obtain ⟨f0, f1, f2, f3, f4, f5⟩ := X
          simp only at a0 a1 a2 a3 a4 a5 d0 d1 d2 d3 d4 d5 hsm
          have HPT := Lib.hid hpt
          have q0 := decide_eq_true hlt
          have q1 := eq_true hx0
          have q2 := eq_true hlt
          have p1 : IntKind.wrap .i64 (x + 1) = x + 1 := by rw [i64_w]; exact wrap_ok (by omega) (by omega)
          clear hX hrd hpt
          have hpc : pcs (L.take (x + 1).toNat) = pcs (L.take x.toNat) ++ (pieceL ⟨f0, f1, f2, f3, f4, f5⟩ ++ [10]) := by rw [show (x + 1).toNat = x.toNat + 1 by omega]; exact HPT.out
          have HPC := Lib.hid hpc
          have hqs := quote_size2 f1
          have hqb := quote_bytes f1 hsm
          obtain ⟨q, hq⟩ : ∃ q, quoteS f1 = q := ⟨_, rfl⟩
          have cQ := fun W (hb : Below w.heap.size w W) => CQ.out f1 W (by omega) hb
          rw [hq] at hqs hqb cQ
          clear hpc hq HPT C1 C0
          have HQB := Lib.hid hqb
          clear hqb
          rcases hk : (f0 == 3) with _ | _
          · have hpl : pieceL ⟨f0, f1, f2, f3, f4, f5⟩ = bytesOf f1 := if_neg (by simpa using hk)
            have HPL := Lib.hid hpl
            clear hpl
            go_wp2_with fail
            go_quiet (fail)
            go_wp2_with fail
            refine ⟨⟨_, x + 1, by omega, by omega, rfl, rfl, ?_, ?_, pw_below_drewN HB.out _⟩, ?_⟩
            · rw [HPC.out, HPL.out, bytes_app, bytes_app, HU.out, List.append_assoc]
              rfl
            · rw [ByteArray.size_append, ByteArray.size_append]
              show ((u.size + f1.size + 1 : Nat) : Int) ≤ _
              omega
            · simp [intOf]
              omega
          · have hpl : pieceL ⟨f0, f1, f2, f3, f4, f5⟩ = quoteL f1 := if_pos (by simpa using hk)
            have HPL := Lib.hid hpl
            clear hpl
            go_wp2_with fail
            go_quiet (fail)
            go_wp2_with fail
            refine (cQ _ (pw_below_drewN (below_step B3.out HB.out) _)).mono ?_
            rintro e w5 ⟨rfl, hb5⟩
            have HB5 := Lib.hid (below_step (pw_below_drewN HB.out _) hb5)
            clear hb5
            go_wp2_with fail
            go_roundw
            case measure => simp [intOf]; omega
            case rel =>
              refine ⟨_, x + 1, by omega, by omega, rfl, rfl, ?_, ?_, HB5.out⟩
              · rw [HPC.out, HPL.out, bytes_app, bytes_app, HU.out, HQB.out, List.append_assoc]
                rfl
              · rw [ByteArray.size_append, ByteArray.size_append]
                show ((u.size + q.size + 1 : Nat) : Int) ≤ _
                omega
        · have q0 := decide_eq_false hlt
          obtain rfl : x = (L.length : Int) := by omega
          have hu2 : bytesOf u = pcs L := by rw [HU.out, Int.toNat_natCast, List.take_length]
          clear HU hlt
          by_cases hbig : (65536 : Int) < (u.size : Int)
          · have q1 := decide_eq_true hbig
            go_wp2_with fail
            go_ret
            exact ⟨rfl, below_step B3.out HB.out⟩
          · have q1 := decide_eq_false hbig
            have hlong : longB u = false := q1
            obtain ⟨M, hM, hsm⟩ := tokR_copy t u L b HQ.out hu2 hlong
            have hMl := Sm.len 1 L M hsm
            have HSM := Lib.hid (Sm.get 1 L M hsm)
            have cM := C2.out u wr (by omega) (below_step B3.out HB.out)
            rw [hM] at cM
            simp only at cM
            clear hM hsm hlong hu2 hbig
            go_wp2_with fail
            refine cM.mono ?_
            rintro e w5 ⟨V5, rfl, hR5, hb5⟩
            obtain ⟨A5, k5, rfl, hk5, hC5⟩ := Kd.R_reads hR5
            have C5 := Lib.hid hC5
            have B5 := Lib.hid (below_step (below_step B3.out HB.out) hb5)
            have C0' := Lib.hid (Kd.C_below (Kd.C_below C0.out HB.out) hb5)
            clear hR5 hC5 hb5 C0 cM
            have C0 := C0'
            clear C0'
            obtain ⟨n, hn⟩ : ∃ n, M.length = n := ⟨_, rfl⟩
            have HN := Lib.hid hn
            have HL := Lib.hid (hMl.symm.trans hn)
            rw [hn] at C5 hk5 ⊢
            rw [hMl.symm.trans hn] at C0 q0 hk0 hk1 ⊢
            clear hn hMl
            go_wp2_with fail
            clear HB q1 hus hx0 hx1
            have hn2 : n ≤ 20000 := by have := HL.out; omega
            go_loopw [14] (fun iv wx => ∃ x : Int, 0 ≤ x ∧ x ≤ (n : Int) ∧ iv = .int .i64 x ∧ Below w5.heap.size w5 wx) (fun iv _ => n - (intOf iv).toNat)
            case atStart => exact ⟨0, by omega, by omega, rfl, Below.refl _ _⟩
            case round =>
              obtain ⟨x, hx0, hx1, rfl, hB⟩ := hrel
              have HB := Lib.hid hB
              clear hB
              by_cases hlt : x < (n : Int)
              · have hg := HSM.out x.toNat (by rw [HL.out]; omega)
                obtain ⟨ad5, e5, a0, a1, a2, a3, a4, a5⟩ := at_T35 (Kd.C_below C5.out HB.out) x hx0 hlt
                obtain ⟨ad0, e0, d0, d1, d2, d3, d4, d5⟩ := at_T35 (Kd.C_below C0.out HB.out) x hx0 hlt
                subst e5 e0
                have hr5 : rd_T35 M x = M.getD x.toNat z35 := rfl
                have hr0 : rd_T35 L x = L.getD x.toNat z35 := rfl
                rw [hr5] at a0 a1 a2 a4 a5
                rw [hr0] at d0 d1 d2
                rw [hg.1] at a0
                rw [hg.2.1] at a1
                rw [hg.2.2.1] at a2
                rw [hg.2.2.2.1, show 1 + ((x.toNat : Nat) : Int) = x + 1 by omega] at a4
                rw [hg.2.2.2.2] at a5
                obtain ⟨f0, h0⟩ : ∃ f, (L.getD x.toNat z35).f0 = f := ⟨_, rfl⟩
                obtain ⟨f1, h1⟩ : ∃ f, (L.getD x.toNat z35).f1 = f := ⟨_, rfl⟩
                obtain ⟨f2, h2⟩ : ∃ f, (L.getD x.toNat z35).f2 = f := ⟨_, rfl⟩
                rw [h0] at a0 d0
                rw [h1] at a1 d1
                rw [h2] at a2 d2
                clear h0 h1 h2 hr5 hr0 hg a3 d3 d4 d5
                have q0 := decide_eq_true hlt
                have q1 := eq_true hx0
                have q2 := eq_true hlt
                have p1 : IntKind.wrap .i64 (x + 1) = x + 1 := by rw [i64_w]; exact wrap_ok (by omega) (by omega)
                go_wp2_with fail
                go_quiet (fail)
                go_wp2_with fail
                first
                  | (go_roundw
                     case measure => simp [intOf]; omega
                     case rel => exact ⟨x + 1, by omega, by omega, rfl, pw_below_drewN HB.out _⟩)
                  | (refine ⟨⟨x + 1, by omega, by omega, rfl, pw_below_drewN HB.out _⟩, ?_⟩
                     simp [intOf]
                     omega)
              · have q0 := decide_eq_false hlt
                go_wp2_with fail
                go_ret
                exact ⟨rfl, below_step B5.out HB.out⟩
    · have m1 : (a != 0) = true := by simpa using ha
      go_wp2_with fail
      go_ret
      exact ⟨rfl, B3.out⟩
end Go.Proofs.YtgiaogocdihhhaaDoor.Tex
