/- Tokens: the law. -/
import Derived.Test.YtgiaogocdihhhaaDoorTokV
import Derived.Test.YtgiaogocdihhhaaDoorTokW
namespace Go.Proofs.YtgiaogocdihhhaaDoor.Tex
open Go.RowKit Go.Proofs.YtgiaogocdihhhaaDoorW.PrintWords Go.Proofs.YtgiaogocdihhhaaDoorW.PrintLast Go.Proofs.YtgiaogocdihhhaaDoorW.PrintMore Go.Proofs.YtgiaogocdihhhaaDoor.PFnExactTokens
set_option linter.unusedVariables false
set_option linter.unusedSimpArgs false
theorem toks_len (s : ByteArray) : ∀ n a l c (out : List S35), out.length ≤ 20000 → (toks s n a l c out).2.2.length ≤ 20000
  | 0, a, l, c, out, h => by rw [toks]; exact Nat.zero_le _
  | n + 1, a, l, c, out, h => by
    obtain ⟨q, hq⟩ : ∃ q, blk s (s.size + 1) false a l c = q := ⟨_, rfl⟩
    obtain ⟨p1, p2, p3, p4⟩ := q
    rw [toks_step s n a l c out p1 p2 p3 p4 hq]
    split
    · exact Nat.zero_le _
    · split
      · exact h
      · split
        · exact Nat.zero_le _
        · split
          · exact Nat.zero_le _
          · split
            · exact Nat.zero_le _
            · exact toks_len s n _ _ _ _ (by rw [List.length_append, List.length_singleton]; omega)
theorem tokR_len (s : ByteArray) : (tokR s).2.2.length ≤ 20000 := by
  unfold tokR
  split
  · exact Nat.zero_le _
  · exact toks_len s _ _ _ _ _ (Nat.zero_le _)
set_option maxHeartbeats 8000000 in
set_option maxRecDepth 100000 in
theorem lawTokens (s : ByteArray) (w : World) (hT : Tabs w) (h2 : 2 ≤ w.heap.size) :
    Calls Tryd.prog 6 #[.string s] w fun e w' => e = .returned (.bool true) ∧ Below w.heap.size w w' := by
  by_cases hl : 1048576 < (s.size : Int)
  · go_enter Tryd.func6, Tryd.ntmps6
    go_wp2_with fail
    go_ret
    exact ⟨rfl, Below.refl _ _⟩
  · have hs : s.size ≤ 1048576 := by omega
    have c1 := specTokensC s w hs
    have c2 := fun W (hb : Below w.heap.size w W) => implTokensC s W hs (hT.below h2 hb) (Nat.le_trans h2 hb.size)
    have hlen := tokR_len s
    obtain ⟨Q, hQ⟩ : ∃ Q, tokR s = Q := ⟨_, rfl⟩
    rw [hQ] at c1 c2 hlen
    obtain ⟨a, b, L⟩ := Q
    simp only at c1 c2 hlen
    have F1 := Lib.hid (eqF L (by omega)); have F2 := markF L (by omega); have F3 := heldF L.length (by omega)
    obtain ⟨m, hm⟩ : ∃ m, 1 + 6 * (L.length : Int) = m := ⟨_, rfl⟩
    have hm0 := decide_eq_false (show ¬ m < 0 by omega)
    rw [hm] at F2 F3
    have F2 := Lib.hid F2; have F3 := Lib.hid F3
    clear hQ hm hlen
    go_enter Tryd.func6, Tryd.ntmps6
    go_wp2_with (go_at_call 14; refine c1.mono ?_; rintro e w1 ⟨V0, rfl, hR0, hb1⟩; have B1 := Lib.hid hb1; have C0 := Lib.hid (Kd.R_reads hR0); clear hb1 hR0)
    obtain ⟨A0, k0, rfl, hk0, hC0⟩ := C0.out
    clear C0
    have C0 := Lib.hid hC0
    clear hC0
    go_wp2_with (go_at_call 15; refine (c2 _ B1.out).mono ?_; rintro e w2 ⟨V1, rfl, hR1, hb2⟩; have R1 := Lib.hid hR1; have B2 := Lib.hid hb2; clear hb2 hR1)
    obtain ⟨A1, k1, rfl, hk1, hC1⟩ := Kd.R_reads R1.out
    have C1 := Lib.hid hC1
    clear hC1
    go_wp2_with (go_at_call 16; refine (laws_eqTokenS.calls _ A1 k1 L A0 k0 L true _ C1.out hk1 (Kd.C_below C0.out B2.out) hk0 F1.out).mono ?_; rintro e w3 ⟨rfl, hb3⟩; have B3 := Lib.hid hb3; clear hb3)
    go_wp2_with (go_at_call 17; refine (laws_markTokenS.calls _ (fun _ => True) _ L 1 m _ w1 _ (below_step B2.out B3.out) (Kd.R_below R1.out B3.out) F2.out).mono ?_; rintro e w4 ⟨rfl, hR4, hb4, -⟩; have R4 := Lib.hid hR4; have B4 := Lib.hid hb4; clear hR4 hb4)
    obtain ⟨-, -, hC4⟩ := Kd.R_reads' R4.out
    have C4 := Lib.hid hC4
    clear hC4
    have cH := fun W (hb : Below w4.heap.size w4 W) => laws_heldTokenS.calls _ A1 k1 (marks 1 L.length) 1 m W (by rw [marks_len] at C4 ⊢; exact Kd.C_below C4.out hb) (by rw [marks_len]; exact hk1) F3.out
    rw [marks_len] at cH
    go_wp2_with (go_at_call 18; refine (cH _ (Below.refl _ _)).mono ?_; rintro e w5 ⟨rfl, hb5⟩; have B5 := Lib.hid hb5; clear hb5)
    have B6 := Lib.hid (below_step (B1.out.trans (B4.out.mono B1.out.size)) B5.out)
    go_wp2_with (go_at_call 15; refine (c2 _ B6.out).mono ?_; rintro e w7 ⟨V7, rfl, hR7, hb7⟩; have R7 := Lib.hid hR7; have B7 := Lib.hid hb7; clear hb7 hR7)
    obtain ⟨A7, k7, rfl, hk7, hC7⟩ := Kd.R_reads R7.out
    have C7 := Lib.hid hC7
    clear hC7
    have B8 := Lib.hid (below_step (below_step B4.out B5.out) B7.out)
    go_wp2_with (go_at_call 16; refine (laws_eqTokenS.calls _ A7 k7 L A0 k0 L true _ C7.out hk7 (Kd.C_below C0.out B8.out) hk0 F1.out).mono ?_; rintro e w9 ⟨rfl, hb9⟩; have B9 := Lib.hid hb9; clear hb9)
    have BH := Lib.hid (below_step (below_step B5.out B7.out) B9.out)
    go_wp2_with (go_at_call 18; refine (cH _ BH.out).mono ?_; rintro e w10 ⟨rfl, hb10⟩; have B10 := Lib.hid hb10; clear hb10)
    go_ret
    exact ⟨rfl, below_step (below_step (below_step B6.out B7.out) B9.out) B10.out⟩
end Go.Proofs.YtgiaogocdihhhaaDoor.Tex
