/- Tokens: blanks and remarks, the specification's. -/
import Derived.Test.YtgiaogocdihhhaaDoorTokC
namespace Go.Proofs.YtgiaogocdihhhaaDoor.Tex
open Go.RowKit Go.Proofs.YtgiaogocdihhhaaDoorW.PrintWords Go.Proofs.YtgiaogocdihhhaaDoorW.PrintLast Go.Proofs.YtgiaogocdihhhaaDoorW.PrintMore
set_option linter.unusedVariables false
set_option linter.unusedSimpArgs false
theorem name_w {P : Program} {c : Code} {Q : Exit → Act → World → Prop} {a : Act} {w : World} (h : ∀ E, E = w → c.wp P Q a E) : c.wp P Q a w := h w rfl
theorem posOf_ls {w : World} {b : Nat} {s : ByteArray} {a l c : Int} {V : Value} {cd bd : Int} (h : Ls w b s a l c V cd bd) : posOf b w = a.toNat := by
  unfold posOf
  rw [h.cell 1]
  rfl
theorem bI_get (s : ByteArray) (a : Int) (h0 : 0 ≤ a) (h : a < (s.size : Int)) (h2 : a.toNat < s.size) : (((s[a.toNat]'h2).toNat : Nat) : Int) = bI s a := by
  unfold bI bv
  show _ = (((s.data[a.toNat]!).toNat : Nat) : Int)
  have hz : s.data.size = s.size := rfl
  rw [getElem!_pos _ _ (by omega)]
  rfl
set_option maxHeartbeats 4000000 in
set_option maxRecDepth 100000 in
theorem sblanksC (b : Nat) (s : ByteArray) (a l c m : Int) (V : Value) (bd : Int) (w : World) (hB : Ls w b s a l c V 0 bd) (h0 : 0 ≤ a) (ha : a ≤ (s.size : Int)) (hs : s.size ≤ 1073741824) (hm : 1 ≤ m ∧ m ≤ 1073741824) (hl : 0 ≤ l ∧ l ≤ m + a) (hc : 0 ≤ c ∧ c ≤ m + a) (n : Nat) (hn : s.size < n + a.toNat) (R : Int × Int × Int × Int) (hR : blk s n false a l c = R) :
    Calls Tryd.prog 28 #[.pointer (some ⟨b, 0, none⟩)] w fun e w' => e = .returned (.tuple #[]) ∧ Ls w' b s R.2.1 R.2.2.1 R.2.2.2 V R.1 (if R.1 = 0 then bd else R.2.1) ∧ Upd b w w' := by
  have HB := Lib.hid hB
  have HR := Lib.hid hR
  have HL := Lib.hid (And.intro hl hc)
  have hlt := hB.lt
  clear hB hR hl hc
  obtain ⟨pl, hpl⟩ : ∃ pl : Int, (if R.1 = 0 then bd else R.2.1) = pl := ⟨_, rfl⟩
  rw [hpl]
  have HPL := Lib.hid hpl
  clear hpl
  go_enter Tryd.func28, Tryd.ntmps28
  go_wp2_with fail
  go_loopw [2] (fun rv wr => ∃ (n : Nat) (rm : Bool) (x y z : Int), rv = .bool rm ∧ 0 ≤ x ∧ x ≤ (s.size : Int) ∧ s.size < n + x.toNat ∧ (0 ≤ y ∧ y ≤ m + x) ∧ (0 ≤ z ∧ z ≤ m + x) ∧ Ls wr b s x y z V 0 bd ∧ blk s n rm x y z = R ∧ Upd b w wr) (fun _ wr => s.size - posOf b wr)
  case atStart => exact ⟨n, false, a, l, c, rfl, h0, ha, hn, HL.out.1, HL.out.2, HB.out, HR.out, Upd.of_below (Below.refl _ w) (Nat.le_of_lt hlt)⟩
  case round =>
    clear HB HR HL
    obtain ⟨n, rm, x, y, z, rfl, hx0, hxs, hn, hy, hz, hS, hR, hU⟩ := hrel
    have HS := Lib.hid hS
    have HU := Lib.hid hU
    have HR := Lib.hid hR
    obtain ⟨k, rfl⟩ : ∃ k, n = k + 1 := ⟨n - 1, by omega⟩
    clear hS hU hR
    by_cases hlt2 : x < (s.size : Int)
    · have p1 := eq_true hlt2
      have p2 := decide_eq_true hlt2
      have p3 := eq_true hx0
      obtain ⟨B, hBe⟩ : ∃ B, bI s x = B := ⟨_, rfl⟩
      have hby := bI_get s x hx0 hlt2 (by omega)
      rw [hBe] at hby
      have HBE := Lib.hid hBe
      clear hBe
      have HBL := Lib.hid (blk_blank s k x y z hx0 hlt2); have HST := Lib.hid (blk_stop s k x y z hlt2); have HWR := Lib.hid (blk_wrong s k x y z hlt2); have HIN := Lib.hid (blk_in s k x y z hlt2); have HLI := Lib.hid (blk_line s k x y z hx0 hlt2)
      have HSA := Lib.hid (fun h => (blk_slash s k x y z hx0 hlt2 h).trans (blk_in s k x y z hlt2 (by unfold wrongB; rw [sl2_rune s x hx0 hlt2 h]; rfl) (by rw [sl2_rune s x hx0 hlt2 h]; rfl)))
      have HSL := Lib.hid (sl2_iff s x hx0 hlt2); have HBB := Lib.hid (blB_byte s x hx0 hlt2); have H10 := Lib.hid (rI_10 s x hx0 hlt2)
      rw [HBE.out] at HSL HBB H10
      have hrange := rI_range s x hx0 hlt2
      have cO := fun V' (hV : Ls V' b s x y z V 0 bd) => overC b s x y z V 0 bd V' hV hx0 hlt2 (by omega) ⟨hy.1, by omega⟩ ⟨hz.1, by omega⟩
      have HY := Lib.hid (lin_le s x y m hx0 hlt2 hy)
      have HZ := Lib.hid (col_le s x z m hx0 hlt2 hm.1 hz)
      obtain ⟨K, hK⟩ : ∃ K, nI s x = K := ⟨_, rfl⟩
      obtain ⟨y2, hy2⟩ : ∃ y2, lin s x y = y2 := ⟨_, rfl⟩
      obtain ⟨z2, hz2⟩ : ∃ z2, col s x z = z2 := ⟨_, rfl⟩
      rw [hK, hy2, hz2] at cO HBL HIN HSA
      rw [hK] at hrange HY HZ
      rw [hy2] at HY
      rw [hz2] at HZ
      clear hK hy2 hz2
      have pos0 := Lib.hid (posOf_ls HS.out)
      obtain ⟨_, _, hk1, hk2, hk3⟩ := hrange
      have cW := fun V => l01WrongC s x V hx0 hlt2 (by omega)
      rcases rm with _ | _
      · rcases h47 : (B == 47) with _ | _
        · skip
          rcases hb32 : (B == 32) with _ | _
          · have m32 : (B != 32) = true := by rw [bne, hb32]; rfl
            rcases hb9 : (B == 9) with _ | _
            · have m9 : (B != 9) = true := by rw [bne, hb9]; rfl
              rcases hb10 : (B == 10) with _ | _
              · have m10 : (B != 10) = true := by rw [bne, hb10]; rfl
                rcases hb13 : (B == 13) with _ | _
                · have m13 : (B != 13) = true := by rw [bne, hb13]; rfl
                  have hbl : blB (rI s x) = false := by rw [HBB.out]; unfold blB; rw [hb32, hb9, hb10, hb13]; rfl
                  have HRZ := Lib.hid ((HST.out (by rw [HSL.out, h47]; rfl) hbl).symm.trans HR.out)
                  have g0 := HS.out.cell 0
                  have g1 := HS.out.cell 1
                  have g5 := HS.out.cell 5
                  simp only [List.getElem?_toArray, List.getElem?_cons_succ, List.getElem?_cons_zero] at g0 g1 g5
                  go_wp2_with fail
                  go_quiet (fail)
                  go_wp2_with fail
                  go_quiet (fail)
                  go_wp2_with fail
                  go_quiet (fail)
                  go_wp2_with fail
                  go_quiet (fail)
                  go_wp2_with fail
                  (try simp only [Exit.inBlock, Exit.then]); refine bodyPost_ret (results_none rfl _ _ _) rfl ?_
                  rw [← HPL.out, ← HRZ.out]
                  exact ⟨rfl, HS.out, HU.out.trans (Upd.of_below (pw_below_drewN (Below.refl _ _) _) (Nat.le_of_lt HS.out.lt))⟩
                · obtain rfl : B = 13 := by simpa using hb13
                  have HB0 := Lib.hid (rfl : (13 : Int) = 13)
                  clear hb13
                  have hbl : blB (rI s x) = true := by rw [HBB.out]; decide
                  have HEQ := Lib.hid (HBL.out hbl)
                  have g0 := HS.out.cell 0
                  have g1 := HS.out.cell 1
                  have g5 := HS.out.cell 5
                  simp only [List.getElem?_toArray, List.getElem?_cons_succ, List.getElem?_cons_zero] at g0 g1 g5
                  go_wp2_with fail
                  go_quiet (fail)
                  go_wp2_with fail
                  go_quiet (fail)
                  go_wp2_with fail
                  go_quiet (fail)
                  go_wp2_with fail
                  go_quiet (fail)
                  go_wp2_with fail
                  refine (cO _ (by exact HS.out)).mono ?_
                  rintro e w9 ⟨rfl, hS9, hU9⟩
                  have S9 := Lib.hid hS9; have U9 := Lib.hid (HU.out.trans ((Upd.of_below (pw_below_drewN (Below.refl _ _) _) (Nat.le_of_lt HS.out.lt)).trans hU9)); clear hS9 hU9 g0 g1
                  go_wp2_with fail
                  go_roundw
                  case measure => rw [posOf_ls S9.out, pos0.out]; omega
                  case rel => exact ⟨k, false, x + K, y2, z2, rfl, by omega, by omega, by omega, HY.out, HZ.out, S9.out, by rw [← HEQ.out]; exact HR.out, U9.out⟩
              · obtain rfl : B = 10 := by simpa using hb10
                have HB0 := Lib.hid (rfl : (10 : Int) = 10)
                clear hb10
                have hbl : blB (rI s x) = true := by rw [HBB.out]; decide
                have HEQ := Lib.hid (HBL.out hbl)
                have g0 := HS.out.cell 0
                have g1 := HS.out.cell 1
                have g5 := HS.out.cell 5
                simp only [List.getElem?_toArray, List.getElem?_cons_succ, List.getElem?_cons_zero] at g0 g1 g5
                go_wp2_with fail
                go_quiet (fail)
                go_wp2_with fail
                go_quiet (fail)
                go_wp2_with fail
                go_quiet (fail)
                go_wp2_with fail
                go_quiet (fail)
                go_wp2_with fail
                refine (cO _ (by exact HS.out)).mono ?_
                rintro e w9 ⟨rfl, hS9, hU9⟩
                have S9 := Lib.hid hS9; have U9 := Lib.hid (HU.out.trans ((Upd.of_below (pw_below_drewN (Below.refl _ _) _) (Nat.le_of_lt HS.out.lt)).trans hU9)); clear hS9 hU9 g0 g1
                go_wp2_with fail
                go_roundw
                case measure => rw [posOf_ls S9.out, pos0.out]; omega
                case rel => exact ⟨k, false, x + K, y2, z2, rfl, by omega, by omega, by omega, HY.out, HZ.out, S9.out, by rw [← HEQ.out]; exact HR.out, U9.out⟩
            · obtain rfl : B = 9 := by simpa using hb9
              have HB0 := Lib.hid (rfl : (9 : Int) = 9)
              clear hb9
              have hbl : blB (rI s x) = true := by rw [HBB.out]; decide
              have HEQ := Lib.hid (HBL.out hbl)
              have g0 := HS.out.cell 0
              have g1 := HS.out.cell 1
              have g5 := HS.out.cell 5
              simp only [List.getElem?_toArray, List.getElem?_cons_succ, List.getElem?_cons_zero] at g0 g1 g5
              go_wp2_with fail
              go_quiet (fail)
              go_wp2_with fail
              go_quiet (fail)
              go_wp2_with fail
              go_quiet (fail)
              go_wp2_with fail
              go_quiet (fail)
              go_wp2_with fail
              refine (cO _ (by exact HS.out)).mono ?_
              rintro e w9 ⟨rfl, hS9, hU9⟩
              have S9 := Lib.hid hS9; have U9 := Lib.hid (HU.out.trans ((Upd.of_below (pw_below_drewN (Below.refl _ _) _) (Nat.le_of_lt HS.out.lt)).trans hU9)); clear hS9 hU9 g0 g1
              go_wp2_with fail
              go_roundw
              case measure => rw [posOf_ls S9.out, pos0.out]; omega
              case rel => exact ⟨k, false, x + K, y2, z2, rfl, by omega, by omega, by omega, HY.out, HZ.out, S9.out, by rw [← HEQ.out]; exact HR.out, U9.out⟩
          · obtain rfl : B = 32 := by simpa using hb32
            have HB0 := Lib.hid (rfl : (32 : Int) = 32)
            clear hb32
            have hbl : blB (rI s x) = true := by rw [HBB.out]; decide
            have HEQ := Lib.hid (HBL.out hbl)
            have g0 := HS.out.cell 0
            have g1 := HS.out.cell 1
            have g5 := HS.out.cell 5
            simp only [List.getElem?_toArray, List.getElem?_cons_succ, List.getElem?_cons_zero] at g0 g1 g5
            go_wp2_with fail
            go_quiet (fail)
            go_wp2_with fail
            go_quiet (fail)
            go_wp2_with fail
            go_quiet (fail)
            go_wp2_with fail
            go_quiet (fail)
            go_wp2_with fail
            refine (cO _ (by exact HS.out)).mono ?_
            rintro e w9 ⟨rfl, hS9, hU9⟩
            have S9 := Lib.hid hS9; have U9 := Lib.hid (HU.out.trans ((Upd.of_below (pw_below_drewN (Below.refl _ _) _) (Nat.le_of_lt HS.out.lt)).trans hU9)); clear hS9 hU9 g0 g1
            go_wp2_with fail
            go_roundw
            case measure => rw [posOf_ls S9.out, pos0.out]; omega
            case rel => exact ⟨k, false, x + K, y2, z2, rfl, by omega, by omega, by omega, HY.out, HZ.out, S9.out, by rw [← HEQ.out]; exact HR.out, U9.out⟩
        · skip
          have pw : IntKind.wrap .i64 (x + 1) = x + 1 := by rw [i64_w]; exact wrap_ok (by omega) (by omega)
          have p6 : (0 ≤ x + 1) = True := eq_true (by omega)
          obtain rfl : B = 47 := by simpa using h47
          clear h47
          have hbl : blB (rI s x) = false := by rw [HBB.out]; decide
          by_cases hnx : x + 1 < (s.size : Int)
          · have p4 := eq_true hnx
            have p5 := decide_eq_true hnx
            have hby2 := bI_get s (x + 1) (by omega) hnx (by omega)
            obtain ⟨B2, hB2⟩ : ∃ B2, bI s (x + 1) = B2 := ⟨_, rfl⟩
            have HSL2 := Lib.hid HSL.out
            rw [hB2] at hby2
            have HB2 := Lib.hid hB2
            clear hB2
            rcases hn47 : (B2 == 47) with _ | _
            · have HRZ := Lib.hid ((HST.out (by rw [HSL.out, HB2.out, hn47]; simp) hbl).symm.trans HR.out)
              have g0 := HS.out.cell 0
              have g1 := HS.out.cell 1
              have g5 := HS.out.cell 5
              simp only [List.getElem?_toArray, List.getElem?_cons_succ, List.getElem?_cons_zero] at g0 g1 g5
              go_wp2_with fail
              go_quiet (fail)
              go_wp2_with fail
              go_quiet (fail)
              go_wp2_with fail
              go_quiet (fail)
              go_wp2_with fail
              go_quiet (fail)
              go_wp2_with fail
              (try simp only [Exit.inBlock, Exit.then]); refine bodyPost_ret (results_none rfl _ _ _) rfl ?_
              rw [← HPL.out, ← HRZ.out]
              exact ⟨rfl, HS.out, HU.out.trans (Upd.of_below (pw_below_drewN (Below.refl _ _) _) (Nat.le_of_lt HS.out.lt))⟩
            · have HEQ := Lib.hid (HSA.out (by rw [HSL.out, HB2.out, hn47, decide_eq_true hnx]; rfl))
              have g0 := HS.out.cell 0
              have g1 := HS.out.cell 1
              have g5 := HS.out.cell 5
              simp only [List.getElem?_toArray, List.getElem?_cons_succ, List.getElem?_cons_zero] at g0 g1 g5
              go_wp2_with fail
              go_quiet (fail)
              go_wp2_with fail
              go_quiet (fail)
              go_wp2_with fail
              go_quiet (fail)
              go_wp2_with fail
              go_quiet (fail)
              go_wp2_with fail
              refine (cO _ (by exact HS.out)).mono ?_
              rintro e w9 ⟨rfl, hS9, hU9⟩
              have S9 := Lib.hid hS9; have U9 := Lib.hid (HU.out.trans ((Upd.of_below (pw_below_drewN (Below.refl _ _) _) (Nat.le_of_lt HS.out.lt)).trans hU9)); clear hS9 hU9 g0 g1
              go_wp2_with fail
              go_roundw
              case measure => rw [posOf_ls S9.out, pos0.out]; omega
              case rel => exact ⟨k, true, x + K, y2, z2, rfl, by omega, by omega, by omega, HY.out, HZ.out, S9.out, by rw [← HEQ.out]; exact HR.out, U9.out⟩
          · have p4 := eq_false hnx
            have p5 := decide_eq_false hnx
            have HRZ := Lib.hid ((HST.out (by rw [HSL.out, decide_eq_false hnx]; simp) hbl).symm.trans HR.out)
            have g0 := HS.out.cell 0
            have g1 := HS.out.cell 1
            have g5 := HS.out.cell 5
            simp only [List.getElem?_toArray, List.getElem?_cons_succ, List.getElem?_cons_zero] at g0 g1 g5
            go_wp2_with fail
            go_quiet (fail)
            go_wp2_with fail
            go_quiet (fail)
            go_wp2_with fail
            go_quiet (fail)
            go_wp2_with fail
            go_quiet (fail)
            go_wp2_with fail
            (try simp only [Exit.inBlock, Exit.then]); refine bodyPost_ret (results_none rfl _ _ _) rfl ?_
            rw [← HPL.out, ← HRZ.out]
            exact ⟨rfl, HS.out, HU.out.trans (Upd.of_below (pw_below_drewN (Below.refl _ _) _) (Nat.le_of_lt HS.out.lt))⟩
      · obtain ⟨wv, hwv⟩ : ∃ wv, wrongB s x = wv := ⟨_, rfl⟩
        rw [hwv] at cW
        have HWV := Lib.hid hwv
        clear hwv
        rcases wv with _ | _
        · rcases hb10 : (B == 10) with _ | _
          · have HEQ := Lib.hid (HIN.out HWV.out (by rw [H10.out]; exact hb10))
            have g0 := HS.out.cell 0
            have g1 := HS.out.cell 1
            have g5 := HS.out.cell 5
            simp only [List.getElem?_toArray, List.getElem?_cons_succ, List.getElem?_cons_zero] at g0 g1 g5
            go_wp2_with fail
            go_quiet (fail)
            go_wp2_with fail
            go_quiet (fail)
            go_wp2_with fail
            refine name_w fun E hE => ?_
            have hEb : Below wr.heap.size wr E := by rw [hE]; exact pw_below_drewN (pw_below_drewN (Below.refl _ _) _) _
            clear hE g0 g1 g5
            have HSE := Lib.hid (HS.out.below hEb)
            have e0 := HSE.out.cell 0
            have e1 := HSE.out.cell 1
            simp only [List.getElem?_toArray, List.getElem?_cons_succ, List.getElem?_cons_zero] at e0 e1
            go_still_tail 10, (by kernel_rfl)
            have hltE := HSE.out.lt
            go_wp2_with (go_at_call 23; refine (cW _).mono ?_; rintro e w1 ⟨rfl, hb⟩; have d1 : w1.cell? ⟨b, 1, none⟩ = some (.int .i64 x) := (hb.cell (p := ⟨b, 1, none⟩) hltE).trans e1)
            have hb2 : Below wr.heap.size wr w1 := below_step hEb (below_step (below_drew1 (Below.refl _ _)) hb)
            have HU1 := Lib.hid (HU.out.trans (Upd.of_below hb2 (Nat.le_of_lt HS.out.lt)))
            have HS1 := Lib.hid (HS.out.below hb2)
            clear hb hb2 hEb HSE e0 e1 d1 hltE
            have g0 := HS1.out.cell 0
            have g1 := HS1.out.cell 1
            simp only [List.getElem?_toArray, List.getElem?_cons_succ, List.getElem?_cons_zero] at g0 g1
            go_quiet (fail)
            go_wp2_with fail
            refine (cO _ (by exact HS1.out)).mono ?_
            rintro e w9 ⟨rfl, hS9, hU9⟩
            have S9 := Lib.hid hS9; have U9 := Lib.hid (HU1.out.trans ((Upd.of_below (pw_below_drewN (Below.refl _ _) _) (Nat.le_of_lt HS1.out.lt)).trans hU9)); clear hS9 hU9 g0 g1
            go_wp2_with fail
            go_roundw
            case measure => rw [posOf_ls S9.out, pos0.out]; omega
            case rel => exact ⟨k, true, x + K, y2, z2, rfl, by omega, by omega, by omega, HY.out, HZ.out, S9.out, by rw [← HEQ.out]; exact HR.out, U9.out⟩
          · obtain rfl : B = 10 := by simpa using hb10
            clear hb10
            have hbl : blB (rI s x) = true := by rw [HBB.out]; decide
            have HEQ := Lib.hid ((HLI.out (by have := H10.out; simpa using this)).trans (HBL.out hbl))
            have g0 := HS.out.cell 0
            have g1 := HS.out.cell 1
            have g5 := HS.out.cell 5
            simp only [List.getElem?_toArray, List.getElem?_cons_succ, List.getElem?_cons_zero] at g0 g1 g5
            go_wp2_with fail
            go_quiet (fail)
            go_wp2_with fail
            go_quiet (fail)
            go_wp2_with fail
            refine name_w fun E hE => ?_
            have hEb : Below wr.heap.size wr E := by rw [hE]; exact pw_below_drewN (pw_below_drewN (Below.refl _ _) _) _
            clear hE g0 g1 g5
            have HSE := Lib.hid (HS.out.below hEb)
            have e0 := HSE.out.cell 0
            have e1 := HSE.out.cell 1
            simp only [List.getElem?_toArray, List.getElem?_cons_succ, List.getElem?_cons_zero] at e0 e1
            go_still_tail 10, (by kernel_rfl)
            have hltE := HSE.out.lt
            go_wp2_with (go_at_call 23; refine (cW _).mono ?_; rintro e w1 ⟨rfl, hb⟩; have d1 : w1.cell? ⟨b, 1, none⟩ = some (.int .i64 x) := (hb.cell (p := ⟨b, 1, none⟩) hltE).trans e1)
            have hb2 : Below wr.heap.size wr w1 := below_step hEb (below_step (below_drew1 (Below.refl _ _)) hb)
            have HU1 := Lib.hid (HU.out.trans (Upd.of_below hb2 (Nat.le_of_lt HS.out.lt)))
            have HS1 := Lib.hid (HS.out.below hb2)
            clear hb hb2 hEb HSE e0 e1 d1 hltE
            have g0 := HS1.out.cell 0
            have g1 := HS1.out.cell 1
            simp only [List.getElem?_toArray, List.getElem?_cons_succ, List.getElem?_cons_zero] at g0 g1
            go_quiet (fail)
            go_wp2_with fail
            refine (cO _ (by exact HS1.out)).mono ?_
            rintro e w9 ⟨rfl, hS9, hU9⟩
            have S9 := Lib.hid hS9; have U9 := Lib.hid (HU1.out.trans ((Upd.of_below (pw_below_drewN (Below.refl _ _) _) (Nat.le_of_lt HS1.out.lt)).trans hU9)); clear hS9 hU9 g0 g1
            go_wp2_with fail
            go_roundw
            case measure => rw [posOf_ls S9.out, pos0.out]; omega
            case rel => exact ⟨k, false, x + K, y2, z2, rfl, by omega, by omega, by omega, HY.out, HZ.out, S9.out, by rw [← HEQ.out]; exact HR.out, U9.out⟩
        · have HRZ := Lib.hid ((HWR.out HWV.out).symm.trans HR.out)
          have g0 := HS.out.cell 0
          have g1 := HS.out.cell 1
          have g5 := HS.out.cell 5
          simp only [List.getElem?_toArray, List.getElem?_cons_succ, List.getElem?_cons_zero] at g0 g1 g5
          go_wp2_with fail
          go_quiet (fail)
          go_wp2_with fail
          go_quiet (fail)
          go_wp2_with fail
          refine name_w fun E hE => ?_
          have hEb : Below wr.heap.size wr E := by rw [hE]; exact pw_below_drewN (pw_below_drewN (Below.refl _ _) _) _
          clear hE g0 g1 g5
          have HSE := Lib.hid (HS.out.below hEb)
          have e0 := HSE.out.cell 0
          have e1 := HSE.out.cell 1
          simp only [List.getElem?_toArray, List.getElem?_cons_succ, List.getElem?_cons_zero] at e0 e1
          go_still_tail 10, (by kernel_rfl)
          have hltE := HSE.out.lt
          go_wp2_with (go_at_call 23; refine (cW _).mono ?_; rintro e w1 ⟨rfl, hb⟩; have d1 : w1.cell? ⟨b, 1, none⟩ = some (.int .i64 x) := (hb.cell (p := ⟨b, 1, none⟩) hltE).trans e1)
          have hb2 : Below wr.heap.size wr w1 := below_step hEb (below_step (below_drew1 (Below.refl _ _)) hb)
          have HU1 := Lib.hid (HU.out.trans (Upd.of_below hb2 (Nat.le_of_lt HS.out.lt)))
          have HS1 := Lib.hid (HS.out.below hb2)
          clear hb hb2 hEb HSE e0 e1 d1 hltE
          refine (failC b s x y z V 0 bd 3 x _ (by exact HS1.out)).mono ?_
          rintro e w9 ⟨rfl, hS9, hU9⟩
          rw [if_pos rfl, if_pos rfl] at hS9
          have S9 := Lib.hid hS9; have U9 := Lib.hid (HU1.out.trans hU9); clear hS9 hU9
          go_wp2_with fail
          (try simp only [Exit.inBlock, Exit.then]); refine bodyPost_ret (results_none rfl _ _ _) rfl ?_
          rw [← HPL.out, ← HRZ.out]
          exact ⟨rfl, S9.out, U9.out⟩
    · have HRZ := Lib.hid ((blk_end s k rm x y z hlt2).symm.trans HR.out)
      have p1 := eq_false hlt2
      have p2 := decide_eq_false hlt2
      have g0 := HS.out.cell 0
      have g1 := HS.out.cell 1
      have g5 := HS.out.cell 5
      simp only [List.getElem?_toArray, List.getElem?_cons_succ, List.getElem?_cons_zero] at g0 g1 g5
      go_wp2_with fail
      go_quiet (fail)
      go_wp2_with fail
      go_end0
      rw [← HPL.out, ← HRZ.out]
      exact ⟨rfl, HS.out, HU.out.trans (Upd.of_below (pw_below_drewN (Below.refl _ _) _) (Nat.le_of_lt HS.out.lt))⟩
end Go.Proofs.YtgiaogocdihhhaaDoor.Tex
