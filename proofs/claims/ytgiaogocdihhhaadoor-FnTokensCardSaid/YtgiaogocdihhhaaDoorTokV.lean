/- Tokens: the specification's Tokens. -/
import Derived.Test.YtgiaogocdihhhaaDoorTokU
namespace Go.Proofs.YtgiaogocdihhhaaDoor.Tex
open Go.RowKit Go.Proofs.YtgiaogocdihhhaaDoorW.PrintWords Go.Proofs.YtgiaogocdihhhaaDoorW.PrintLast Go.Proofs.YtgiaogocdihhhaaDoorW.PrintMore Go.Proofs.YtgiaogocdihhhaaDoor.PFnExactTokens
set_option linter.unusedVariables false
set_option linter.unusedSimpArgs false
/-- An empty literal row. -/
theorem R_empty {α : Type} (d : Kd α) (e : Nat) (w : World) (base : Nat) (hb : base ≤ w.heap.size) : d.R e (w.alloc (.cells #[] e)) base (fun _ => True) (.slice (some ⟨w.heap.size, 0, none⟩) 0 0) [] :=
  ⟨fun _ _ => trivial, [], ⟨by simp, .inr ⟨_, 0, #[], rfl, hb, heap_alloc_new w _, Nat.le_refl _, by decide, by simp, by simp⟩⟩, Reps.none _ _⟩
def codeOf (b : Nat) (w : World) : Nat := match w.cell? ⟨b, 5, none⟩ with
  | some (.int _ x) => if x = 0 then 1 else 0
  | _ => 0
theorem codeOf_ls {w : World} {b : Nat} {s : ByteArray} {a l c : Int} {V : Value} {cd bd : Int} (h : Ls w b s a l c V cd bd) : codeOf b w = if cd = 0 then 1 else 0 := by
  unfold codeOf
  rw [h.cell 5]
  rfl
theorem tooS (s : ByteArray) : longB s = decide ((65536 : Int) < (s.size : Int)) := rfl
theorem lexT_step (s : ByteArray) (k : Nat) (a l c : Int) (out : List S35) (q2 q3 q4 : Int) (Q : Int × Int × S35 × Int × Int × Int) (h : blk s (s.size + 1) false a l c = (0, q2, q3, q4)) (hlt : q2 < (s.size : Int)) (hlen : out.length ≤ 20000) (hQ : lexT s q2 q3 q4 out.length = Q) :
    toks s (k + 1) a l c out = if Q.1 ≠ 0 then (Q.1, Q.2.1, []) else toks s k Q.2.2.2.1 Q.2.2.2.2.1 Q.2.2.2.2.2 (out ++ [Q.2.2.1]) := by
  rw [toks_step s k a l c out 0 q2 q3 q4 h, if_neg (by decide), if_neg (by omega), ← hQ]
  unfold lexT
  by_cases hw : wrongB s q2 = true
  · rw [if_pos hw, if_pos hw]
    exact (if_pos (show (3 : Int) ≠ 0 by decide)).symm
  · rw [if_neg hw, if_neg hw]
    by_cases hm : (out.length : Int) = 20000
    · rw [if_pos (by omega), if_pos hm]
      exact (if_pos (show (10 : Int) ≠ 0 by decide)).symm
    · rw [if_neg (by omega), if_neg hm]
theorem lexT_len (s : ByteArray) (a l c : Int) (n : Nat) (hn : n ≤ 20000) (h : (lexT s a l c n).1 = 0) : n + 1 ≤ 20000 ∧ lexT s a l c n = lexR s a l c := by
  unfold lexT at h ⊢
  by_cases hw : wrongB s a = true
  · rw [if_pos hw] at h
    exact absurd h (show ¬ (3 : Int) = 0 by decide)
  · rw [if_neg hw] at h ⊢
    by_cases hm : (n : Int) = 20000
    · rw [if_pos hm] at h
      exact absurd h (show ¬ (10 : Int) = 0 by decide)
    · rw [if_neg hm]
      exact ⟨by omega, rfl⟩
set_option maxHeartbeats 8000000 in
set_option maxRecDepth 100000 in
theorem specTokensC (s : ByteArray) (w : World) (hs : s.size ≤ 1048576) :
    Calls Tryd.prog 14 #[.string s] w fun e w' => ∃ v, e = .returned (.tuple #[v, .int .i64 (tokR s).1, .int .i64 (tokR s).2.1]) ∧ k35.R 35 w' w.heap.size (fun _ => True) v (tokR s).2.2 ∧ Below w.heap.size w w' := by
  rcases hL : longB s with _ | _
  · obtain ⟨R, hR⟩ : ∃ R, toks s (s.size + 1) 0 1 1 [] = R := ⟨_, rfl⟩
    have hQ : tokR s = R := by unfold tokR; rw [hL, ← hR]; rfl
    rw [hQ]
    have hl := hL
    rw [tooS] at hl
    clear hQ hL
    have HR := Lib.hid hR
    clear hR
    go_enter Tryd.func14, Tryd.ntmps14
    go_wp2_with fail
    refine nm_w fun E hE => ?_
    obtain ⟨b, hb⟩ : ∃ b, w.heap.size = b := ⟨_, rfl⟩
    have hB0 : Below w.heap.size w E := by rw [hE]; exact below_alloc (Below.refl _ _) _
    have hS0 : St w E b s 0 1 1 (.slice none 0 0) 0 0 [] := by
      refine ⟨?_, Kd.R_nil k35 35 _ _ _, hB0⟩
      rw [hE, ← hb]
      exact heap_alloc_new w _
    have S := Lib.hid hS0
    have hbb : w.heap.size ≤ b := by omega
    try rw [hb]
    clear hE hS0 hB0 hb
    go_loopw [38] (fun _ wr => ∃ (n : Nat) (x y z : Int) (V : Value) (cd bd : Int) (out : List S35), Pos s 1 x y z ∧ s.size < n + x.toNat ∧ St w wr b s x y z V cd bd out ∧ out.length ≤ 20000 ∧ ((cd = 0 ∧ bd = 0 ∧ toks s n x y z out = R) ∨ (cd ≠ 0 ∧ (cd, bd, ([] : List S35)) = R))) (fun _ wr => 2 * (s.size - posOf b wr) + codeOf b wr)
    case atStart => exact ⟨s.size + 1, 0, 1, 1, _, 0, 0, [], ⟨by omega, by omega, by omega, by omega⟩, by omega, S.out, by decide, .inl ⟨rfl, rfl, HR.out⟩⟩
    case round =>
      clear S HR
      obtain ⟨n, x, y, z, V, cd, bd, out, hP, hn, hS, hlen, hC⟩ := hrel
      have S := Lib.hid hS; have pos0 := Lib.hid (posOf_ls hS.1); have cod0 := Lib.hid (codeOf_ls hS.1)
      obtain ⟨k, rfl⟩ : ∃ k, n = k + 1 := ⟨n - 1, by have := hP.a1; omega⟩
      clear hS
      rcases hC with ⟨rfl, rfl, hR⟩ | ⟨hcd, hR⟩
      · have HR := Lib.hid hR
        clear hR
        have hbk := blk_pos s 1 (by omega) (s.size + 1) false x y z hP
        obtain ⟨q, hq⟩ : ∃ q, blk s (s.size + 1) false x y z = q := ⟨_, rfl⟩
        rw [hq] at hbk
        obtain ⟨q1, q2, q3, q4⟩ := q
        simp only at hbk
        have HK := Lib.hid (toks_step s k x y z out q1 q2 q3 q4 hq)
        obtain ⟨hP2, hxq⟩ := hbk
        have hx0 := hP.a0; have hx1 := hP.a1
        have g5 := S.out.1.cell 5
        simp only [List.getElem?_toArray, List.getElem?_cons_succ, List.getElem?_cons_zero] at g5
        go_wp2_with fail
        clear g5
        refine (sblanksC b s x y z 1 V 0 wr S.out.1 hx0 hx1 (by omega) (by omega) hP.l hP.c (s.size + 1) (by omega) _ hq).mono ?_
        rintro e v1 ⟨rfl, hS9, hU9⟩
        simp only at hS9
        have S2 := Lib.hid (S.out.upd hbb hU9 hS9)
        clear S hS9 hU9
        have S := S2
        clear S2
        obtain ⟨pl, hpl⟩ : ∃ pl, (if q1 = 0 then 0 else q2) = pl := ⟨_, rfl⟩
        rw [hpl] at S
        have HPL := Lib.hid hpl
        clear hpl
        have g0 := S.out.1.cell 0; have g1 := S.out.1.cell 1; have g5 := S.out.1.cell 5
        simp only [List.getElem?_toArray, List.getElem?_cons_succ, List.getElem?_cons_zero] at g0 g1 g5
        rcases hz : (q1 == 0) with _ | _
        · have hz1 : q1 ≠ 0 := by simpa using hz
          have m1 : (q1 != 0) = true := by rw [bne, hz]; rfl
          have HF := Lib.hid (HR.out.symm.trans (HK.out.trans (if_pos hz1)))
          have HP9 := Lib.hid (HPL.out.symm.trans (if_neg hz1))
          clear HK HR
          go_wp2_with fail
          go_quiet (fail)
          clear g0 g1 g5
          have g5 := S.out.1.cell 5
          simp only [List.getElem?_toArray, List.getElem?_cons_succ, List.getElem?_cons_zero] at g5
          go_wp2_with fail
          clear g5
          have hlt : b < (v1.drewN nq).drew.heap.size := S.out.1.lt
          have hbs := S.out.2.2.size
          have u5 : (v1.drewN nq).drew.cell? ⟨b, 5, none⟩ = some (.int .i64 q1) := S.out.1.cell 5
          have u6 : (v1.drewN nq).drew.cell? ⟨b, 6, none⟩ = some (.int .i64 pl) := S.out.1.cell 6
          have hab := (Below.refl (v1.drewN nq).drew.heap.size (v1.drewN nq).drew).alloc (Nat.le_refl _) (.cells #[] 35)
          have hBe : Below w.heap.size w (v1.drewN nq).drew := below_drew1 (pw_below_drewN S.out.2.2 _)
          have f5 := (hab.cell (p := ⟨b, 5, none⟩) hlt).trans u5; have f6 := (hab.cell (p := ⟨b, 6, none⟩) hlt).trans u6
          refine start_ (n := 12) (S := fun w' => w'.cell? ⟨b, 5, none⟩ = some (.int .i64 q1) ∧ w'.cell? ⟨b, 6, none⟩ = some (.int .i64 pl)) (ds := []) #[false, false, false, false, false, false, false, false, false, false, false, false] (by kernel_rfl) rfl rfl ⟨u5, u6⟩ (fun hHeld => ?_)
          refine pure_ (i := 1) (N := some 45) (v := ?_) (a' := ?_) #[false, true, false, false, false, false, false, false, false, false, false, false] rfl rfl (by kernel_rfl) (fun _ _ _ h => h) (Or.inl ⟨by rfl, ?_⟩) ?_ ?_
          rotate_left
          · intro w'
            go_simp
            with_reducible rfl
          rotate_left
          · simp only [Act.put, List.setIfInBounds_toArray, List.set_cons_zero, List.set_cons_succ, i64_w, i32_w]
            rfl
          refine pure_ (i := 2) (N := some 46) (v := ?_) (a' := ?_) #[false, true, true, false, false, false, false, false, false, false, false, false] rfl rfl (by kernel_rfl) (fun _ _ _ h => h) (Or.inl ⟨by rfl, ?_⟩) ?_ ?_
          rotate_left
          · intro w'
            go_simp
            with_reducible rfl
          rotate_left
          · simp only [Act.put, List.setIfInBounds_toArray, List.set_cons_zero, List.set_cons_succ, i64_w, i32_w]
            rfl
          refine pure_ (i := 3) (N := some 47) (v := ?_) (a' := ?_) #[false, true, true, true, false, false, false, false, false, false, false, false] rfl rfl (by kernel_rfl) (fun _ _ _ h => h) (Or.inl ⟨by rfl, ?_⟩) ?_ ?_
          rotate_left
          · intro w'
            go_simp
            with_reducible rfl
          rotate_left
          · simp only [Act.put, List.setIfInBounds_toArray, List.set_cons_zero, List.set_cons_succ, i64_w, i32_w]
            rfl
          refine pure_ (i := 5) (N := some 49) (v := ?_) (a' := ?_) #[false, true, true, true, false, true, false, false, false, false, false, false] rfl rfl (by kernel_rfl) (fun _ _ _ h => h) (Or.inl ⟨by rfl, ?_⟩) ?_ ?_
          rotate_left
          · intro w'
            go_simp
            with_reducible rfl
          rotate_left
          · simp only [Act.put, List.setIfInBounds_toArray, List.set_cons_zero, List.set_cons_succ, i64_w, i32_w]
            rfl
          refine pure_ (i := 6) (N := some 50) (v := ?_) (a' := ?_) #[false, true, true, true, false, true, true, false, false, false, false, false] rfl rfl (by kernel_rfl) (fun _ _ _ h => h) (Or.inl ⟨by rfl, ?_⟩) ?_ ?_
          rotate_left
          · intro w'
            go_simp
            with_reducible rfl
          rotate_left
          · simp only [Act.put, List.setIfInBounds_toArray, List.set_cons_zero, List.set_cons_succ, i64_w, i32_w]
            rfl
          refine pure_ (i := 7) (N := some 51) (v := ?_) (a' := ?_) #[false, true, true, true, false, true, true, true, false, false, false, false] rfl rfl (by kernel_rfl) (fun _ _ _ h => h) (Or.inl ⟨by rfl, ?_⟩) ?_ ?_
          rotate_left
          · intro w'
            go_simp
            with_reducible rfl
          rotate_left
          · simp only [Act.put, List.setIfInBounds_toArray, List.set_cons_zero, List.set_cons_succ, i64_w, i32_w]
            rfl
          refine take_ (i := 4) (N := some 48) (v := ?_) (a' := ?_) #[false, true, true, true, true, true, true, true, false, false, false, false] rfl rfl (by kernel_rfl) (fun _ _ _ h => h) (Or.inl ⟨by rfl, ?_⟩) hHeld ?_ ?_
          rotate_left
          · rintro w' ⟨s0, s1⟩
            go_simp
            with_reducible rfl
          rotate_left
          · simp only [Act.put, List.setIfInBounds_toArray, List.set_cons_zero, List.set_cons_succ, i64_w, i32_w]
            rfl
          refine take_ (i := 8) (N := some 52) (v := ?_) (a' := ?_) #[false, true, true, true, true, true, true, true, true, false, false, false] rfl rfl (by kernel_rfl) (fun _ _ _ h => h) (Or.inl ⟨by rfl, ?_⟩) hHeld ?_ ?_
          rotate_left
          · rintro w' ⟨s0, s1⟩
            go_simp
            with_reducible rfl
          rotate_left
          · simp only [Act.put, List.setIfInBounds_toArray, List.set_cons_zero, List.set_cons_succ, i64_w, i32_w]
            rfl
          refine one_ (i := 0) (N := some 44) #[true, true, true, true, true, true, true, true, true, false, false, false] rfl rfl (by kernel_rfl) (by decide) (fun K hK => ?_)
          refine value_ (w1 := ?_) (v := ?_) (by rfl) rfl ?_ ?_
          rotate_left 2
          · go_simp
            constructor
            · rfl
            · rfl
          refine hK.out _ _ ⟨f5, f6⟩ (fun hHeld => ?_)
          clear hK K
          refine norm_ (a' := ?_) ?_ ?_
          rotate_left
          · show Act.put _ (some 44) _ = _
            simp only [Act.put, List.setIfInBounds_toArray, List.set_cons_zero, List.set_cons_succ, i64_w, i32_w]
            rfl
          refine pure_ (i := 9) (N := some 2) (v := ?_) (a' := ?_) #[true, true, true, true, true, true, true, true, true, true, false, false] rfl rfl (by kernel_rfl) (fun _ _ _ h => h) (Or.inl ⟨by rfl, ?_⟩) ?_ ?_
          rotate_left
          · intro w'
            go_simp
            with_reducible rfl
          rotate_left
          · simp only [Act.put, List.setIfInBounds_toArray, List.set_cons_zero, List.set_cons_succ, i64_w, i32_w]
            rfl
          refine pure_ (i := 10) (N := some 3) (v := ?_) (a' := ?_) #[true, true, true, true, true, true, true, true, true, true, true, false] rfl rfl (by kernel_rfl) (fun _ _ _ h => h) (Or.inl ⟨by rfl, ?_⟩) ?_ ?_
          rotate_left
          · intro w'
            go_simp
            with_reducible rfl
          rotate_left
          · simp only [Act.put, List.setIfInBounds_toArray, List.set_cons_zero, List.set_cons_succ, i64_w, i32_w]
            rfl
          refine pure_ (i := 11) (N := some 4) (v := ?_) (a' := ?_) #[true, true, true, true, true, true, true, true, true, true, true, true] rfl rfl (by kernel_rfl) (fun _ _ _ h => h) (Or.inl ⟨by rfl, ?_⟩) ?_ ?_
          rotate_left
          · intro w'
            go_simp
            with_reducible rfl
          rotate_left
          · simp only [Act.put, List.setIfInBounds_toArray, List.set_cons_zero, List.set_cons_succ, i64_w, i32_w]
            rfl
          refine done_ (by kernel_rfl) ?_
          go_wp2_with fail
          go_ret3
          exact ⟨_, by rw [HF.out, ← HP9.out]; rfl, by rw [HF.out]; exact R_empty k35 35 _ _ hbs, below_alloc hBe _⟩
        · obtain rfl : q1 = 0 := by simpa using hz
          have HK1 := Lib.hid (HK.out.trans (if_neg (by decide)))
          have hpl0 : pl = 0 := HPL.out.symm.trans (if_pos rfl)
          rw [hpl0] at S
          clear HK hz HPL hpl0 pl
          have hq0 := hP2.a0
          by_cases hend : (s.size : Int) ≤ q2
          · have he : q2 = (s.size : Int) := by have := hP2.a1; omega
            have HF := Lib.hid (HR.out.symm.trans (HK1.out.trans (if_pos hend)))
            have q9 : (q2 == (s.size : Int)) = true := by simpa using he
            clear HK1 HR
            go_wp2_with fail
            go_quiet (fail)
            clear g0 g1
            have g4 := S.out.1.cell 4
            simp only [List.getElem?_toArray, List.getElem?_cons_succ, List.getElem?_cons_zero] at g4
            go_wp2_with fail
            go_ret3
            exact ⟨_, by rw [HF.out]; rfl, by rw [HF.out]; exact Kd.R_mono S.out.2.1 (fun _ _ => trivial), pw_below_drewN S.out.2.2 _⟩
          · have he : ¬ q2 = (s.size : Int) := by omega
            have hlt2 : q2 < (s.size : Int) := by omega
            have q9 : (q2 == (s.size : Int)) = false := by simpa using he
            clear HK1
            obtain ⟨Q, hQ⟩ : ∃ Q, lexT s q2 q3 q4 out.length = Q := ⟨_, rfl⟩
            have HS := Lib.hid (lexT_step s k x y z out q2 q3 q4 Q hq hlt2 hlen hQ)
            have hpos := lexR_pos s 1 q2 q3 q4 (by omega) hP2 hlt2
            have hlq := lexT_len s q2 q3 q4 out.length hlen
            rw [hQ] at hlq
            go_wp2_with fail
            go_quiet (fail)
            clear g0 g1 g5
            go_wp2_with fail
            with_reducible refine (lexSpecC b s q2 q3 q4 1 V 0 out _ w (S.out.below (pw_below_drewN (Below.refl _ _) _)) hP2 hlt2 hbb hs (by omega) hlen Q hQ).mono ?_
            rintro e v2 ⟨rfl, hS9⟩
            have S9 := Lib.hid hS9
            clear hS9 S hQ hq
            go_wp2_with fail
            go_roundw
            case rel =>
              rcases S9.out with ⟨h0, V9, hS9⟩ | ⟨h0, hS9⟩
              · obtain ⟨hl1, hl2⟩ := hlq h0
                rw [← hl2] at hpos
                have hp := hpos h0
                refine ⟨k, Q.2.2.2.1, Q.2.2.2.2.1, Q.2.2.2.2.2, V9, 0, 0, out ++ [Q.2.2.1], hp.1, ?_, hS9, ?_, .inl ⟨rfl, rfl, ?_⟩⟩
                · have := hp.2; omega
                · rw [List.length_append, List.length_singleton]; omega
                · have e := HS.out
                  rw [if_neg (by rw [h0]; decide)] at e
                  exact e.symm.trans HR.out
              · refine ⟨k + 1, q2, q3, q4, _, Q.1, Q.2.1, out, hP2, by omega, hS9, hlen, .inr ⟨h0, ?_⟩⟩
                have e := HS.out
                rw [if_pos h0] at e
                exact e.symm.trans HR.out
            case measure =>
              have ec : codeOf b wr = 1 := by have := cod0.out; simpa using this
              have ep := pos0.out
              rw [ec, ep]
              rcases S9.out with ⟨h0, V9, hS9⟩ | ⟨h0, hS9⟩
              · obtain ⟨hl1, hl2⟩ := hlq h0
                rw [← hl2] at hpos
                have hp := hpos h0
                rw [posOf_ls hS9.1, codeOf_ls hS9.1, if_pos rfl]
                have := hp.2
                have := hp.1.a1
                omega
              · rw [posOf_ls hS9.1, codeOf_ls hS9.1, if_neg h0]
                omega
      · have HF := Lib.hid hR.symm
        have hcd2 : (cd == 0) = false := by simpa using hcd
        have m1 : (cd != 0) = true := by rw [bne, hcd2]; rfl
        have g5 := S.out.1.cell 5
        simp only [List.getElem?_toArray, List.getElem?_cons_succ, List.getElem?_cons_zero] at g5
        clear hR
        go_wp2_with fail
        clear g5
        have hlt : b < wr.drew.heap.size := S.out.1.lt
        have hbs := S.out.2.2.size
        have u5 : wr.drew.cell? ⟨b, 5, none⟩ = some (.int .i64 cd) := S.out.1.cell 5
        have u6 : wr.drew.cell? ⟨b, 6, none⟩ = some (.int .i64 bd) := S.out.1.cell 6
        have hab := (Below.refl wr.drew.heap.size wr.drew).alloc (Nat.le_refl _) (.cells #[] 35)
        have hBe : Below w.heap.size w wr.drew := below_drew1 S.out.2.2
        have f5 := (hab.cell (p := ⟨b, 5, none⟩) hlt).trans u5; have f6 := (hab.cell (p := ⟨b, 6, none⟩) hlt).trans u6
        refine start_ (n := 12) (S := fun w' => w'.cell? ⟨b, 5, none⟩ = some (.int .i64 cd) ∧ w'.cell? ⟨b, 6, none⟩ = some (.int .i64 bd)) (ds := []) #[false, false, false, false, false, false, false, false, false, false, false, false] (by kernel_rfl) rfl rfl ⟨u5, u6⟩ (fun hHeld => ?_)
        refine pure_ (i := 1) (N := some 45) (v := ?_) (a' := ?_) #[false, true, false, false, false, false, false, false, false, false, false, false] rfl rfl (by kernel_rfl) (fun _ _ _ h => h) (Or.inl ⟨by rfl, ?_⟩) ?_ ?_
        rotate_left
        · intro w'
          go_simp
          with_reducible rfl
        rotate_left
        · simp only [Act.put, List.setIfInBounds_toArray, List.set_cons_zero, List.set_cons_succ, i64_w, i32_w]
          rfl
        refine pure_ (i := 2) (N := some 46) (v := ?_) (a' := ?_) #[false, true, true, false, false, false, false, false, false, false, false, false] rfl rfl (by kernel_rfl) (fun _ _ _ h => h) (Or.inl ⟨by rfl, ?_⟩) ?_ ?_
        rotate_left
        · intro w'
          go_simp
          with_reducible rfl
        rotate_left
        · simp only [Act.put, List.setIfInBounds_toArray, List.set_cons_zero, List.set_cons_succ, i64_w, i32_w]
          rfl
        refine pure_ (i := 3) (N := some 47) (v := ?_) (a' := ?_) #[false, true, true, true, false, false, false, false, false, false, false, false] rfl rfl (by kernel_rfl) (fun _ _ _ h => h) (Or.inl ⟨by rfl, ?_⟩) ?_ ?_
        rotate_left
        · intro w'
          go_simp
          with_reducible rfl
        rotate_left
        · simp only [Act.put, List.setIfInBounds_toArray, List.set_cons_zero, List.set_cons_succ, i64_w, i32_w]
          rfl
        refine pure_ (i := 5) (N := some 49) (v := ?_) (a' := ?_) #[false, true, true, true, false, true, false, false, false, false, false, false] rfl rfl (by kernel_rfl) (fun _ _ _ h => h) (Or.inl ⟨by rfl, ?_⟩) ?_ ?_
        rotate_left
        · intro w'
          go_simp
          with_reducible rfl
        rotate_left
        · simp only [Act.put, List.setIfInBounds_toArray, List.set_cons_zero, List.set_cons_succ, i64_w, i32_w]
          rfl
        refine pure_ (i := 6) (N := some 50) (v := ?_) (a' := ?_) #[false, true, true, true, false, true, true, false, false, false, false, false] rfl rfl (by kernel_rfl) (fun _ _ _ h => h) (Or.inl ⟨by rfl, ?_⟩) ?_ ?_
        rotate_left
        · intro w'
          go_simp
          with_reducible rfl
        rotate_left
        · simp only [Act.put, List.setIfInBounds_toArray, List.set_cons_zero, List.set_cons_succ, i64_w, i32_w]
          rfl
        refine pure_ (i := 7) (N := some 51) (v := ?_) (a' := ?_) #[false, true, true, true, false, true, true, true, false, false, false, false] rfl rfl (by kernel_rfl) (fun _ _ _ h => h) (Or.inl ⟨by rfl, ?_⟩) ?_ ?_
        rotate_left
        · intro w'
          go_simp
          with_reducible rfl
        rotate_left
        · simp only [Act.put, List.setIfInBounds_toArray, List.set_cons_zero, List.set_cons_succ, i64_w, i32_w]
          rfl
        refine take_ (i := 4) (N := some 48) (v := ?_) (a' := ?_) #[false, true, true, true, true, true, true, true, false, false, false, false] rfl rfl (by kernel_rfl) (fun _ _ _ h => h) (Or.inl ⟨by rfl, ?_⟩) hHeld ?_ ?_
        rotate_left
        · rintro w' ⟨s0, s1⟩
          go_simp
          with_reducible rfl
        rotate_left
        · simp only [Act.put, List.setIfInBounds_toArray, List.set_cons_zero, List.set_cons_succ, i64_w, i32_w]
          rfl
        refine take_ (i := 8) (N := some 52) (v := ?_) (a' := ?_) #[false, true, true, true, true, true, true, true, true, false, false, false] rfl rfl (by kernel_rfl) (fun _ _ _ h => h) (Or.inl ⟨by rfl, ?_⟩) hHeld ?_ ?_
        rotate_left
        · rintro w' ⟨s0, s1⟩
          go_simp
          with_reducible rfl
        rotate_left
        · simp only [Act.put, List.setIfInBounds_toArray, List.set_cons_zero, List.set_cons_succ, i64_w, i32_w]
          rfl
        refine one_ (i := 0) (N := some 44) #[true, true, true, true, true, true, true, true, true, false, false, false] rfl rfl (by kernel_rfl) (by decide) (fun K hK => ?_)
        refine value_ (w1 := ?_) (v := ?_) (by rfl) rfl ?_ ?_
        rotate_left 2
        · go_simp
          constructor
          · rfl
          · rfl
        refine hK.out _ _ ⟨f5, f6⟩ (fun hHeld => ?_)
        clear hK K
        refine norm_ (a' := ?_) ?_ ?_
        rotate_left
        · show Act.put _ (some 44) _ = _
          simp only [Act.put, List.setIfInBounds_toArray, List.set_cons_zero, List.set_cons_succ, i64_w, i32_w]
          rfl
        refine pure_ (i := 9) (N := some 2) (v := ?_) (a' := ?_) #[true, true, true, true, true, true, true, true, true, true, false, false] rfl rfl (by kernel_rfl) (fun _ _ _ h => h) (Or.inl ⟨by rfl, ?_⟩) ?_ ?_
        rotate_left
        · intro w'
          go_simp
          with_reducible rfl
        rotate_left
        · simp only [Act.put, List.setIfInBounds_toArray, List.set_cons_zero, List.set_cons_succ, i64_w, i32_w]
          rfl
        refine pure_ (i := 10) (N := some 3) (v := ?_) (a' := ?_) #[true, true, true, true, true, true, true, true, true, true, true, false] rfl rfl (by kernel_rfl) (fun _ _ _ h => h) (Or.inl ⟨by rfl, ?_⟩) ?_ ?_
        rotate_left
        · intro w'
          go_simp
          with_reducible rfl
        rotate_left
        · simp only [Act.put, List.setIfInBounds_toArray, List.set_cons_zero, List.set_cons_succ, i64_w, i32_w]
          rfl
        refine pure_ (i := 11) (N := some 4) (v := ?_) (a' := ?_) #[true, true, true, true, true, true, true, true, true, true, true, true] rfl rfl (by kernel_rfl) (fun _ _ _ h => h) (Or.inl ⟨by rfl, ?_⟩) ?_ ?_
        rotate_left
        · intro w'
          go_simp
          with_reducible rfl
        rotate_left
        · simp only [Act.put, List.setIfInBounds_toArray, List.set_cons_zero, List.set_cons_succ, i64_w, i32_w]
          rfl
        refine done_ (by kernel_rfl) ?_
        go_wp2_with fail
        go_ret3
        exact ⟨_, by rw [HF.out]; rfl, by rw [HF.out]; exact R_empty k35 35 _ _ hbs, below_alloc hBe _⟩
  · have hQ : tokR s = (2, 0, []) := by unfold tokR; rw [hL]; rfl
    rw [hQ]
    have hl := hL
    rw [tooS] at hl
    clear hQ hL
    go_enter Tryd.func14, Tryd.ntmps14
    go_wp2_with fail
    go_ret3
    exact ⟨_, rfl, R_empty k35 35 _ _ (Nat.le_refl _), below_alloc (Below.refl _ _) _⟩
end Go.Proofs.YtgiaogocdihhhaaDoor.Tex
