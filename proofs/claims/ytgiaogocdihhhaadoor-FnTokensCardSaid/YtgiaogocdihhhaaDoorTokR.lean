/- Tokens: the specification's number. -/
import Derived.Test.YtgiaogocdihhhaaDoorTokQ
namespace Go.Proofs.YtgiaogocdihhhaaDoor.Tex
open Go.RowKit Go.Proofs.YtgiaogocdihhhaaDoorW.PrintWords Go.Proofs.YtgiaogocdihhhaaDoorW.PrintLast Go.Proofs.YtgiaogocdihhhaaDoorW.PrintMore Go.Proofs.YtgiaogocdihhhaaDoor.PFnExactTokens
set_option linter.unusedVariables false
set_option linter.unusedSimpArgs false
/-- The scanner with its row of lexemes. -/
def St (w0 w : World) (b : Nat) (s : ByteArray) (a l c : Int) (V : Value) (cd bd : Int) (out : List S35) : Prop := Ls w b s a l c V cd bd ∧ k35.R 35 w w0.heap.size (fun k => k ≠ b) V out ∧ Below w0.heap.size w0 w
theorem St.below {w0 w w' : World} {b : Nat} {s : ByteArray} {a l c : Int} {V : Value} {cd bd : Int} {out : List S35} (h : St w0 w b s a l c V cd bd out) (hb : Below w.heap.size w w') : St w0 w' b s a l c V cd bd out := ⟨h.1.below hb, Kd.R_below h.2.1 hb, below_step h.2.2 hb⟩
theorem St.upd {w0 w w' : World} {b : Nat} {s : ByteArray} {a l c a1 l1 c1 : Int} {V : Value} {cd bd cd1 bd1 : Int} {out : List S35} (h : St w0 w b s a l c V cd bd out) (hbb : w0.heap.size ≤ b) (hu : Upd b w w') (h1 : Ls w' b s a1 l1 c1 V cd1 bd1) : St w0 w' b s a1 l1 c1 V cd1 bd1 out :=
  ⟨h1, Kd.R_step h.2.1 (fun i ho hlt => hu.2.2 i hlt ho), h.2.2.trans (hu.1.mono hbb)⟩
theorem failS {w0 w : World} {b : Nat} {s : ByteArray} {a l c : Int} {V : Value} {bd : Int} {out : List S35} (h : St w0 w b s a l c V 0 bd out) (hbb : w0.heap.size ≤ b) (x y : Int) :
    Calls Tryd.prog 43 #[.pointer (some ⟨b, 0, none⟩), .int .i64 x, .int .i64 y] w fun e w' => e = .returned (.tuple #[]) ∧ St w0 w' b s a l c V x y out :=
  (failC b s a l c V 0 bd x y w h.1).mono fun e w' ⟨h1, h2, h3⟩ => ⟨h1, h.upd hbb h3 h2⟩
theorem takeS {w0 w : World} {b : Nat} {s : ByteArray} {a l c m : Int} {V : Value} {cd bd : Int} {out : List S35} (h : St w0 w b s a l c V cd bd out) (hP : Pos s m a l c) (hbb : w0.heap.size ≤ b) (kd e nu : Int) (T : ByteArray) (hs : s.size ≤ 1048576) (hm : 1 ≤ m ∧ m ≤ 1073741824) (hlen : out.length ≤ 20000) (he : e ≤ (s.size : Int)) (n : Nat) (hn : s.size < n + a.toNat) (R : Int × Int × Int) (hR : upTo s e n a l c = R) :
    Calls Tryd.prog 47 #[.pointer (some ⟨b, 0, none⟩), .int .i64 kd, .int .i64 e, .string T, .int .i64 nu] w fun x w' => x = .returned (.tuple #[]) ∧ ∃ V', St w0 w' b s R.1 R.2.1 R.2.2 V' cd bd (out ++ [⟨kd, T, nu, a, l, c⟩]) :=
  takeC b s a l c m V cd bd kd e nu T out w w0 h.1 hP h.2.1 h.2.2 hbb hs hm hlen he n hn R hR
/-- What a lexeme leaves: a code, or one lexeme more. -/
def StR (w0 w : World) (b : Nat) (s : ByteArray) (a l c : Int) (V : Value) (bd : Int) (out : List S35) (Q : Int × Int × S35 × Int × Int × Int) : Prop :=
  (Q.1 = 0 ∧ ∃ V', St w0 w b s Q.2.2.2.1 Q.2.2.2.2.1 Q.2.2.2.2.2 V' 0 bd (out ++ [Q.2.2.1])) ∨ (Q.1 ≠ 0 ∧ St w0 w b s a l c V Q.1 Q.2.1 out)
def dend (s : ByteArray) : Nat → Int → Int
  | 0, x => x
  | n + 1, x => if digB (rE s x) = true then dend s n (x + 1) else x
theorem run_dend (s : ByteArray) : ∀ n a l c, 0 ≤ a → (run s digB n a l c).1 = dend s n a
  | 0, a, l, c, _ => rfl
  | n + 1, a, l, c, h0 => by
    by_cases hh : digB (rE s a) = true
    · have hd := dig_byte s a h0 hh
      rw [run, if_pos hh, dend, if_pos hh, run_dend s n _ _ _ (by omega), hd.2.2.2.2]
    · rw [run, if_neg hh, dend, if_neg hh]
theorem dig_rE (s : ByteArray) (x : Int) (h0 : 0 ≤ x) (h : x < (s.size : Int)) : digB (rE s x) = digB (bt s x) := by
  rw [Bool.eq_iff_iff]
  constructor
  · intro hh
    rw [(dig_byte s x h0 hh).2.1]
    exact hh
  · intro hh
    have hb : 48 ≤ bt s x ∧ bt s x ≤ 57 := by simpa [digB] using hh
    have := ascii_at s x 0 0 h0 h (by omega) (by omega)
    rw [rE, if_pos h, this.1]
    exact hh
set_option maxHeartbeats 8000000 in
set_option maxRecDepth 100000 in
theorem numberC (b : Nat) (s : ByteArray) (a l c m : Int) (V : Value) (bd : Int) (out : List S35) (w w0 : World) (hS : St w0 w b s a l c V 0 bd out) (hP : Pos s m a l c) (h : a < (s.size : Int)) (hD : digB (rI s a) = true) (hbb : w0.heap.size ≤ b) (hs : s.size ≤ 1048576) (hm : 1 ≤ m ∧ m ≤ 1073741824) (hlen : out.length ≤ 20000) (n : Nat) (hn : s.size < n + a.toNat) (R : Int × Int × Int) (hR : run s digB n a l c = R) :
    Calls Tryd.prog 49 #[.pointer (some ⟨b, 0, none⟩)] w fun e w' => e = .returned (.tuple #[]) ∧ StR w0 w' b s a l c V bd out ((numE s a R.1).1, (numE s a R.1).2, ⟨2, s.extract a.toNat R.1.toNat, numV (s.extract a.toNat R.1.toNat), a, l, c⟩, R.1, R.2.1, R.2.2) := by
  have eRa : rE s a = rI s a := by unfold rE; rw [if_pos h]
  have h0 := hP.a0
  have HR1 := Lib.hid (show a + 1 ≤ R.1 by rw [← hR]; exact run_dig1 s n a l c h0 (by rw [eRa]; exact hD) hn)
  have HDG := Lib.hid (show ∀ i, a ≤ i → i < R.1 → 48 ≤ bt s i ∧ bt s i ≤ 57 by rw [← hR]; exact run_dig s n a l c h0 (by omega))
  have HUP := Lib.hid (show upTo s R.1 n a l c = R by rw [← hR]; exact upTo_run s digB (by decide) n a l c h0 (by omega))
  have HRD := Lib.hid (show dend s n a = R.1 by rw [← hR]; exact (run_dend s n a l c h0).symm)
  have HN := Lib.hid hn
  clear hR eRa hD
  have P := Lib.hid hP; have S := Lib.hid hS
  clear hP hS
  have g1 := S.out.1.cell 1
  simp only [List.getElem?_toArray, List.getElem?_cons_succ, List.getElem?_cons_zero] at g1
  go_enter Tryd.func49, Tryd.ntmps49
  go_wp2_with fail
  clear g1
  go_loopw [2] (fun v wr => ∃ (n : Nat) (x : Int), v = .int .i64 x ∧ a ≤ x ∧ x ≤ (s.size : Int) ∧ s.size < n + x.toNat ∧ St w0 wr b s a l c V 0 bd out ∧ dend s n x = R.1) (fun v _ => s.size - (intOf v).toNat)
  case atStart => exact ⟨n, a, rfl, Int.le_refl _, by omega, hn, S.out, HRD.out⟩
  case round =>
    clear S HRD
    obtain ⟨n2, x, rfl, hx0, hxs, hn, hS, hRD⟩ := hrel
    have S := Lib.hid hS; have HRD := Lib.hid hRD
    clear hS hRD
    obtain ⟨k, rfl⟩ : ∃ k, n2 = k + 1 := ⟨n2 - 1, by omega⟩
    have HRX := Lib.hid (show dend s (k + 1) x = if digB (rE s x) = true then dend s k (x + 1) else x from rfl)
    have g0 := S.out.1.cell 0
    simp only [List.getElem?_toArray, List.getElem?_cons_succ, List.getElem?_cons_zero] at g0
    have h00 := eq_true (show 0 ≤ x by omega)
    by_cases hlt : x < (s.size : Int)
    · have p1 := eq_true hlt; have p2 := decide_eq_true hlt; have p3 := eq_true (show x.toNat < s.size by omega)
      have xb := bt_at s x
      have hE := dig_rE s x (by omega) hlt
      obtain ⟨B, hB⟩ : ∃ B, bt s x = B := ⟨_, rfl⟩
      rw [hB] at xb hE
      have hbr := bt_range s x
      rw [hB] at hbr
      have pw : IntKind.wrap .i64 B = B := i64_ok (by omega) (by omega)
      clear hB
      have xb1 : ∀ h : x.toNat < s.size, (((s[x.toNat]'h).toNat : Nat) : Int) = B := fun h => xb h
      clear xb
      rcases hd : digB B with _ | _
      · have HF := Lib.hid ((HRX.out.trans (if_neg (by rw [hE, hd]; decide))).symm.trans HRD.out)
        clear HRX HRD hE
        go_wp2_with fail
        refine (sdigitC B _).mono ?_
        rintro e v1 ⟨rfl, hb⟩
        rw [hd]
        have S2 := Lib.hid (S.out.below hb)
        clear S hb g0 xb1 pw
        have S := S2
        clear S2
        go_wp2_with fail
        have g0 := S.out.1.cell 0; have g1 := S.out.1.cell 1
        simp only [List.getElem?_toArray, List.getElem?_cons_succ, List.getElem?_cons_zero] at g0 g1
        have hax := eq_true hx0; have hxx := eq_true hxs; have ha0 := eq_true h0
        go_quiet (fail)
        clear g0 g1 hax hxx ha0
        generalize hE : World.drewN v1 nq = E
        have S2 := Lib.hid (S.out.below (show Below _ _ E by rw [← hE]; exact pw_below_drewN (Below.refl _ _) _))
        clear S hE
        have S := S2
        clear S2
        have hx1 : a + 1 ≤ x := by have := HR1.out; rw [← HF.out] at this; exact this
        have hdg : ∀ i, a ≤ i → i < x → 48 ≤ bt s i ∧ bt s i ≤ 57 := by have := HDG.out; rw [← HF.out] at this; exact this
        have hz : ((s.extract a.toNat x.toNat).size : Int) = x - a := by rw [ByteArray.size_extract]; omega
        have hDG := digs_sub s a x h0 hxs hdg
        have hb0 : bt (s.extract a.toNat x.toNat) 0 = bt s a := by have := bt_sub s a.toNat x.toNat 0 (by omega) (by omega); rw [show ((0 : Nat) : Int) = 0 from rfl, show ((a.toNat + 0 : Nat) : Int) = a by omega] at this; exact this
        obtain ⟨T, hTT⟩ : ∃ T, s.extract a.toNat x.toNat = T := ⟨_, rfl⟩
        rw [hTT] at hz hDG hb0
        try rw [hTT]
        have HTT := Lib.hid hTT
        clear hTT hdg
        have xb := bt_at T 0
        rw [hb0] at xb
        obtain ⟨B0, hB0⟩ : ∃ B0, bt s a = B0 := ⟨_, rfl⟩
        rw [hB0] at xb
        have xb0 : ∀ h : 0 < T.size, (((T[0]'h).toNat : Nat) : Int) = B0 := fun h => xb h
        clear xb
        have HDG9 := Lib.hid hDG; have HB0 := Lib.hid hb0; have HB1 := Lib.hid hB0
        clear hDG hb0 hB0
        have HLT := Lib.hid (show letB (rE s x) = letB (rI s x) by unfold rE; rw [if_pos hlt])
        obtain ⟨LB, hLB⟩ : ∃ LB, letB (rI s x) = LB := ⟨_, rfl⟩
        rw [hLB] at HLT
        have g0 := S.out.1.cell 0
        simp only [List.getElem?_toArray, List.getElem?_cons_succ, List.getElem?_cons_zero] at g0
        go_wp2_with fail
        refine (l01RuneC s x _ (by omega) hlt (by omega)).mono ?_
        rintro e9 v2 ⟨rfl, hb⟩
        have S2 := Lib.hid (S.out.below hb)
        clear S hb g0
        have S := S2
        clear S2
        go_wp2_with fail
        refine (sletterC (rI s x) _).mono ?_
        rintro e9 v3 ⟨rfl, hb⟩
        rw [hLB]
        have S2 := Lib.hid (S.out.below hb)
        clear S hb hLB
        have S := S2
        clear S2
        have g1 := S.out.1.cell 1
        simp only [List.getElem?_toArray, List.getElem?_cons_succ, List.getElem?_cons_zero] at g1
        by_cases h18 : (18 : Int) < (T.size : Int)
        · have q := decide_eq_true h18
          have HE := Lib.hid (show numE s a x = (9, a) by unfold numE; rw [if_pos (by omega)])
          go_wp2_with fail
          clear g1
          refine (failS S.out hbb 9 a).mono ?_
          rintro e9 w9 ⟨rfl, hS9⟩
          have S9 := Lib.hid hS9
          clear hS9
          go_wp2_with fail
          go_end0
          rw [← HF.out]
          exact ⟨rfl, .inr ⟨by show (numE s a x).1 ≠ 0; rw [HE.out]; show (9 : Int) ≠ 0; decide, by show St w0 w9 b s a l c V (numE s a x).1 (numE s a x).2 out; rw [HE.out]; exact S9.out⟩⟩
        · have q := decide_eq_false h18
          by_cases h1 : (1 : Int) < (T.size : Int)
          · have q1 := decide_eq_true h1; have hp := eq_true (show (0 : Int) < (T.size : Int) by omega); have hp2 := eq_true (show 0 < T.size by omega)
            rcases k48 : (B0 == 48) with _ | _
            · have hB48 : ¬ B0 = 48 := by simpa using k48
              rcases LB with _ | _
              · skip
                have HE := Lib.hid (show numE s a x = (0, 0) by unfold numE; rw [if_neg (by omega), if_neg (fun hh => hB48 (by rw [← HB1.out]; exact hh.2)), if_neg (by rw [HLT.out]; decide)])
                have hsz18 : T.size ≤ 18 := by omega
                have hsz1 : 1 ≤ T.size := by omega
                have hcN := fun V => snumC T V HDG9.out hsz1 hsz18 (Or.inr (by rw [HB0.out, HB1.out]; exact hB48))
                go_wp2_with fail
                clear g1
                refine (hcN _).mono ?_
                rintro e9 v5 ⟨rfl, hb⟩
                have S2 := Lib.hid (S.out.below hb)
                clear S hb
                have S := S2
                clear S2
                go_wp2_with fail
                refine (takeS S.out P.out hbb 2 x (numV T) T hs hm hlen hxs n HN.out R (by rw [HF.out]; exact HUP.out)).mono ?_
                rintro e9 w9 ⟨rfl, V9, hS9⟩
                have S9 := Lib.hid hS9
                clear hS9
                go_wp2_with fail
                go_end0
                refine ⟨rfl, .inl ⟨by show (numE s a R.1).1 = 0; rw [← HF.out, HE.out], V9, ?_⟩⟩
                rw [← HTT.out, HF.out] at S9
                exact S9.out
              · skip
                have HE := Lib.hid (show numE s a x = (4, x) by unfold numE; rw [if_neg (by omega), if_neg (fun hh => hB48 (by rw [← HB1.out]; exact hh.2)), if_pos HLT.out])
                go_wp2_with fail
                clear g1
                refine (failS S.out hbb 4 x).mono ?_
                rintro e9 w9 ⟨rfl, hS9⟩
                have S9 := Lib.hid hS9
                clear hS9
                go_wp2_with fail
                go_end0
                rw [← HF.out]
                exact ⟨rfl, .inr ⟨by show (numE s a x).1 ≠ 0; rw [HE.out]; show (4 : Int) ≠ 0; decide, by show St w0 w9 b s a l c V (numE s a x).1 (numE s a x).2 out; rw [HE.out]; exact S9.out⟩⟩
            · have HE := Lib.hid (show numE s a x = (4, a) by unfold numE; rw [if_neg (by omega), if_pos ⟨by omega, by rw [HB1.out]; simpa using k48⟩])
              go_wp2_with fail
              clear g1
              refine (failS S.out hbb 4 a).mono ?_
              rintro e9 w9 ⟨rfl, hS9⟩
              have S9 := Lib.hid hS9
              clear hS9
              go_wp2_with fail
              go_end0
              rw [← HF.out]
              exact ⟨rfl, .inr ⟨by show (numE s a x).1 ≠ 0; rw [HE.out]; show (4 : Int) ≠ 0; decide, by show St w0 w9 b s a l c V (numE s a x).1 (numE s a x).2 out; rw [HE.out]; exact S9.out⟩⟩
          · have q1 := decide_eq_false h1; have hp := eq_true (show (0 : Int) < (T.size : Int) by omega); have hp2 := eq_true (show 0 < T.size by omega)
            rcases k48 : (B0 == 48) with _ | _
            · skip
              rcases LB with _ | _
              · skip
                have HE := Lib.hid (show numE s a x = (0, 0) by unfold numE; rw [if_neg (by omega), if_neg (fun hh => by omega), if_neg (by rw [HLT.out]; decide)])
                have hsz18 : T.size ≤ 18 := by omega
                have hsz1 : 1 ≤ T.size := by omega
                have hcN := fun V => snumC T V HDG9.out hsz1 hsz18 (Or.inl (by omega))
                go_wp2_with fail
                clear g1
                refine (hcN _).mono ?_
                rintro e9 v5 ⟨rfl, hb⟩
                have S2 := Lib.hid (S.out.below hb)
                clear S hb
                have S := S2
                clear S2
                go_wp2_with fail
                refine (takeS S.out P.out hbb 2 x (numV T) T hs hm hlen hxs n HN.out R (by rw [HF.out]; exact HUP.out)).mono ?_
                rintro e9 w9 ⟨rfl, V9, hS9⟩
                have S9 := Lib.hid hS9
                clear hS9
                go_wp2_with fail
                go_end0
                refine ⟨rfl, .inl ⟨by show (numE s a R.1).1 = 0; rw [← HF.out, HE.out], V9, ?_⟩⟩
                rw [← HTT.out, HF.out] at S9
                exact S9.out
              · skip
                have HE := Lib.hid (show numE s a x = (4, x) by unfold numE; rw [if_neg (by omega), if_neg (fun hh => by omega), if_pos HLT.out])
                go_wp2_with fail
                clear g1
                refine (failS S.out hbb 4 x).mono ?_
                rintro e9 w9 ⟨rfl, hS9⟩
                have S9 := Lib.hid hS9
                clear hS9
                go_wp2_with fail
                go_end0
                rw [← HF.out]
                exact ⟨rfl, .inr ⟨by show (numE s a x).1 ≠ 0; rw [HE.out]; show (4 : Int) ≠ 0; decide, by show St w0 w9 b s a l c V (numE s a x).1 (numE s a x).2 out; rw [HE.out]; exact S9.out⟩⟩
            · skip
              rcases LB with _ | _
              · skip
                have HE := Lib.hid (show numE s a x = (0, 0) by unfold numE; rw [if_neg (by omega), if_neg (fun hh => by omega), if_neg (by rw [HLT.out]; decide)])
                have hsz18 : T.size ≤ 18 := by omega
                have hsz1 : 1 ≤ T.size := by omega
                have hcN := fun V => snumC T V HDG9.out hsz1 hsz18 (Or.inl (by omega))
                go_wp2_with fail
                clear g1
                refine (hcN _).mono ?_
                rintro e9 v5 ⟨rfl, hb⟩
                have S2 := Lib.hid (S.out.below hb)
                clear S hb
                have S := S2
                clear S2
                go_wp2_with fail
                refine (takeS S.out P.out hbb 2 x (numV T) T hs hm hlen hxs n HN.out R (by rw [HF.out]; exact HUP.out)).mono ?_
                rintro e9 w9 ⟨rfl, V9, hS9⟩
                have S9 := Lib.hid hS9
                clear hS9
                go_wp2_with fail
                go_end0
                refine ⟨rfl, .inl ⟨by show (numE s a R.1).1 = 0; rw [← HF.out, HE.out], V9, ?_⟩⟩
                rw [← HTT.out, HF.out] at S9
                exact S9.out
              · skip
                have HE := Lib.hid (show numE s a x = (4, x) by unfold numE; rw [if_neg (by omega), if_neg (fun hh => by omega), if_pos HLT.out])
                go_wp2_with fail
                clear g1
                refine (failS S.out hbb 4 x).mono ?_
                rintro e9 w9 ⟨rfl, hS9⟩
                have S9 := Lib.hid hS9
                clear hS9
                go_wp2_with fail
                go_end0
                rw [← HF.out]
                exact ⟨rfl, .inr ⟨by show (numE s a x).1 ≠ 0; rw [HE.out]; show (4 : Int) ≠ 0; decide, by show St w0 w9 b s a l c V (numE s a x).1 (numE s a x).2 out; rw [HE.out]; exact S9.out⟩⟩
      · have HF := Lib.hid ((HRX.out.trans (if_pos (by rw [hE, hd]))).symm.trans HRD.out)
        clear HRX HRD hE
        go_wp2_with fail
        refine (sdigitC B _).mono ?_
        rintro e v1 ⟨rfl, hb⟩
        rw [hd]
        have S2 := Lib.hid (S.out.below hb)
        clear S hb g0 xb1 pw
        have pw : IntKind.wrap .i64 (x + 1) = x + 1 := i64_ok (by omega) (by omega)
        go_wp2_with fail
        go_roundw
        case measure => simp only [intOf]; omega
        case rel => exact ⟨k, x + 1, rfl, by omega, by omega, by omega, S2.out, HF.out⟩
    · have p1 := eq_false hlt; have p2 := decide_eq_false hlt
      have HF := Lib.hid ((HRX.out.trans (if_neg (by unfold rE; rw [if_neg hlt]; decide))).symm.trans HRD.out)
      clear HRX HRD
      go_wp2_with fail
      clear g0
      have g0 := S.out.1.cell 0; have g1 := S.out.1.cell 1
      simp only [List.getElem?_toArray, List.getElem?_cons_succ, List.getElem?_cons_zero] at g0 g1
      have hax := eq_true hx0; have hxx := eq_true hxs; have ha0 := eq_true h0
      go_quiet (fail)
      clear g0 g1 hax hxx ha0
      generalize hE : World.drewN wr nq = E
      have S2 := Lib.hid (S.out.below (show Below _ _ E by rw [← hE]; exact pw_below_drewN (Below.refl _ _) _))
      clear S hE
      have S := S2
      clear S2
      have hx1 : a + 1 ≤ x := by have := HR1.out; rw [← HF.out] at this; exact this
      have hdg : ∀ i, a ≤ i → i < x → 48 ≤ bt s i ∧ bt s i ≤ 57 := by have := HDG.out; rw [← HF.out] at this; exact this
      have hz : ((s.extract a.toNat x.toNat).size : Int) = x - a := by rw [ByteArray.size_extract]; omega
      have hDG := digs_sub s a x h0 hxs hdg
      have hb0 : bt (s.extract a.toNat x.toNat) 0 = bt s a := by have := bt_sub s a.toNat x.toNat 0 (by omega) (by omega); rw [show ((0 : Nat) : Int) = 0 from rfl, show ((a.toNat + 0 : Nat) : Int) = a by omega] at this; exact this
      obtain ⟨T, hTT⟩ : ∃ T, s.extract a.toNat x.toNat = T := ⟨_, rfl⟩
      rw [hTT] at hz hDG hb0
      try rw [hTT]
      have HTT := Lib.hid hTT
      clear hTT hdg
      have xb := bt_at T 0
      rw [hb0] at xb
      obtain ⟨B0, hB0⟩ : ∃ B0, bt s a = B0 := ⟨_, rfl⟩
      rw [hB0] at xb
      have xb0 : ∀ h : 0 < T.size, (((T[0]'h).toNat : Nat) : Int) = B0 := fun h => xb h
      clear xb
      have HDG9 := Lib.hid hDG; have HB0 := Lib.hid hb0; have HB1 := Lib.hid hB0
      clear hDG hb0 hB0
      have HLT := Lib.hid (show letB (rE s x) = false by unfold rE; rw [if_neg (by omega)]; exact letB_end)
      have g1 := S.out.1.cell 1; have g0 := S.out.1.cell 0
      simp only [List.getElem?_toArray, List.getElem?_cons_succ, List.getElem?_cons_zero] at g1 g0
      by_cases h18 : (18 : Int) < (T.size : Int)
      · have q := decide_eq_true h18
        have HE := Lib.hid (show numE s a x = (9, a) by unfold numE; rw [if_pos (by omega)])
        go_wp2_with fail
        clear g1
        refine (failS S.out hbb 9 a).mono ?_
        rintro e9 w9 ⟨rfl, hS9⟩
        have S9 := Lib.hid hS9
        clear hS9
        go_wp2_with fail
        go_end0
        rw [← HF.out]
        exact ⟨rfl, .inr ⟨by show (numE s a x).1 ≠ 0; rw [HE.out]; show (9 : Int) ≠ 0; decide, by show St w0 w9 b s a l c V (numE s a x).1 (numE s a x).2 out; rw [HE.out]; exact S9.out⟩⟩
      · have q := decide_eq_false h18
        by_cases h1 : (1 : Int) < (T.size : Int)
        · have q1 := decide_eq_true h1; have hp := eq_true (show (0 : Int) < (T.size : Int) by omega); have hp2 := eq_true (show 0 < T.size by omega)
          rcases k48 : (B0 == 48) with _ | _
          · have hB48 : ¬ B0 = 48 := by simpa using k48
            have HE := Lib.hid (show numE s a x = (0, 0) by unfold numE; rw [if_neg (by omega), if_neg (fun hh => hB48 (by rw [← HB1.out]; exact hh.2)), if_neg (by rw [HLT.out]; decide)])
            have hsz18 : T.size ≤ 18 := by omega
            have hsz1 : 1 ≤ T.size := by omega
            have hcN := fun V => snumC T V HDG9.out hsz1 hsz18 (Or.inr (by rw [HB0.out, HB1.out]; exact hB48))
            go_wp2_with fail
            clear g1
            refine (hcN _).mono ?_
            rintro e9 v5 ⟨rfl, hb⟩
            have S2 := Lib.hid (S.out.below hb)
            clear S hb
            have S := S2
            clear S2
            go_wp2_with fail
            refine (takeS S.out P.out hbb 2 x (numV T) T hs hm hlen hxs n HN.out R (by rw [HF.out]; exact HUP.out)).mono ?_
            rintro e9 w9 ⟨rfl, V9, hS9⟩
            have S9 := Lib.hid hS9
            clear hS9
            go_wp2_with fail
            go_end0
            refine ⟨rfl, .inl ⟨by show (numE s a R.1).1 = 0; rw [← HF.out, HE.out], V9, ?_⟩⟩
            rw [← HTT.out, HF.out] at S9
            exact S9.out
          · have HE := Lib.hid (show numE s a x = (4, a) by unfold numE; rw [if_neg (by omega), if_pos ⟨by omega, by rw [HB1.out]; simpa using k48⟩])
            go_wp2_with fail
            clear g1
            refine (failS S.out hbb 4 a).mono ?_
            rintro e9 w9 ⟨rfl, hS9⟩
            have S9 := Lib.hid hS9
            clear hS9
            go_wp2_with fail
            go_end0
            rw [← HF.out]
            exact ⟨rfl, .inr ⟨by show (numE s a x).1 ≠ 0; rw [HE.out]; show (4 : Int) ≠ 0; decide, by show St w0 w9 b s a l c V (numE s a x).1 (numE s a x).2 out; rw [HE.out]; exact S9.out⟩⟩
        · have q1 := decide_eq_false h1; have hp := eq_true (show (0 : Int) < (T.size : Int) by omega); have hp2 := eq_true (show 0 < T.size by omega)
          rcases k48 : (B0 == 48) with _ | _
          · skip
            have HE := Lib.hid (show numE s a x = (0, 0) by unfold numE; rw [if_neg (by omega), if_neg (fun hh => by omega), if_neg (by rw [HLT.out]; decide)])
            have hsz18 : T.size ≤ 18 := by omega
            have hsz1 : 1 ≤ T.size := by omega
            have hcN := fun V => snumC T V HDG9.out hsz1 hsz18 (Or.inl (by omega))
            go_wp2_with fail
            clear g1
            refine (hcN _).mono ?_
            rintro e9 v5 ⟨rfl, hb⟩
            have S2 := Lib.hid (S.out.below hb)
            clear S hb
            have S := S2
            clear S2
            go_wp2_with fail
            refine (takeS S.out P.out hbb 2 x (numV T) T hs hm hlen hxs n HN.out R (by rw [HF.out]; exact HUP.out)).mono ?_
            rintro e9 w9 ⟨rfl, V9, hS9⟩
            have S9 := Lib.hid hS9
            clear hS9
            go_wp2_with fail
            go_end0
            refine ⟨rfl, .inl ⟨by show (numE s a R.1).1 = 0; rw [← HF.out, HE.out], V9, ?_⟩⟩
            rw [← HTT.out, HF.out] at S9
            exact S9.out
          · skip
            have HE := Lib.hid (show numE s a x = (0, 0) by unfold numE; rw [if_neg (by omega), if_neg (fun hh => by omega), if_neg (by rw [HLT.out]; decide)])
            have hsz18 : T.size ≤ 18 := by omega
            have hsz1 : 1 ≤ T.size := by omega
            have hcN := fun V => snumC T V HDG9.out hsz1 hsz18 (Or.inl (by omega))
            go_wp2_with fail
            clear g1
            refine (hcN _).mono ?_
            rintro e9 v5 ⟨rfl, hb⟩
            have S2 := Lib.hid (S.out.below hb)
            clear S hb
            have S := S2
            clear S2
            go_wp2_with fail
            refine (takeS S.out P.out hbb 2 x (numV T) T hs hm hlen hxs n HN.out R (by rw [HF.out]; exact HUP.out)).mono ?_
            rintro e9 w9 ⟨rfl, V9, hS9⟩
            have S9 := Lib.hid hS9
            clear hS9
            go_wp2_with fail
            go_end0
            refine ⟨rfl, .inl ⟨by show (numE s a R.1).1 = 0; rw [← HF.out, HE.out], V9, ?_⟩⟩
            rw [← HTT.out, HF.out] at S9
            exact S9.out
end Go.Proofs.YtgiaogocdihhhaaDoor.Tex
