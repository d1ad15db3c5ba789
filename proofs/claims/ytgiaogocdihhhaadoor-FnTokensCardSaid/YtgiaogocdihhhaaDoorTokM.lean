/- Tokens: all lexemes as a plain function, and the program's Tokens as that. -/
import Derived.Test.YtgiaogocdihhhaaDoorTokL
import Derived.Test.YtgiaogocdihhhaaDoorTokD
namespace Go.Proofs.YtgiaogocdihhhaaDoor.Tex
open Go.RowKit Go.Proofs.YtgiaogocdihhhaaDoorW.PrintWords Go.Proofs.YtgiaogocdihhhaaDoorW.PrintLast Go.Proofs.YtgiaogocdihhhaaDoorW.PrintMore Go.Proofs.YtgiaogocdihhhaaDoor.PFnExactTokens
set_option linter.unusedVariables false
set_option linter.unusedSimpArgs false

/-- The lexemes from a place on: a code, its place, the lexemes. -/
def toks (s : ByteArray) : Nat → Int → Int → Int → List S35 → Int × Int × List S35
  | 0, _, _, _, _ => (0, 0, [])
  | k + 1, a, l, c, out =>
    if (blk s (s.size + 1) false a l c).1 ≠ 0 then ((blk s (s.size + 1) false a l c).1, (blk s (s.size + 1) false a l c).2.1, [])
    else if (s.size : Int) ≤ (blk s (s.size + 1) false a l c).2.1 then (0, 0, out)
    else if wrongB s (blk s (s.size + 1) false a l c).2.1 = true then (3, (blk s (s.size + 1) false a l c).2.1, [])
    else if (20000 : Int) ≤ out.length then (10, (blk s (s.size + 1) false a l c).2.1, [])
    else if (lexR s (blk s (s.size + 1) false a l c).2.1 (blk s (s.size + 1) false a l c).2.2.1 (blk s (s.size + 1) false a l c).2.2.2).1 ≠ 0 then
      ((lexR s (blk s (s.size + 1) false a l c).2.1 (blk s (s.size + 1) false a l c).2.2.1 (blk s (s.size + 1) false a l c).2.2.2).1, (lexR s (blk s (s.size + 1) false a l c).2.1 (blk s (s.size + 1) false a l c).2.2.1 (blk s (s.size + 1) false a l c).2.2.2).2.1, [])
    else toks s k (lexR s (blk s (s.size + 1) false a l c).2.1 (blk s (s.size + 1) false a l c).2.2.1 (blk s (s.size + 1) false a l c).2.2.2).2.2.2.1 (lexR s (blk s (s.size + 1) false a l c).2.1 (blk s (s.size + 1) false a l c).2.2.1 (blk s (s.size + 1) false a l c).2.2.2).2.2.2.2.1 (lexR s (blk s (s.size + 1) false a l c).2.1 (blk s (s.size + 1) false a l c).2.2.1 (blk s (s.size + 1) false a l c).2.2.2).2.2.2.2.2 (out ++ [(lexR s (blk s (s.size + 1) false a l c).2.1 (blk s (s.size + 1) false a l c).2.2.1 (blk s (s.size + 1) false a l c).2.2.2).2.2.1])
theorem toks_step (s : ByteArray) (k : Nat) (a l c : Int) (out : List S35) (q1 q2 q3 q4 : Int) (h : blk s (s.size + 1) false a l c = (q1, q2, q3, q4)) :
    toks s (k + 1) a l c out = if q1 ≠ 0 then (q1, q2, []) else if (s.size : Int) ≤ q2 then (0, 0, out) else if wrongB s q2 = true then (3, q2, []) else if (20000 : Int) ≤ out.length then (10, q2, [])
      else if (lexR s q2 q3 q4).1 ≠ 0 then ((lexR s q2 q3 q4).1, (lexR s q2 q3 q4).2.1, []) else toks s k (lexR s q2 q3 q4).2.2.2.1 (lexR s q2 q3 q4).2.2.2.2.1 (lexR s q2 q3 q4).2.2.2.2.2 (out ++ [(lexR s q2 q3 q4).2.2.1]) := by
  rw [toks, h]
def tokR (s : ByteArray) : Int × Int × List S35 := if longB s = true then (2, 0, []) else toks s (s.size + 1) 0 1 1 []
theorem info35 : (Tryd.prog.info? 35).map (fun i => (i.zero, i.size, i.bytes)) = some (some tok0, 6, 56) := by kernel_rfl
theorem Blk.grown {w w' : World} {b : Nat} {t : TypeId} {cs : Array Value} {row : Option Nat} (h : Blk w b t cs) (hg : w.grownBy w' row) (hne : some b ≠ row) : Blk w' b t cs := by
  unfold Blk
  rw [hg.block b h.lt hne]
  exact h
set_option maxHeartbeats 8000000 in
set_option maxRecDepth 100000 in
theorem implTokensC (s : ByteArray) (w : World) (hs : s.size ≤ 1048576) (hT : Tabs w) (h2 : 2 ≤ w.heap.size) :
    Calls Tryd.prog 15 #[.string s] w fun e w' => ∃ v, e = .returned (.tuple #[v, .int .i64 (tokR s).1, .int .i64 (tokR s).2.1]) ∧ k35.R 35 w' w.heap.size (fun _ => True) v (tokR s).2.2 ∧ Below w.heap.size w w' := by
  have cT := fun W b hc => tooLongC s b W hc
  rcases hL : longB s with _ | _
  · rw [hL] at cT
    obtain ⟨R, hR⟩ : ∃ R, toks s (s.size + 1) 0 1 1 [] = R := ⟨_, rfl⟩
    have hQ : tokR s = R := by unfold tokR; rw [hL, ← hR]; rfl
    rw [hQ]
    clear hQ hL
    have HR := Lib.hid hR; have HT := Lib.hid hT
    clear hR hT
    go_enter Tryd.func15, Tryd.ntmps15
    go_wp2_with (go_at_call 21; refine (cT _ w.heap.size (by simp)).mono ?_; rintro e w9 ⟨rfl, rfl⟩)
    refine nm_w fun E hE => ?_
    obtain ⟨b, hb⟩ : ∃ b, w.heap.size + 1 = b := ⟨_, rfl⟩
    have hS0 : Sc E b s 0 1 1 := by
      rw [hE, ← hb]
      have h9 := heap_alloc_new (w.alloc (.cells #[.string s] 9)) (.cells #[.string s, .int .i64 0, .int .i64 1, .int .i64 1] 47)
      unfold Sc Blk
      simpa using h9
    have hB0 : Below w.heap.size w E := by rw [hE]; exact below_alloc (below_alloc (Below.refl _ _) _) _
    have S := Lib.hid hS0; have B := Lib.hid hB0
    have hbb : w.heap.size ≤ b := by omega
    have hb2 : 2 ≤ b := by omega
    have O := Lib.hid (show k35.R 35 E w.heap.size (fun k => k ≠ b) (.slice none 0 0) [] from Kd.R_nil k35 35 _ _ _)
    try rw [hb]
    clear hE hS0 hB0 hb cT
    go_loopw [6] (fun o wr => ∃ (n : Nat) (x y z : Int) (out : List S35), Pos s 1 x y z ∧ s.size < n + x.toNat ∧ Sc wr b s x y z ∧ k35.R 35 wr w.heap.size (fun k => k ≠ b) o out ∧ Below w.heap.size w wr ∧ toks s n x y z out = R) (fun _ wr => s.size - posOf b wr)
    case atStart => exact ⟨s.size + 1, 0, 1, 1, [], ⟨by omega, by omega, by omega, by omega⟩, by omega, S.out, O.out, B.out, HR.out⟩
    case round =>
      clear S B O HR
      obtain ⟨n, x, y, z, out, hP, hn, hS, hO, hB, hR⟩ := hrel
      have S := Lib.hid hS; have O := Lib.hid hO; have B := Lib.hid hB; have HR := Lib.hid hR; have pos0 := Lib.hid (posOf_sc hS)
      obtain ⟨k, rfl⟩ : ∃ k, n = k + 1 := ⟨n - 1, by have := hP.a1; omega⟩
      have HTB := fun V (hV : Below w.heap.size w V) => HT.out.below h2 hV
      clear hS hO hB hR
      have hbk := blk_pos s 1 (by omega) (s.size + 1) false x y z hP
      obtain ⟨q, hq⟩ : ∃ q, blk s (s.size + 1) false x y z = q := ⟨_, rfl⟩
      rw [hq] at hbk
      obtain ⟨q1, q2, q3, q4⟩ := q
      simp only at hbk
      have HK := Lib.hid (toks_step s k x y z out q1 q2 q3 q4 hq)
      obtain ⟨hP2, hxq⟩ := hbk
      have HP := Lib.hid hP
      have hx0 := hP.a0; have hx1 := hP.a1
      go_wp2_with fail
      refine (blanksC b s x y z 1 wr S.out hx0 hx1 (by omega) (by omega) hP.l hP.c (HTB _ B.out) hb2 (s.size + 1) (by omega) _ hq).mono ?_
      rintro e v1 ⟨rfl, hS9, hU9⟩
      simp only at hS9
      have S2 := Lib.hid hS9; have O2 := Lib.hid (Kd.R_step O.out (fun i ho hlt => hU9.2.2 i hlt ho)); have B2 := Lib.hid (B.out.trans (hU9.1.mono hbb))
      clear S O B hS9 hU9 hq
      have S := S2; have O := O2; have B := B2
      clear S2 O2 B2
      obtain ⟨pl, hpl⟩ : ∃ pl, (if q1 = 0 then 0 else q2) = pl := ⟨_, rfl⟩
      rw [hpl]
      have HPL := Lib.hid hpl
      clear hpl
      rcases hz : (q1 == 0) with _ | _
      · have hz1 : q1 ≠ 0 := by simpa using hz
        have m1 : (q1 != 0) = true := by rw [bne, hz]; rfl
        have HF := Lib.hid (HR.out.symm.trans (HK.out.trans (if_pos hz1)))
        have HP9 := Lib.hid (HPL.out.symm.trans (if_neg hz1))
        clear HK HR hz1
        go_wp2_with fail
        go_ret3
        exact ⟨_, by rw [HF.out, ← HP9.out]; rfl, by rw [HF.out]; exact Kd.R_nil k35 35 _ _ _, B.out⟩
      · obtain rfl : q1 = 0 := by simpa using hz
        have HK1 := Lib.hid (HK.out.trans (if_neg (by decide)))
        clear HK hz HPL
        have g1 := S.out.cell 1
        simp only [List.getElem?_toArray, List.getElem?_cons_succ, List.getElem?_cons_zero] at g1
        by_cases hlt : (s.size : Int) ≤ q2
        · have q9 := decide_eq_true hlt
          have HF := Lib.hid (HR.out.symm.trans (HK1.out.trans (if_pos hlt)))
          clear HK1 HR
          go_wp2_with fail
          go_ret3
          exact ⟨_, by rw [HF.out]; rfl, by rw [HF.out]; exact Kd.R_mono O.out (fun _ _ => trivial), B.out⟩
        · have q9 := decide_eq_false hlt
          have HK2 := Lib.hid (HK1.out.trans (if_neg hlt))
          have hlt2 : q2 < (s.size : Int) := by omega
          have hq0 := hP2.a0
          have eW : wE s q2 = wrongB s q2 := by unfold wE; rw [decide_eq_true hlt2]; rfl
          have cW := wrongC b s q2 q3 q4 v1 S.out hq0 (by omega) (HTB _ B.out) (Nat.le_trans hb2 (Nat.le_of_lt S.out.lt))
          rw [eW] at cW
          clear HK1 eW
          go_wp2_with fail
          clear g1
          refine cW.mono ?_
          rintro e v2 ⟨rfl, hb⟩
          have S2 := Lib.hid (S.out.below hb); have O2 := Lib.hid (Kd.R_below O.out hb); have B2 := Lib.hid (below_step B.out hb)
          clear S O B hb
          have S := S2; have O := O2; have B := B2
          clear S2 O2 B2
          rcases hw : wrongB s q2 with _ | _
          · have HK3 := Lib.hid (HK2.out.trans (if_neg (by rw [hw]; decide)))
            clear HK2
            by_cases hmany : (20000 : Int) ≤ out.length
            · have q8 := decide_eq_true hmany
              have HF := Lib.hid (HR.out.symm.trans (HK3.out.trans (if_pos hmany)))
              clear HK3 HR
              obtain ⟨Ao, co, rfl, hco, hro⟩ := Kd.R_reads O.out
              clear hro
              have g1 := S.out.cell 1
              simp only [List.getElem?_toArray, List.getElem?_cons_succ, List.getElem?_cons_zero] at g1
              go_wp2_with fail
              go_quiet (fail)
              go_wp2_with fail
              go_ret3
              exact ⟨_, by rw [HF.out]; rfl, by rw [HF.out]; exact Kd.R_nil k35 35 _ _ _, pw_below_drewN B.out _⟩
            · have q8 := decide_eq_false hmany
              have HK4 := Lib.hid (HK3.out.trans (if_neg hmany))
              clear HK3
              obtain ⟨Q, hQ⟩ : ∃ Q, lexR s q2 q3 q4 = Q := ⟨_, rfl⟩
              have hpos := lexR_pos s 1 q2 q3 q4 (by omega) hP2 hlt2
              rw [hQ] at HK4 hpos
              have cL := lexC b s q2 q3 q4 1 v2 S.out hP2 hlt2 (by omega) (by omega) (HTB _ B.out) hb2 Q hQ
              clear hQ
              obtain ⟨Q1, Q2, Q3, Q4, Q5, Q6⟩ := Q
              simp only at HK4 hpos cL
              obtain ⟨Ao, co, eO, hco, hro⟩ := Kd.R_reads O.out
              subst eO
              clear hro
              go_wp2_with fail
              refine cL.mono ?_
              rintro e v3 ⟨hh, hU⟩
              have O2 := Lib.hid (Kd.R_step O.out (fun i ho hlt => hU.2.2 i hlt ho)); have B2 := Lib.hid (B.out.trans (hU.1.mono hbb)); have hbs := Nat.lt_of_lt_of_le S.out.lt hU.1.size
              clear S O B hU cL
              have O := O2; have B := B2
              clear O2 B2
              rcases hh with ⟨rfl, rfl, hS9⟩ | ⟨hq1, rfl⟩
              · have S := Lib.hid hS9
                clear hS9
                obtain ⟨hP3, hadv⟩ := hpos rfl
                have HF := Lib.hid ((HK4.out.trans (if_neg (by decide))).symm.trans HR.out)
                clear HK4 HR
                have hbase := B.out.size
                obtain ⟨W3, hW3⟩ : ∃ W3, v3.alloc (.cells #[.int .i64 Q3.f0, .string Q3.f1, .int .i64 Q3.f2, .int .i64 Q3.f3, .int .i64 Q3.f4, .int .i64 Q3.f5] 35) = W3 := ⟨_, rfl⟩
                have hb3 : Below v3.heap.size v3 W3 := by rw [← hW3]; exact (Below.refl _ v3).alloc (Nat.le_refl _) _
                have T3 := tok_cells (show Blk W3 v3.heap.size 35 (tokC Q3.f0 Q3.f1 Q3.f2 Q3.f3 Q3.f4 Q3.f5) by rw [← hW3]; exact heap_alloc_new v3 _)
                obtain ⟨t0, t1, t2, t3, t4, t5⟩ := T3
                have S2 := Lib.hid (S.out.below hb3); have O2 := Lib.hid (Kd.R_below O.out hb3); have B2 := Lib.hid (below_step B.out hb3)
                have hbw := S2.out.lt
                have hbz := B2.out.size
                clear S O B hb3
                have S := S2; have O := O2; have B := B2
                clear S2 O2 B2
                go_wp2_with ((with_reducible refine gate_builtin (b := .append) (xs := #[.tmp 61, .tmp 63]) rfl ?_); at_builtin; refine Kd.R_append k35 (w0 := w) w.heap.size rfl (.tmp 61) (.tmp 63) 27 35 tok0 56 rfl Tryd.underlying27 info35 rfl (by decide) (by decide) (.slice Ao out.length co) out Q3 _ (fun k => k ≠ b) (fun _ => False) rfl rfl (k35_mkM W3 w.heap.size (fun _ => False) Q3) (fun _ h => h.elim) (fun k hk => by omega) O.out B.out hbz (by omega) ?_; intro x1 wA hR6 hB6 hg6 hat6)
                have S2 := S.out.grown hg6 (fun e => O.out.1 b e.symm rfl)
                have e1 := posOf_sc S2
                have e2 := pos0.out
                have hq4 := hP3.a1
                refine ⟨⟨k, Q4, Q5, Q6, out ++ [Q3], hP3, by omega, S2, hR6, hB6, HF.out⟩, ?_⟩
                rw [e1, e2]
                omega
              · have HF := Lib.hid (HR.out.symm.trans (HK4.out.trans (if_pos hq1)))
                have m1 : (Q1 != 0) = true := bne_iff_ne.2 hq1
                clear HK4 HR hq1
                go_wp2_with fail
                go_ret3
                exact ⟨_, by rw [HF.out]; rfl, by rw [HF.out]; exact Kd.R_nil k35 35 _ _ _, below_alloc B.out _⟩
          · have HF := Lib.hid (HR.out.symm.trans (HK2.out.trans (if_pos hw)))
            clear HK2 HR
            have g1 := S.out.cell 1
            simp only [List.getElem?_toArray, List.getElem?_cons_succ, List.getElem?_cons_zero] at g1
            go_wp2_with fail
            go_quiet (fail)
            go_wp2_with fail
            go_ret3
            exact ⟨_, by rw [HF.out]; rfl, by rw [HF.out]; exact Kd.R_nil k35 35 _ _ _, pw_below_drewN B.out _⟩
  · rw [hL] at cT
    have hQ : tokR s = (2, 0, []) := by unfold tokR; rw [hL]; rfl
    rw [hQ]
    clear hQ hL
    go_enter Tryd.func15, Tryd.ntmps15
    go_wp2_with (go_at_call 21; refine (cT _ w.heap.size (by simp)).mono ?_; rintro e w9 ⟨rfl, rfl⟩)
    go_ret3
    exact ⟨_, rfl, Kd.R_nil k35 35 _ _ _, below_alloc (Below.refl _ _) _⟩
end Go.Proofs.YtgiaogocdihhhaaDoor.Tex
