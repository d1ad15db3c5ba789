/- Tokens: a lexeme, the program's. -/
import Derived.Test.YtgiaogocdihhhaaDoorTokG
namespace Go.Proofs.YtgiaogocdihhhaaDoor.Tex
open Go.RowKit Go.Proofs.YtgiaogocdihhhaaDoorW.PrintWords Go.Proofs.YtgiaogocdihhhaaDoorW.PrintLast Go.Proofs.YtgiaogocdihhhaaDoorW.PrintMore Go.Proofs.YtgiaogocdihhhaaDoor.PFnExactTokens
set_option linter.unusedVariables false
set_option linter.unusedSimpArgs false

abbrev tokC (k : Int) (t : ByteArray) (n a l c : Int) : Array Value := #[.int .i64 k, .string t, .int .i64 n, .int .i64 a, .int .i64 l, .int .i64 c]
abbrev tokV (k : Int) (t : ByteArray) (n a l c : Int) : Value := .agg (tokC k t n a l c)
abbrev tok0 : Value := tokV 0 ⟨#[]⟩ 0 0 0 0
theorem Blk.upd {w w' : World} {b k : Nat} {t : TypeId} {cs : Array Value} (h : Blk w k t cs) (hu : Upd b w w') (hk : k ≠ b) : Blk w' k t cs := by
  unfold Blk
  rw [hu.2.2 k h.lt hk]
  exact h
theorem Blk.far {w : World} {g k j : Nat} {t : TypeId} {cs : Array Value} {u : Value} (h : Blk w k t cs) (hne : k ≠ g) : Blk (w.setCell ⟨g, j, none⟩ u) k t cs := by
  unfold Blk
  rw [Below.heap_setCell w ⟨g, j, none⟩ u k hne]
  exact h
theorem tok_cells {w : World} {g : Nat} {k : Int} {t : ByteArray} {n a l c : Int} (h : Blk w g 35 (tokC k t n a l c)) :
    w.cell? ⟨g, 0, none⟩ = some (.int .i64 k) ∧ w.cell? ⟨g, 1, none⟩ = some (.string t) ∧ w.cell? ⟨g, 2, none⟩ = some (.int .i64 n) ∧ w.cell? ⟨g, 3, none⟩ = some (.int .i64 a) ∧ w.cell? ⟨g, 4, none⟩ = some (.int .i64 l) ∧ w.cell? ⟨g, 5, none⟩ = some (.int .i64 c) :=
  ⟨(h.cell 0).trans rfl, (h.cell 1).trans rfl, (h.cell 2).trans rfl, (h.cell 3).trans rfl, (h.cell 4).trans rfl, (h.cell 5).trans rfl⟩
theorem tok_thaw {w : World} {g : Nat} {cs : Array Value} (h : Blk w g 35 cs) :
    w.frozen? ⟨g, 0, none⟩ = false ∧ w.frozen? ⟨g, 1, none⟩ = false ∧ w.frozen? ⟨g, 2, none⟩ = false ∧ w.frozen? ⟨g, 3, none⟩ = false ∧ w.frozen? ⟨g, 4, none⟩ = false ∧ w.frozen? ⟨g, 5, none⟩ = false :=
  ⟨h.thaw 0, h.thaw 1, h.thaw 2, h.thaw 3, h.thaw 4, h.thaw 5⟩
theorem ret35 {fn : Func} (h : fn.results = #[.cell 2 35, .tmp 3, .tmp 4]) (tmps : Array Value) (w : World) (g : Nat) (k : Int) (t : ByteArray) (n a l c : Int) (hp : tmps.getD 2 undef = .pointer (some ⟨g, 0, none⟩)) (hb : Blk w g 35 (tokC k t n a l c)) :
    (results fn tmps).run Tryd.prog w = .ok (.tuple #[tokV k t n a l c, tmps.getD 3 undef, tmps.getD 4 undef]) w := by
  obtain ⟨p0, p1, p2, p3, p4, p5⟩ := tok_cells hb
  have hi : (Tryd.prog.info? 35).map (fun i => i.size) = some 6 := by kernel_rfl
  have hp2 : tmps[2]?.getD undef = .pointer (some ⟨g, 0, none⟩) := by simpa using hp
  simp [results, h, go_sem, hp2, p0, p1, p2, p3, p4, p5]
theorem blk6 {w : World} {g : Nat} {k n a l c k' n' a' l' c' : Int} {t t' : ByteArray} (h : Blk w g 35 (tokC k t n a l c)) : Blk ((((((w.setCell ⟨g, 0, none⟩ (.int .i64 k')).setCell ⟨g, 1, none⟩ (.string t')).setCell ⟨g, 2, none⟩ (.int .i64 n')).setCell ⟨g, 3, none⟩ (.int .i64 a')).setCell ⟨g, 4, none⟩ (.int .i64 l')).setCell ⟨g, 5, none⟩ (.int .i64 c')) g 35 (tokC k' t' n' a' l' c') :=
  (((((h.set 0 _).set 1 _).set 2 _).set 3 _).set 4 _).set 5 _
/-- The six cells of a result, written. -/
theorem six {w : World} {g base : Nat} (h : base ≤ g) (u0 u1 u2 u3 u4 u5 : Value) : Below base w ((((((w.setCell ⟨g, 0, none⟩ u0).setCell ⟨g, 1, none⟩ u1).setCell ⟨g, 2, none⟩ u2).setCell ⟨g, 3, none⟩ u3).setCell ⟨g, 4, none⟩ u4).setCell ⟨g, 5, none⟩ u5) :=
  ((((((Below.refl base w).setCell (p := ⟨g, 0, none⟩) h u0).setCell (p := ⟨g, 1, none⟩) h u1).setCell (p := ⟨g, 2, none⟩) h u2).setCell (p := ⟨g, 3, none⟩) h u3).setCell (p := ⟨g, 4, none⟩) h u4).setCell (p := ⟨g, 5, none⟩) h u5
set_option maxHeartbeats 4000000 in
set_option maxRecDepth 100000 in
theorem fail55 (x y : Int) (w : World) : Calls Tryd.prog 55 #[.int .i64 x, .int .i64 y] w fun e w' => e = .returned (.tuple #[tok0, .int .i64 x, .int .i64 y]) ∧ Below w.heap.size w w' := by
  go_enter Tryd.func55, Tryd.ntmps55
  go_wp2_with fail
  go_returns
  exact ⟨rfl, (Below.refl _ w).alloc (Nat.le_refl _) _⟩
/-- From a place on over runes of a kind. -/
def run (s : ByteArray) (p : Int → Bool) : Nat → Int → Int → Int → Int × Int × Int
  | 0, a, l, c => (a, l, c)
  | n + 1, a, l, c => if p (rE s a) = true then run s p n (a + nI s a) (lin s a l) (col s a c) else (a, l, c)
def wordB (r : Int) : Bool := letB r || digB r
theorem letB_end : letB (-1) = false := by decide
theorem digB_end : digB (-1) = false := by decide
theorem run_in (s : ByteArray) (p : Int → Bool) (hp : p (-1) = false) (a : Int) (h : p (rE s a) = true) : a < (s.size : Int) := by
  by_cases q : a < (s.size : Int)
  · exact q
  · unfold rE at h
    rw [if_neg q, hp] at h
    cases h
theorem run_mono (s : ByteArray) (p : Int → Bool) (hp : p (-1) = false) : ∀ n a l c, 0 ≤ a → a ≤ (s.size : Int) → a ≤ (run s p n a l c).1 ∧ (run s p n a l c).1 ≤ (s.size : Int)
  | 0, a, l, c, h0, h1 => ⟨Int.le_refl _, h1⟩
  | n + 1, a, l, c, h0, h1 => by
    unfold run
    split
    · rename_i hh
      have ha := run_in s p hp a hh
      have hr := rI_range s a h0 ha
      have := run_mono s p hp n (a + nI s a) (lin s a l) (col s a c) (by omega) (by omega)
      omega
    · exact ⟨Int.le_refl _, h1⟩
set_option maxHeartbeats 8000000 in
set_option maxRecDepth 100000 in
theorem lexName (b : Nat) (s : ByteArray) (a l c m : Int) (w : World) (hB : Sc w b s a l c) (h0 : 0 ≤ a) (h : a < (s.size : Int)) (hlet : letB (rI s a) = true) (hs : s.size ≤ 1073741824) (hm : 1 ≤ m ∧ m ≤ 1073741824) (hl : 0 ≤ l ∧ l ≤ m + a) (hc : 0 ≤ c ∧ c ≤ m + a) (hT : Tabs w) (hb2 : 2 ≤ b) (n : Nat) (hn : s.size < n + a.toNat) (R : Int × Int × Int) (hR : run s wordB n a l c = R) :
    Calls Tryd.prog 32 #[.pointer (some ⟨b, 0, none⟩)] w fun e w' => ((R.1 - a ≤ 40 ∧ e = .returned (.tuple #[tokV 1 (s.extract a.toNat R.1.toNat) 0 a l c, .int .i64 0, .int .i64 0]) ∧ Sc w' b s R.1 R.2.1 R.2.2) ∨ (40 < R.1 - a ∧ e = .returned (.tuple #[tok0, .int .i64 2, .int .i64 a]))) ∧ Upd b w w' := by
  have HR := Lib.hid hR
  clear hR
  have hbb := hB.lt
  have HT := Lib.hid hT
  have g1 := hB.cell 1; have g2 := hB.cell 2; have g3 := hB.cell 3
  simp only [List.getElem?_toArray, List.getElem?_cons_succ, List.getElem?_cons_zero] at g1 g2 g3
  have S := Lib.hid hB
  clear hT hB
  have hzb : w.heap.size ≠ b := by omega
  have hkb : w.heap.size + 1 ≠ b := by omega
  go_enter Tryd.func32, Tryd.ntmps32
  go_wp2_with fail
  refine nm_w fun E hE => ?_
  have hEb : Below w.heap.size w E := by rw [hE]; exact (Below.refl _ w).alloc (Nat.le_refl _) _
  have S2 := Lib.hid (S.out.below hEb)
  have hEs : E.heap.size = w.heap.size + 1 := by rw [hE]; simp
  have Z := Lib.hid (show Blk E w.heap.size 35 (tokC 0 ⟨#[]⟩ 0 0 0 0) by rw [hE]; exact heap_alloc_new w _)
  clear hE
  replace g1 := (hEb.cell (p := ⟨b, 1, none⟩) hbb).trans g1
  replace g2 := (hEb.cell (p := ⟨b, 2, none⟩) hbb).trans g2
  replace g3 := (hEb.cell (p := ⟨b, 3, none⟩) hbb).trans g3
  go_region
  clear g1 g2 g3
  obtain ⟨E2, hE2⟩ : ∃ E2, (E.alloc (.cells #[.int .i64 0, .string ⟨#[]⟩, .int .i64 0, .int .i64 a, .int .i64 l, .int .i64 c] 35)).drew = E2 := ⟨_, rfl⟩
  rw [hE2]
  have hE2b : Below E.heap.size E E2 := by rw [← hE2]; exact ((Below.refl _ E).alloc (Nat.le_refl _) _).drew
  have K := Lib.hid (show Blk E2 (w.heap.size + 1) 35 (tokC 0 ⟨#[]⟩ 0 a l c) by rw [← hE2, ← hEs]; exact heap_alloc_new E _)
  clear hE2
  have S3 := Lib.hid (S2.out.below hE2b); have Z2 := Lib.hid (Z.out.below hE2b); have U := Lib.hid (Upd.of_below (below_step hEb hE2b) (Nat.le_of_lt hbb))
  clear S S2 Z hEb hE2b hEs
  have S := S3; have Z := Z2; clear S3 Z2
  have eR : rE s a = rI s a := by unfold rE; rw [if_pos h]
  go_wp2_with fail
  refine (runeC b s a l c _ S.out (by omega) (by omega) (U.out.tabs hb2 HT.out) (Nat.le_trans hb2 (Nat.le_of_lt S.out.lt))).mono ?_
  rintro e v1 ⟨rfl, hb⟩
  rw [eR]
  have S2 := Lib.hid (S.out.below hb); have Z2 := Lib.hid (Z.out.below hb); have K2 := Lib.hid (K.out.below hb)
  have U2 := Lib.hid (U.out.trans (Upd.of_below hb (Nat.le_of_lt S.out.lt)))
  clear S Z K U hb
  have S := S2; have Z := Z2; have K := K2; have U := U2; clear S2 Z2 K2 U2
  go_wp2_with fail
  refine (letterC (rI s a) _).mono ?_
  rintro e v1 ⟨rfl, hb⟩
  rw [hlet]
  have S2 := Lib.hid (S.out.below hb); have Z2 := Lib.hid (Z.out.below hb); have K2 := Lib.hid (K.out.below hb)
  have U2 := Lib.hid (U.out.trans (Upd.of_below hb (Nat.le_of_lt S.out.lt)))
  clear S Z K U hb
  have S := S2; have Z := Z2; have K := K2; have U := U2; clear S2 Z2 K2 U2
  clear eR hlet
  go_wp2_with fail
  go_loopw [113] (fun q wr => ∃ (n : Nat) (x y z : Int), a ≤ x ∧ x ≤ (s.size : Int) ∧ s.size < n + x.toNat ∧ (0 ≤ y ∧ y ≤ m + x) ∧ (0 ≤ z ∧ z ≤ m + x) ∧ Sc wr b s x y z ∧ Blk wr w.heap.size 35 (tokC 0 ⟨#[]⟩ 0 0 0 0) ∧ Blk wr (w.heap.size + 1) 35 (tokC 0 ⟨#[]⟩ 0 a l c) ∧ Upd b w wr ∧ run s wordB n x y z = R) (fun _ wr => s.size - posOf b wr)
  case atStart => exact ⟨n, a, l, c, Int.le_refl _, by omega, hn, hl, hc, S.out, Z.out, K.out, U.out, HR.out⟩
  case round =>
    clear S Z K U HR
    obtain ⟨n, x, y, z, hx0, hxs, hn, hy, hz, hS, hZ, hK, hU, hR⟩ := hrel
    have S := Lib.hid hS; have Z := Lib.hid hZ; have K := Lib.hid hK; have U := Lib.hid hU; have HR := Lib.hid hR; have pos0 := Lib.hid (posOf_sc hS)
    clear hS hZ hK hU hR
    obtain ⟨k, rfl⟩ : ∃ k, n = k + 1 := ⟨n - 1, by omega⟩
    have HRX := Lib.hid (show run s wordB (k + 1) x y z = if wordB (rE s x) = true then run s wordB k (x + nI s x) (lin s x y) (col s x z) else (x, y, z) from rfl)
    rcases hL : letB (rE s x) with _ | _
    · rcases hD : digB (rE s x) with _ | _
      · have HF := Lib.hid ((HRX.out.trans (if_neg (show ¬ wordB (rE s x) = true by unfold wordB; rw [hL, hD]; decide))).symm.trans HR.out)
        clear HRX HR
        go_wp2_with fail
        refine (runeC b s x y z _ S.out (by omega) (by omega) (U.out.tabs hb2 HT.out) (Nat.le_trans hb2 (Nat.le_of_lt S.out.lt))).mono ?_
        rintro e v1 ⟨rfl, hb⟩
        have S2 := Lib.hid (S.out.below hb); have Z2 := Lib.hid (Z.out.below hb); have K2 := Lib.hid (K.out.below hb)
        have U2 := Lib.hid (U.out.trans (Upd.of_below hb (Nat.le_of_lt S.out.lt)))
        clear S Z K U hb
        have S := S2; have Z := Z2; have K := K2; have U := U2; clear S2 Z2 K2 U2
        go_wp2_with fail
        refine (letterC (rE s x) _).mono ?_
        rintro e v1 ⟨rfl, hb⟩
        rw [hL]
        have S2 := Lib.hid (S.out.below hb); have Z2 := Lib.hid (Z.out.below hb); have K2 := Lib.hid (K.out.below hb)
        have U2 := Lib.hid (U.out.trans (Upd.of_below hb (Nat.le_of_lt S.out.lt)))
        clear S Z K U hb
        have S := S2; have Z := Z2; have K := K2; have U := U2; clear S2 Z2 K2 U2
        go_wp2_with fail
        refine (runeC b s x y z _ S.out (by omega) (by omega) (U.out.tabs hb2 HT.out) (Nat.le_trans hb2 (Nat.le_of_lt S.out.lt))).mono ?_
        rintro e v1 ⟨rfl, hb⟩
        have S2 := Lib.hid (S.out.below hb); have Z2 := Lib.hid (Z.out.below hb); have K2 := Lib.hid (K.out.below hb)
        have U2 := Lib.hid (U.out.trans (Upd.of_below hb (Nat.le_of_lt S.out.lt)))
        clear S Z K U hb
        have S := S2; have Z := Z2; have K := K2; have U := U2; clear S2 Z2 K2 U2
        go_wp2_with fail
        refine (digitC (rE s x) _).mono ?_
        rintro e v1 ⟨rfl, hb⟩
        rw [hD]
        have S2 := Lib.hid (S.out.below hb); have Z2 := Lib.hid (Z.out.below hb); have K2 := Lib.hid (K.out.below hb)
        have U2 := Lib.hid (U.out.trans (Upd.of_below hb (Nat.le_of_lt S.out.lt)))
        clear S Z K U hb
        have S := S2; have Z := Z2; have K := K2; have U := U2; clear S2 Z2 K2 U2
        go_wp2_with fail
        refine nm_w fun WW hWW => ?_
        rw [← hWW] at S Z K U
        clear hWW
        have g0 := S.out.cell 0; have g1 := S.out.cell 1
        simp only [List.getElem?_toArray, List.getElem?_cons_succ, List.getElem?_cons_zero] at g0 g1
        obtain ⟨k0, k1, k2, k3, k4, k5⟩ := tok_cells K.out
        have z0 := tok_thaw Z.out; have q0 := tok_cells Z.out; have kt := tok_thaw K.out
        obtain ⟨y0, y1, y2, y3, y4, y5⟩ := z0; obtain ⟨p0, p1, p2, p3, p4, p5⟩ := q0; obtain ⟨f0, f1, f2, f3, f4, f5⟩ := kt
        have hax := eq_true hx0; have hxx := eq_true hxs; have h00 := eq_true h0
        go_region
        clear g0 g1
        clear k0 k1 k2 k3 k4 k5 y0 y1 y2 y3 y4 y5 p0 p1 p2 p3 p4 p5 f0 f1 f2 f3 f4 f5
        obtain ⟨V2, hV2⟩ : ∃ V2, ((WW.setCell ⟨w.heap.size + 1, 0, none⟩ (.int .i64 1)).setCell ⟨w.heap.size + 1, 1, none⟩ (.string (s.extract a.toNat x.toNat))).drew = V2 := ⟨_, rfl⟩
        rw [hV2]
        have hst : Below w.heap.size WW V2 := by rw [← hV2]; exact (((Below.refl w.heap.size WW).setCell (p := ⟨w.heap.size + 1, 0, none⟩) (show w.heap.size ≤ w.heap.size + 1 by omega) _).setCell (p := ⟨w.heap.size + 1, 1, none⟩) (show w.heap.size ≤ w.heap.size + 1 by omega) _).drew
        have S2 := Lib.hid (S.out.low hst hbb); have U2 := Lib.hid (U.out.grow hst (Nat.le_of_lt hbb)); have Z2 := Lib.hid (show Blk V2 w.heap.size 35 (tokC 0 ⟨#[]⟩ 0 0 0 0) by rw [← hV2]; exact (Z.out.far (by omega)).far (by omega)); have K2 := Lib.hid (show Blk V2 (w.heap.size + 1) 35 (tokC 1 (s.extract a.toNat x.toNat) 0 a l c) by rw [← hV2]; exact (K.out.set 0 _).set 1 _)
        clear S Z K U hst hV2
        have S := S2; have Z := Z2; have K := K2; have U := U2; clear S2 Z2 K2 U2
        have hz : ((s.extract a.toNat x.toNat).size : Int) = x - a := by rw [ByteArray.size_extract]; omega
        obtain ⟨T, hTT⟩ : ∃ T, s.extract a.toNat x.toNat = T := ⟨_, rfl⟩
        rw [hTT] at hz K
        have HTT := Lib.hid hTT
        clear hTT
        obtain ⟨k0, k1, k2, k3, k4, k5⟩ := tok_cells K.out
        have z0 := tok_thaw Z.out; have q0 := tok_cells Z.out; have kt := tok_thaw K.out
        obtain ⟨y0, y1, y2, y3, y4, y5⟩ := z0; obtain ⟨p0, p1, p2, p3, p4, p5⟩ := q0; obtain ⟨f0, f1, f2, f3, f4, f5⟩ := kt
        by_cases h40 : (40 : Int) < (T.size : Int)
        · have q := decide_eq_true h40
          go_wp2_with (go_at_call 55; refine (fail55 _ _ _).mono ?_; rintro e v2 ⟨rfl, hb⟩; have Z9 := Z.out.below hb; obtain ⟨p0, p1, p2, p3, p4, p5⟩ := tok_cells Z9; obtain ⟨y0, y1, y2, y3, y4, y5⟩ := tok_thaw Z9)
          ((try simp only [Exit.inBlock, Exit.then]); refine bodyPost_ret (ret35 rfl _ _ _ _ _ _ _ _ _ rfl (blk6 Z9)) rfl ?_)
          refine ⟨.inr ⟨by rw [← HF.out]; omega, rfl⟩, ?_⟩
          exact (U.out.trans (Upd.of_below hb (Nat.le_of_lt S.out.lt))).grow (six (Nat.le_refl _) _ _ _ _ _ _) (Nat.le_of_lt hbb)
        · have q := decide_eq_false h40
          go_wp2_with fail
          ((try simp only [Exit.inBlock, Exit.then]); refine bodyPost_ret (ret35 rfl _ _ _ _ _ _ _ _ _ rfl (blk6 Z.out)) rfl ?_)
          refine ⟨.inl ⟨by rw [← HF.out]; omega, by rw [← HF.out]; show Ending.returned (.tuple #[tokV 1 T 0 a l c, .int .i64 0, .int .i64 0]) = Ending.returned (.tuple #[tokV 1 (s.extract a.toNat x.toNat) 0 a l c, .int .i64 0, .int .i64 0]); rw [HTT.out], by rw [← HF.out]; exact S.out.low (six (Nat.le_refl _) _ _ _ _ _ _) hbb⟩, ?_⟩
          exact U.out.grow (six (Nat.le_refl _) _ _ _ _ _ _) (Nat.le_of_lt hbb)
      · have hw : wordB (rE s x) = true := by unfold wordB; rw [hL, hD]; rfl
        have hlt := run_in s wordB (by decide) x hw
        have hrange := rI_range s x (by omega) hlt
        have HY := Lib.hid (lin_le s x y m (by omega) hlt hy); have HZ := Lib.hid (col_le s x z m (by omega) hlt hm.1 hz)
        have HF := Lib.hid ((HRX.out.trans (if_pos hw)).symm.trans HR.out)
        clear HRX HR
        go_wp2_with fail
        refine (runeC b s x y z _ S.out (by omega) (by omega) (U.out.tabs hb2 HT.out) (Nat.le_trans hb2 (Nat.le_of_lt S.out.lt))).mono ?_
        rintro e v1 ⟨rfl, hb⟩
        have S2 := Lib.hid (S.out.below hb); have Z2 := Lib.hid (Z.out.below hb); have K2 := Lib.hid (K.out.below hb)
        have U2 := Lib.hid (U.out.trans (Upd.of_below hb (Nat.le_of_lt S.out.lt)))
        clear S Z K U hb
        have S := S2; have Z := Z2; have K := K2; have U := U2; clear S2 Z2 K2 U2
        go_wp2_with fail
        refine (letterC (rE s x) _).mono ?_
        rintro e v1 ⟨rfl, hb⟩
        rw [hL]
        have S2 := Lib.hid (S.out.below hb); have Z2 := Lib.hid (Z.out.below hb); have K2 := Lib.hid (K.out.below hb)
        have U2 := Lib.hid (U.out.trans (Upd.of_below hb (Nat.le_of_lt S.out.lt)))
        clear S Z K U hb
        have S := S2; have Z := Z2; have K := K2; have U := U2; clear S2 Z2 K2 U2
        go_wp2_with fail
        refine (runeC b s x y z _ S.out (by omega) (by omega) (U.out.tabs hb2 HT.out) (Nat.le_trans hb2 (Nat.le_of_lt S.out.lt))).mono ?_
        rintro e v1 ⟨rfl, hb⟩
        have S2 := Lib.hid (S.out.below hb); have Z2 := Lib.hid (Z.out.below hb); have K2 := Lib.hid (K.out.below hb)
        have U2 := Lib.hid (U.out.trans (Upd.of_below hb (Nat.le_of_lt S.out.lt)))
        clear S Z K U hb
        have S := S2; have Z := Z2; have K := K2; have U := U2; clear S2 Z2 K2 U2
        go_wp2_with fail
        refine (digitC (rE s x) _).mono ?_
        rintro e v1 ⟨rfl, hb⟩
        rw [hD]
        have S2 := Lib.hid (S.out.below hb); have Z2 := Lib.hid (Z.out.below hb); have K2 := Lib.hid (K.out.below hb)
        have U2 := Lib.hid (U.out.trans (Upd.of_below hb (Nat.le_of_lt S.out.lt)))
        clear S Z K U hb
        have S := S2; have Z := Z2; have K := K2; have U := U2; clear S2 Z2 K2 U2
        go_wp2_with fail
        refine (onC b s x y z _ S.out (by omega) hlt (by omega) ⟨hy.1, by omega⟩ ⟨hz.1, by omega⟩ (U.out.tabs hb2 HT.out) (Nat.le_trans hb2 (Nat.le_of_lt S.out.lt))).mono ?_
        rintro e w9 ⟨rfl, hS9, hU9⟩
        have S2 := Lib.hid hS9; have Z2 := Lib.hid (Z.out.upd hU9 hzb); have K2 := Lib.hid (K.out.upd hU9 hkb); have U2 := Lib.hid (U.out.trans hU9)
        clear S Z K U hS9 hU9
        have S := S2; have Z := Z2; have K := K2; have U := U2; clear S2 Z2 K2 U2
        go_wp2_with fail
        go_roundw
        case measure => rw [posOf_sc S.out, pos0.out]; omega
        case rel => exact ⟨k, x + nI s x, lin s x y, col s x z, by omega, by omega, by omega, HY.out, HZ.out, S.out, Z.out, K.out, U.out, HF.out⟩
    · have hw : wordB (rE s x) = true := by unfold wordB; rw [hL]; rfl
      have hlt := run_in s wordB (by decide) x hw
      have hrange := rI_range s x (by omega) hlt
      have HY := Lib.hid (lin_le s x y m (by omega) hlt hy); have HZ := Lib.hid (col_le s x z m (by omega) hlt hm.1 hz)
      have HF := Lib.hid ((HRX.out.trans (if_pos hw)).symm.trans HR.out)
      clear HRX HR
      go_wp2_with fail
      refine (runeC b s x y z _ S.out (by omega) (by omega) (U.out.tabs hb2 HT.out) (Nat.le_trans hb2 (Nat.le_of_lt S.out.lt))).mono ?_
      rintro e v1 ⟨rfl, hb⟩
      have S2 := Lib.hid (S.out.below hb); have Z2 := Lib.hid (Z.out.below hb); have K2 := Lib.hid (K.out.below hb)
      have U2 := Lib.hid (U.out.trans (Upd.of_below hb (Nat.le_of_lt S.out.lt)))
      clear S Z K U hb
      have S := S2; have Z := Z2; have K := K2; have U := U2; clear S2 Z2 K2 U2
      go_wp2_with fail
      refine (letterC (rE s x) _).mono ?_
      rintro e v1 ⟨rfl, hb⟩
      rw [hL]
      have S2 := Lib.hid (S.out.below hb); have Z2 := Lib.hid (Z.out.below hb); have K2 := Lib.hid (K.out.below hb)
      have U2 := Lib.hid (U.out.trans (Upd.of_below hb (Nat.le_of_lt S.out.lt)))
      clear S Z K U hb
      have S := S2; have Z := Z2; have K := K2; have U := U2; clear S2 Z2 K2 U2
      go_wp2_with fail
      refine (onC b s x y z _ S.out (by omega) hlt (by omega) ⟨hy.1, by omega⟩ ⟨hz.1, by omega⟩ (U.out.tabs hb2 HT.out) (Nat.le_trans hb2 (Nat.le_of_lt S.out.lt))).mono ?_
      rintro e w9 ⟨rfl, hS9, hU9⟩
      have S2 := Lib.hid hS9; have Z2 := Lib.hid (Z.out.upd hU9 hzb); have K2 := Lib.hid (K.out.upd hU9 hkb); have U2 := Lib.hid (U.out.trans hU9)
      clear S Z K U hS9 hU9
      have S := S2; have Z := Z2; have K := K2; have U := U2; clear S2 Z2 K2 U2
      go_wp2_with fail
      go_roundw
      case measure => rw [posOf_sc S.out, pos0.out]; omega
      case rel => exact ⟨k, x + nI s x, lin s x y, col s x z, by omega, by omega, by omega, HY.out, HZ.out, S.out, Z.out, K.out, U.out, HF.out⟩
end Go.Proofs.YtgiaogocdihhhaaDoor.Tex
