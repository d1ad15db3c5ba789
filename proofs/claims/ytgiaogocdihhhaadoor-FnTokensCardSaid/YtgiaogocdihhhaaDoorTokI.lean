/- Tokens: a text's and a sign's lexeme, the program's. -/
import Derived.Test.YtgiaogocdihhhaaDoorTokH
namespace Go.Proofs.YtgiaogocdihhhaaDoor.Tex
open Go.RowKit Go.Proofs.YtgiaogocdihhhaaDoorW.PrintWords Go.Proofs.YtgiaogocdihhhaaDoorW.PrintLast Go.Proofs.YtgiaogocdihhhaaDoorW.PrintMore Go.Proofs.YtgiaogocdihhhaaDoor.PFnExactTokens
set_option linter.unusedVariables false
set_option linter.unusedSimpArgs false

theorem letB_34 : letB 34 = false := by decide
theorem digB_34 : digB 34 = false := by decide
set_option maxHeartbeats 8000000 in
set_option maxRecDepth 100000 in
theorem lexText (b : Nat) (s : ByteArray) (a l c m : Int) (w : World) (hB : Sc w b s a l c) (h0 : 0 ≤ a) (h : a < (s.size : Int)) (h34 : rI s a = 34) (hs : s.size ≤ 1073741824) (hm : 1 ≤ m ∧ m ≤ 1073741824) (hl : 0 ≤ l ∧ l ≤ m + a) (hc : 0 ≤ c ∧ c ≤ m + a) (hT : Tabs w) (hb2 : 2 ≤ b) (n : Nat) (hn : s.size < n + (a + 1).toNat) (R : Int × Int × List Int × Int × Int × Int) (hR : txt s a n (a + 1) l (c + 1) [] = R) :
    Calls Tryd.prog 32 #[.pointer (some ⟨b, 0, none⟩)] w fun e w' => ((R.1 = 0 ∧ e = .returned (.tuple #[tokV 3 (strOfNums R.2.2.1) 0 a l c, .int .i64 0, .int .i64 0]) ∧ Sc w' b s R.2.2.2.1 R.2.2.2.2.1 R.2.2.2.2.2) ∨ (R.1 ≠ 0 ∧ e = .returned (.tuple #[tok0, .int .i64 R.1, .int .i64 R.2.1]))) ∧ Upd b w w' := by
  have HR := Lib.hid hR; have H34 := Lib.hid h34
  clear hR
  have hbb := hB.lt
  have HT := Lib.hid hT
  have g1 := hB.cell 1; have g2 := hB.cell 2; have g3 := hB.cell 3
  simp only [List.getElem?_toArray, List.getElem?_cons_succ, List.getElem?_cons_zero] at g1 g2 g3
  have S := Lib.hid hB
  clear hT hB
  have hzb : w.heap.size ≠ b := by omega
  have hkb : w.heap.size + 1 ≠ b := by omega
  go_enter Tryd.func32, Tryd.ntmps32
  go_wp2_with fail
  refine nm_w fun E hE => ?_
  have hEb : Below w.heap.size w E := by rw [hE]; exact (Below.refl _ w).alloc (Nat.le_refl _) _
  have S2 := Lib.hid (S.out.below hEb)
  have hEs : E.heap.size = w.heap.size + 1 := by rw [hE]; simp
  have Z := Lib.hid (show Blk E w.heap.size 35 (tokC 0 ⟨#[]⟩ 0 0 0 0) by rw [hE]; exact heap_alloc_new w _)
  clear hE
  replace g1 := (hEb.cell (p := ⟨b, 1, none⟩) hbb).trans g1
  replace g2 := (hEb.cell (p := ⟨b, 2, none⟩) hbb).trans g2
  replace g3 := (hEb.cell (p := ⟨b, 3, none⟩) hbb).trans g3
  go_region
  clear g1 g2 g3
  obtain ⟨E2, hE2⟩ : ∃ E2, (E.alloc (.cells #[.int .i64 0, .string ⟨#[]⟩, .int .i64 0, .int .i64 a, .int .i64 l, .int .i64 c] 35)).drew = E2 := ⟨_, rfl⟩
  rw [hE2]
  have hE2b : Below E.heap.size E E2 := by rw [← hE2]; exact ((Below.refl _ E).alloc (Nat.le_refl _) _).drew
  have K := Lib.hid (show Blk E2 (w.heap.size + 1) 35 (tokC 0 ⟨#[]⟩ 0 a l c) by rw [← hE2, ← hEs]; exact heap_alloc_new E _)
  clear hE2
  have S3 := Lib.hid (S2.out.below hE2b); have Z2 := Lib.hid (Z.out.below hE2b); have U := Lib.hid (Upd.of_below (below_step hEb hE2b) (Nat.le_of_lt hbb))
  clear S S2 Z hEb hE2b hEs
  have S := S3; have Z := Z2; clear S3 Z2
  have eR : rE s a = rI s a := by unfold rE; rw [if_pos h]
  rw [h34] at eR
  clear h34
  go_wp2_with fail
  refine (runeC b s a l c _ S.out (by omega) (by omega) (U.out.tabs hb2 HT.out) (Nat.le_trans hb2 (Nat.le_of_lt S.out.lt))).mono ?_
  rintro e v1 ⟨rfl, hb⟩
  rw [eR]
  have S2 := Lib.hid (S.out.below hb); have Z2 := Lib.hid (Z.out.below hb); have K2 := Lib.hid (K.out.below hb)
  have U2 := Lib.hid (U.out.trans (Upd.of_below hb (Nat.le_of_lt S.out.lt)))
  clear S Z K U hb
  have S := S2; have Z := Z2; have K := K2; have U := U2; clear S2 Z2 K2 U2
  go_wp2_with fail
  refine (letterC 34 _).mono ?_
  rintro e v1 ⟨rfl, hb⟩
  rw [letB_34]
  have S2 := Lib.hid (S.out.below hb); have Z2 := Lib.hid (Z.out.below hb); have K2 := Lib.hid (K.out.below hb)
  have U2 := Lib.hid (U.out.trans (Upd.of_below hb (Nat.le_of_lt S.out.lt)))
  clear S Z K U hb
  have S := S2; have Z := Z2; have K := K2; have U := U2; clear S2 Z2 K2 U2
  go_wp2_with fail
  refine (digitC 34 _).mono ?_
  rintro e v1 ⟨rfl, hb⟩
  rw [digB_34]
  have S2 := Lib.hid (S.out.below hb); have Z2 := Lib.hid (Z.out.below hb); have K2 := Lib.hid (K.out.below hb)
  have U2 := Lib.hid (U.out.trans (Upd.of_below hb (Nat.le_of_lt S.out.lt)))
  clear S Z K U hb
  have S := S2; have Z := Z2; have K := K2; have U := U2; clear S2 Z2 K2 U2
  go_wp2_with fail
  refine (textC b s a l c m _ S.out h0 h H34.out hs hm hl hc (U.out.tabs hb2 HT.out) hb2 n hn R HR.out).mono ?_
  rintro e w9 ⟨rfl, hS9, hU9⟩
  have SS := Lib.hid hS9; have Z2 := Lib.hid (Z.out.upd hU9 hzb); have K2 := Lib.hid (K.out.upd hU9 hkb); have U2 := Lib.hid (U.out.trans hU9); have hlw := hU9.1.size
  have hbw := S.out.lt
  clear S Z K U hS9 hU9
  have Z := Z2; have K := K2; have U := U2; clear Z2 K2 U2
  obtain ⟨cd, hcd⟩ : ∃ cd, R.1 = cd := ⟨_, rfl⟩
  obtain ⟨pl, hpl⟩ : ∃ pl, R.2.1 = pl := ⟨_, rfl⟩
  obtain ⟨T, hTT⟩ : ∃ T, strOfNums R.2.2.1 = T := ⟨_, rfl⟩
  rw [hcd, hpl, hTT]
  have HCD := Lib.hid hcd; have HPL := Lib.hid hpl; have HTT := Lib.hid hTT
  rw [hcd] at SS
  clear hcd hpl hTT eR
  rcases hz : (cd == 0) with _ | _
  · have hz1 : (cd != 0) = true := by rw [bne, hz]; rfl
    have HZ := Lib.hid (show cd ≠ 0 by simpa using hz)
    go_wp2_with (go_at_call 55; refine (fail55 _ _ _).mono ?_; rintro e v2 ⟨rfl, hb⟩; have Z9 := Z.out.below hb; obtain ⟨p0, p1, p2, p3, p4, p5⟩ := tok_cells Z9; obtain ⟨y0, y1, y2, y3, y4, y5⟩ := tok_thaw Z9)
    ((try simp only [Exit.inBlock, Exit.then]); refine bodyPost_ret (ret35 rfl _ _ _ _ _ _ _ _ _ rfl (blk6 Z9)) rfl ?_)
    refine ⟨.inr ⟨by rw [HCD.out]; exact HZ.out, by rw [HCD.out, HPL.out]; rfl⟩, ?_⟩
    exact (U.out.trans (Upd.of_below hb (by omega))).grow (six (Nat.le_refl _) _ _ _ _ _ _) (Nat.le_of_lt hbb)
  · obtain rfl : cd = 0 := by simpa using hz
    have S := Lib.hid (SS.out rfl)
    clear SS hz
    obtain ⟨k0, k1, k2, k3, k4, k5⟩ := tok_cells K.out
    have z0 := tok_thaw Z.out; have q0 := tok_cells Z.out; have kt := tok_thaw K.out
    obtain ⟨y0, y1, y2, y3, y4, y5⟩ := z0; obtain ⟨p0, p1, p2, p3, p4, p5⟩ := q0; obtain ⟨f0, f1, f2, f3, f4, f5⟩ := kt
    go_wp2_with fail
    ((try simp only [Exit.inBlock, Exit.then]); refine bodyPost_ret (ret35 rfl _ _ _ _ _ _ _ _ _ rfl (blk6 ((Z.out.far (by omega)).far (by omega)))) rfl ?_)
    have hst : Below w.heap.size w9 ((w9.setCell ⟨w.heap.size + 1, 0, none⟩ (.int .i64 3)).setCell ⟨w.heap.size + 1, 1, none⟩ (.string T)) := ((Below.refl w.heap.size w9).setCell (p := ⟨w.heap.size + 1, 0, none⟩) (show w.heap.size ≤ w.heap.size + 1 by omega) _).setCell (p := ⟨w.heap.size + 1, 1, none⟩) (show w.heap.size ≤ w.heap.size + 1 by omega) _
    refine ⟨.inl ⟨HCD.out, by rw [HTT.out]; rfl, S.out.low (hst.trans (six (Nat.le_refl _) _ _ _ _ _ _)) hbb⟩, ?_⟩
    exact U.out.grow (hst.trans (six (Nat.le_refl _) _ _ _ _ _ _)) (Nat.le_of_lt hbb)

/-- The signs of one byte. -/
def signs : ByteArray := ⟨#[40, 41, 123, 125, 44, 59, 46, 61, 60, 43, 45, 42, 47, 37, 33]⟩
def twoB (s : ByteArray) (a : Int) : Bool := Lib.hasPrefix (s.extract a.toNat s.size).data.toList [61, 61] || Lib.hasPrefix (s.extract a.toNat s.size).data.toList [33, 61] || Lib.hasPrefix (s.extract a.toNat s.size).data.toList [60, 61]
def oneB (v : Int) : Bool := (v == 40) || (v == 41) || (v == 123) || (v == 125) || (v == 44) || (v == 59) || (v == 46) || (v == 61) || (v == 60) || (v == 43) || (v == 45) || (v == 42) || (v == 47) || (v == 37) || (v == 33)
theorem one_fin : ∀ c : Fin 256, decide (0 ≤ Lib.indexByte signs.data.toList (UInt8.ofNat c.val)) = oneB (c.val : Int) := by decide +kernel
theorem ext_one (s : ByteArray) (a : Int) (h0 : 0 ≤ a) (h : a < (s.size : Int)) : s.extract a.toNat (a + 1).toNat = ⟨#[s.get! a.toNat]⟩ := by
  apply ByteArray.ext
  rw [ByteArray.data_extract]
  apply Array.ext
  · have hz : s.data.size = s.size := rfl
    simp
    omega
  · intro i h1 h2
    have hz : s.data.size = s.size := rfl
    simp at h2
    subst h2
    simp
    show s.data[a.toNat] = s.data[a.toNat]!
    rw [getElem!_pos]
theorem containsC (s : ByteArray) (a : Int) (w : World) (h0 : 0 ≤ a) (h : a < (s.size : Int)) :
    Calls Tryd.prog 60 #[.string signs, .string (s.extract a.toNat (a + 1).toNat)] w fun e w' => e = .returned (.bool (oneB (bt s a))) ∧ w' = w := by
  rw [ext_one s a h0 h]
  have hf := one_fin ⟨(s.get! a.toNat).toNat, (s.get! a.toNat).toNat_lt⟩
  have hb : bt s a = (((s.get! a.toNat).toNat : Nat) : Int) := bt_bI s a h0
  rw [hb]
  simp only [UInt8.ofNat_toNat] at hf
  rw [← hf]
  exact Tryd.strings_Contains_one signs _ w
end Go.Proofs.YtgiaogocdihhhaaDoor.Tex
