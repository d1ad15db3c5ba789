/- Tokens: blanks and remarks. -/
import Derived.Test.YtgiaogocdihhhaaDoorTokA
namespace Go.Proofs.YtgiaogocdihhhaaDoor.Tex
open Go.RowKit Go.Proofs.YtgiaogocdihhhaaDoorW.PrintWords Go.Proofs.YtgiaogocdihhhaaDoorW.PrintLast Go.Proofs.YtgiaogocdihhhaaDoorW.PrintMore
set_option linter.unusedVariables false
set_option linter.unusedSimpArgs false

def sl2 (s : ByteArray) (a : Int) : Bool := Lib.hasPrefix (s.extract a.toNat s.size).data.toList [47, 47]
def blB (r : Int) : Bool := (r == 32) || (r == 9) || (r == 10) || (r == 13)
/-- Blanks and remarks from a place on; rm: within a remark. A code, and where it ended. -/
def blk (s : ByteArray) : Nat → Bool → Int → Int → Int → Int × Int × Int × Int
  | 0, _, a, l, c => (0, a, l, c)
  | n + 1, rm, a, l, c =>
    if (s.size : Int) ≤ a then (0, a, l, c)
    else if (rm && wrongB s a) = true then (3, a, l, c)
    else if ((rm && (rI s a != 10)) || sl2 s a) = true then blk s n true (a + nI s a) (lin s a l) (col s a c)
    else if blB (rI s a) = true then blk s n false (a + nI s a) (lin s a l) (col s a c)
    else (0, a, l, c)

theorem rune_low (s : ByteArray) (a : Int) (h0 : 0 ≤ a) (h : a < (s.size : Int)) (v : Nat) (hv : v < 128) (hb : bv s a.toNat = v) : rI s a = (v : Int) ∧ nI s a = 1 := by
  unfold rI nI
  rw [dec_eq, hb]
  have h1 : s.size - a.toNat ≠ 0 := by omega
  unfold Lib.decodeN
  simp [h1, hv]
theorem sl2_byte (s : ByteArray) (a : Int) (h0 : 0 ≤ a) (h : a < (s.size : Int)) (hs : sl2 s a = true) : bv s a.toNat = 47 := by
  unfold sl2 Lib.hasPrefix at hs
  obtain ⟨t, ht⟩ := List.isPrefixOf_iff_prefix.1 hs
  have h2 := bv_extract s a.toNat 0
  rw [Nat.add_zero] at h2
  rw [← h2]
  show ((s.extract a.toNat s.size).data[0]!).toNat = 47
  have h3 : (s.extract a.toNat s.size).data = (47 :: 47 :: t).toArray := by
    rw [← Array.toList_inj, ← ht]
    rfl
  rw [h3]
  rfl
theorem sl2_rune (s : ByteArray) (a : Int) (h0 : 0 ≤ a) (h : a < (s.size : Int)) (hs : sl2 s a = true) : rI s a = 47 := (rune_low s a h0 h 47 (by omega) (sl2_byte s a h0 h hs)).1
theorem sl2_no (s : ByteArray) (a : Int) (h0 : 0 ≤ a) (h : a < (s.size : Int)) (hr : rI s a ≠ 47) : sl2 s a = false := by
  rcases q : sl2 s a with _ | _
  · rfl
  · exact absurd (sl2_rune s a h0 h q) hr
theorem sl2_end (s : ByteArray) (a : Int) (h0 : 0 ≤ a) (h : ¬ a < (s.size : Int)) : sl2 s a = false := by
  unfold sl2 Lib.hasPrefix
  have hz : (s.extract a.toNat s.size).data.toList = [] := by
    apply List.eq_nil_of_length_eq_zero
    rw [Array.length_toList]
    show (s.extract a.toNat s.size).size = 0
    rw [ByteArray.size_extract]
    omega
  rw [hz]
  rfl
theorem blk_end (s : ByteArray) (k : Nat) (rm : Bool) (a l c : Int) (h : ¬ a < (s.size : Int)) : blk s (k + 1) rm a l c = (0, a, l, c) := by
  simp only [blk]
  rw [if_pos (by omega)]
theorem blk_blank (s : ByteArray) (k : Nat) (a l c : Int) (h0 : 0 ≤ a) (h : a < (s.size : Int)) (hb : blB (rI s a) = true) : blk s (k + 1) false a l c = blk s k false (a + nI s a) (lin s a l) (col s a c) := by
  have h47 : rI s a ≠ 47 := by
    intro e
    rw [e] at hb
    revert hb
    decide
  simp only [blk]
  rw [if_neg (by omega), sl2_no s a h0 h h47, hb]
  simp
theorem blk_stop (s : ByteArray) (k : Nat) (a l c : Int) (h : a < (s.size : Int)) (hs : sl2 s a = false) (hb : blB (rI s a) = false) : blk s (k + 1) false a l c = (0, a, l, c) := by
  simp only [blk]
  rw [if_neg (by omega), hs, hb]
  simp
theorem blk_slash (s : ByteArray) (k : Nat) (a l c : Int) (h0 : 0 ≤ a) (h : a < (s.size : Int)) (hs : sl2 s a = true) : blk s (k + 1) false a l c = blk s (k + 1) true a l c := by
  have hw : wrongB s a = false := by
    unfold wrongB
    rw [sl2_rune s a h0 h hs]
    rfl
  simp only [blk]
  rw [hs, hw]
  simp
theorem blk_wrong (s : ByteArray) (k : Nat) (a l c : Int) (h : a < (s.size : Int)) (hw : wrongB s a = true) : blk s (k + 1) true a l c = (3, a, l, c) := by
  simp only [blk]
  rw [if_neg (by omega), hw]
  simp
theorem blk_in (s : ByteArray) (k : Nat) (a l c : Int) (h : a < (s.size : Int)) (hw : wrongB s a = false) (hr : (rI s a == 10) = false) : blk s (k + 1) true a l c = blk s k true (a + nI s a) (lin s a l) (col s a c) := by
  have hr2 : (rI s a != 10) = true := by rw [bne, hr]; rfl
  simp only [blk]
  rw [if_neg (by omega), hw, hr2]
  simp
theorem blk_line (s : ByteArray) (k : Nat) (a l c : Int) (h0 : 0 ≤ a) (h : a < (s.size : Int)) (hr : rI s a = 10) : blk s (k + 1) true a l c = blk s (k + 1) false a l c := by
  have hw : wrongB s a = false := by
    unfold wrongB
    rw [hr]
    rfl
  simp only [blk]
  rw [hw, hr]
  simp
def posOf (b : Nat) (w : World) : Nat := match w.cell? ⟨b, 1, none⟩ with
  | some (.int _ x) => x.toNat
  | _ => 0
theorem posOf_sc {w : World} {b : Nat} {s : ByteArray} {a l c : Int} (h : Sc w b s a l c) : posOf b w = a.toNat := by
  unfold posOf
  rw [h.cell 1]
  rfl
theorem lin_le (s : ByteArray) (a l m : Int) (h0 : 0 ≤ a) (h : a < (s.size : Int)) (hl : 0 ≤ l ∧ l ≤ m + a) : 0 ≤ lin s a l ∧ lin s a l ≤ m + (a + nI s a) := by
  have := rI_range s a h0 h
  unfold lin
  split <;> omega
theorem col_le (s : ByteArray) (a c m : Int) (h0 : 0 ≤ a) (h : a < (s.size : Int)) (hm : 1 ≤ m) (hc : 0 ≤ c ∧ c ≤ m + a) : 0 ≤ col s a c ∧ col s a c ≤ m + (a + nI s a) := by
  have := rI_range s a h0 h
  unfold col
  split <;> omega
set_option maxHeartbeats 2000000 in
set_option maxRecDepth 100000 in
theorem failC (b : Nat) (s : ByteArray) (a l c : Int) (V : Value) (cd bd x y : Int) (w : World) (hB : Ls w b s a l c V cd bd) :
    Calls Tryd.prog 43 #[.pointer (some ⟨b, 0, none⟩), .int .i64 x, .int .i64 y] w fun e w' => e = .returned (.tuple #[]) ∧ Ls w' b s a l c V (if cd = 0 then x else cd) (if cd = 0 then y else bd) ∧ Upd b w w' := by
  have hlt := hB.lt
  have g5 := hB.cell 5
  have g6 := hB.cell 6
  simp only [List.getElem?_toArray, List.getElem?_cons_succ, List.getElem?_cons_zero] at g5 g6
  have f5 := hB.thaw 5
  have f6 := hB.thaw 6
  have HB := Lib.hid hB
  clear hB
  by_cases h : cd = 0
  · subst h
    go_enter Tryd.func43, Tryd.ntmps43
    go_wp2_with fail
    go_end0
    exact ⟨rfl, (HB.out.set 5 (.int .i64 x)).set 6 (.int .i64 y), ((Upd.of_below (Below.refl _ w) (Nat.le_of_lt hlt)).set 5 _).set 6 _⟩
  · have hb : (cd == 0) = false := by simpa using h
    rw [if_neg h, if_neg h]
    have HH := Lib.hid h
    clear h
    go_enter Tryd.func43, Tryd.ntmps43
    go_wp2_with fail
    go_end0
    exact ⟨rfl, HB.out, Upd.of_below (Below.refl _ w) (Nat.le_of_lt hlt)⟩

set_option maxHeartbeats 4000000 in
set_option maxRecDepth 100000 in
theorem blanksC (b : Nat) (s : ByteArray) (a l c m : Int) (w : World) (hB : Sc w b s a l c) (h0 : 0 ≤ a) (ha : a ≤ (s.size : Int)) (hs : s.size ≤ 1073741824) (hm : 1 ≤ m ∧ m ≤ 1073741824) (hl : 0 ≤ l ∧ l ≤ m + a) (hc : 0 ≤ c ∧ c ≤ m + a) (hT : Tabs w) (hb2 : 2 ≤ b) (n : Nat) (hn : s.size < n + a.toNat) (R : Int × Int × Int × Int) (hR : blk s n false a l c = R) :
    Calls Tryd.prog 30 #[.pointer (some ⟨b, 0, none⟩)] w fun e w' => e = .returned (.tuple #[.int .i64 R.1, .int .i64 (if R.1 = 0 then 0 else R.2.1)]) ∧ Sc w' b s R.2.1 R.2.2.1 R.2.2.2 ∧ Upd b w w' := by
  have HB := Lib.hid hB
  have HT := Lib.hid hT
  have HR := Lib.hid hR
  have HL := Lib.hid (And.intro hl hc)
  have hlt := hB.lt
  clear hB hT hR hl hc
  obtain ⟨pl, hpl⟩ : ∃ pl : Int, (if R.1 = 0 then 0 else R.2.1) = pl := ⟨_, rfl⟩
  rw [hpl]
  have HPL := Lib.hid hpl
  clear hpl
  go_enter Tryd.func30, Tryd.ntmps30
  go_wp2_with fail
  go_loopw [4] (fun rv wr => ∃ (n : Nat) (x y z : Int), 0 ≤ x ∧ x ≤ (s.size : Int) ∧ s.size < n + x.toNat ∧ (0 ≤ y ∧ y ≤ m + x) ∧ (0 ≤ z ∧ z ≤ m + x) ∧ Sc wr b s x y z ∧ blk s n false x y z = R ∧ Upd b w wr) (fun _ wr => s.size - posOf b wr)
  case atStart => exact ⟨n, a, l, c, h0, ha, hn, HL.out.1, HL.out.2, HB.out, HR.out, Upd.of_below (Below.refl _ w) (Nat.le_of_lt hlt)⟩
  case round =>
    clear HB HR HL
    obtain ⟨n, x, y, z, hx0, hxs, hn, hy, hz, hS, hR, hU⟩ := hrel
    have HS := Lib.hid hS
    have HU := Lib.hid hU
    have HR := Lib.hid hR
    have HT1 := Lib.hid (hU.tabs hb2 HT.out)
    have hb2r : 2 ≤ wr.heap.size := Nat.le_trans hb2 (Nat.le_of_lt hS.lt)
    have pos0 := Lib.hid (posOf_sc hS)
    obtain ⟨k, rfl⟩ : ∃ k, n = k + 1 := ⟨n - 1, by omega⟩
    clear hS hU hR
    have cR := runeC b s x y z wr HS.out hx0 (by omega) HT1.out hb2r
    by_cases hlt2 : x < (s.size : Int)
    · have cO := fun V (hV : Sc V b s x y z) hVT => onC b s x y z V hV hx0 hlt2 (by omega) ⟨hy.1, by omega⟩ ⟨hz.1, by omega⟩ hVT
      have HBL := Lib.hid (blk_blank s k x y z hx0 hlt2)
      have HST := Lib.hid (blk_stop s k x y z hlt2)
      have HSL := Lib.hid (blk_slash s k x y z hx0 hlt2)
      have HNO := Lib.hid (sl2_no s x hx0 hlt2)
      have hrange := rI_range s x hx0 hlt2
      unfold rE at cR
      rw [if_pos hlt2] at cR
      have HY := Lib.hid (lin_le s x y m hx0 hlt2 hy)
      have HZ := Lib.hid (col_le s x z m hx0 hlt2 hm.1 hz)
      obtain ⟨K, hK⟩ : ∃ K, nI s x = K := ⟨_, rfl⟩
      obtain ⟨r, hr⟩ : ∃ r, rI s x = r := ⟨_, rfl⟩
      obtain ⟨y2, hy2⟩ : ∃ y2, lin s x y = y2 := ⟨_, rfl⟩
      obtain ⟨z2, hz2⟩ : ∃ z2, col s x z = z2 := ⟨_, rfl⟩
      rw [hK, hy2, hz2] at cO HBL
      rw [hr] at cR HBL HST HNO hrange
      rw [hK] at hrange HY HZ
      rw [hy2] at HY
      rw [hz2] at HZ
      have HKK := Lib.hid hK; have HRR := Lib.hid hr; have HY2 := Lib.hid hy2; have HZ2 := Lib.hid hz2
      clear hK hr hy2 hz2
      obtain ⟨hr1, hr2, hk1, hk2, hk3⟩ := hrange
      rcases h0 : (r == 32) with _ | _
      · skip
        rcases h1 : (r == 9) with _ | _
        · skip
          rcases h2 : (r == 10) with _ | _
          · skip
            rcases h3 : (r == 13) with _ | _
            · skip
              have hbl : blB r = false := by unfold blB; rw [h0, h1, h2, h3]; rfl
              have hp : ∀ V, Calls Tryd.prog 54 #[.string (s.extract x.toNat s.size), .string ⟨#[47, 47]⟩] V fun e w' => e = .returned (.bool (sl2 s x)) ∧ w' = V := fun V => Tryd.strings_HasPrefix _ _ V
              rcases hsl : sl2 s x with _ | _
              · rw [hsl] at hp
                have HRZ := Lib.hid ((HST.out hsl hbl).symm.trans HR.out)
                go_wp2_with (go_at_call 52; refine cR.mono ?_; rintro e w1 ⟨rfl, hb⟩)
                have HS1 := Lib.hid (HS.out.below hb)
                have HU1 := Lib.hid (HU.out.trans (Upd.of_below hb (Nat.le_of_lt HS.out.lt)))
                have hdr : Below w1.heap.size w1 w1.drew := below_drew1 (Below.refl _ _)
                have HS2 := Lib.hid (HS1.out.below hdr)
                have HU2 := Lib.hid (HU1.out.trans (Upd.of_below hdr (Nat.le_of_lt HS1.out.lt)))
                have u0 : w1.drew.cell? ⟨b, 0, none⟩ = some (.string s) := HS2.out.cell 0
                have u1 : w1.drew.cell? ⟨b, 1, none⟩ = some (.int .i64 x) := HS2.out.cell 1
                clear hb hdr
                refine start_ (n := 11) (S := fun w' => w'.cell? ⟨b, 0, none⟩ = some (.string s) ∧ w'.cell? ⟨b, 1, none⟩ = some (.int .i64 x)) (ds := []) #[false, false, false, false, false, false, false, false, false, false, false] (by kernel_rfl) rfl rfl ⟨u0, u1⟩ (fun hHeld => ?_)
                refine pure_ (i := 0) (N := some 25) (v := ?_) (a' := ?_) #[true, false, false, false, false, false, false, false, false, false, false] rfl rfl (by kernel_rfl) (fun _ _ _ h => h) (Or.inl ⟨by rfl, ?_⟩) ?_ ?_
                rotate_left
                · intro w'
                  go_simp
                  with_reducible rfl
                rotate_left
                · simp only [Act.put, List.setIfInBounds_toArray, List.set_cons_zero, List.set_cons_succ, i64_w, i32_w]
                  rfl
                refine pure_ (i := 1) (N := some 26) (v := ?_) (a' := ?_) #[true, true, false, false, false, false, false, false, false, false, false] rfl rfl (by kernel_rfl) (fun _ _ _ h => h) (Or.inl ⟨by rfl, ?_⟩) ?_ ?_
                rotate_left
                · intro w'
                  go_simp
                  with_reducible rfl
                rotate_left
                · simp only [Act.put, List.setIfInBounds_toArray, List.set_cons_zero, List.set_cons_succ, i64_w, i32_w]
                  rfl
                refine pure_ (i := 2) (N := some 27) (v := ?_) (a' := ?_) #[true, true, true, false, false, false, false, false, false, false, false] rfl rfl (by kernel_rfl) (fun _ _ _ h => h) (Or.inl ⟨by rfl, ?_⟩) ?_ ?_
                rotate_left
                · intro w'
                  go_simp
                  with_reducible rfl
                rotate_left
                · simp only [Act.put, List.setIfInBounds_toArray, List.set_cons_zero, List.set_cons_succ, i64_w, i32_w]
                  rfl
                refine pure_ (i := 4) (N := some 29) (v := ?_) (a' := ?_) #[true, true, true, false, true, false, false, false, false, false, false] rfl rfl (by kernel_rfl) (fun _ _ _ h => h) (Or.inl ⟨by rfl, ?_⟩) ?_ ?_
                rotate_left
                · intro w'
                  go_simp
                  with_reducible rfl
                rotate_left
                · simp only [Act.put, List.setIfInBounds_toArray, List.set_cons_zero, List.set_cons_succ, i64_w, i32_w]
                  rfl
                refine pure_ (i := 5) (N := some 30) (v := ?_) (a' := ?_) #[true, true, true, false, true, true, false, false, false, false, false] rfl rfl (by kernel_rfl) (fun _ _ _ h => h) (Or.inl ⟨by rfl, ?_⟩) ?_ ?_
                rotate_left
                · intro w'
                  go_simp
                  with_reducible rfl
                rotate_left
                · simp only [Act.put, List.setIfInBounds_toArray, List.set_cons_zero, List.set_cons_succ, i64_w, i32_w]
                  rfl
                refine pure_ (i := 6) (N := some 31) (v := ?_) (a' := ?_) #[true, true, true, false, true, true, true, false, false, false, false] rfl rfl (by kernel_rfl) (fun _ _ _ h => h) (Or.inl ⟨by rfl, ?_⟩) ?_ ?_
                rotate_left
                · intro w'
                  go_simp
                  with_reducible rfl
                rotate_left
                · simp only [Act.put, List.setIfInBounds_toArray, List.set_cons_zero, List.set_cons_succ, i64_w, i32_w]
                  rfl
                refine take_ (i := 3) (N := some 28) (v := ?_) (a' := ?_) #[true, true, true, true, true, true, true, false, false, false, false] rfl rfl (by kernel_rfl) (fun _ _ _ h => h) (Or.inl ⟨by rfl, ?_⟩) hHeld ?_ ?_
                rotate_left
                · rintro w' ⟨s0, s1⟩
                  go_simp
                  with_reducible rfl
                rotate_left
                · simp only [Act.put, List.setIfInBounds_toArray, List.set_cons_zero, List.set_cons_succ, i64_w, i32_w]
                  rfl
                refine take_ (i := 7) (N := some 32) (v := ?_) (a' := ?_) #[true, true, true, true, true, true, true, true, false, false, false] rfl rfl (by kernel_rfl) (fun _ _ _ h => h) (Or.inl ⟨by rfl, ?_⟩) hHeld ?_ ?_
                rotate_left
                · rintro w' ⟨s0, s1⟩
                  go_simp
                  with_reducible rfl
                rotate_left
                · simp only [Act.put, List.setIfInBounds_toArray, List.set_cons_zero, List.set_cons_succ, i64_w, i32_w]
                  rfl
                refine pure_ (i := 8) (N := some 33) (v := ?_) (a' := ?_) #[true, true, true, true, true, true, true, true, true, false, false] rfl rfl (by kernel_rfl) (fun _ _ _ h => h) (Or.inl ⟨by rfl, ?_⟩) ?_ ?_
                rotate_left
                · intro w'
                  go_simp
                  with_reducible rfl
                rotate_left
                · simp only [Act.put, List.setIfInBounds_toArray, List.set_cons_zero, List.set_cons_succ, i64_w, i32_w]
                  rfl
                refine one_ (i := 9) (N := some 34) #[true, true, true, true, true, true, true, true, true, true, false] rfl rfl (by kernel_rfl) (by decide) (fun K hK => ?_)
                refine goes_ Tryd.func54 (by kernel_rfl) rfl #[.string (s.extract x.toNat s.size), .string ⟨#[47, 47]⟩] (by rfl) rfl rfl (by simp only [List.map_toArray, List.map_cons, List.map_nil]; rfl) ?_
                with_reducible refine ((hp _)).mono ?_
                rintro e w3 ⟨rfl, rfl⟩
                refine ⟨_, rfl, ?_⟩
                refine hK.out _ _ ⟨u0, u1⟩ (fun hHeld => ?_)
                clear hK K
                refine norm_ (a' := ?_) ?_ ?_
                rotate_left
                · show Act.put _ (some 34) _ = _
                  simp only [Act.put, List.setIfInBounds_toArray, List.set_cons_zero, List.set_cons_succ, i64_w, i32_w]
                  rfl
                refine pure_ (i := 10) (N := some 24) (v := ?_) (a' := ?_) #[true, true, true, true, true, true, true, true, true, true, true] rfl rfl (by kernel_rfl) (fun _ _ _ h => h) (Or.inl ⟨by rfl, ?_⟩) ?_ ?_
                rotate_left
                · intro w'
                  go_simp
                  with_reducible rfl
                rotate_left
                · simp only [Act.put, List.setIfInBounds_toArray, List.set_cons_zero, List.set_cons_succ, i64_w, i32_w]
                  rfl
                refine done_ (by kernel_rfl) ?_
                go_wp2_with fail
                go_ret2
                rw [← HPL.out, ← HRZ.out]
                exact ⟨rfl, HS2.out, HU2.out⟩
              · rw [hsl] at hp
                have HRZ := Lib.hid ((HSL.out hsl).symm.trans HR.out)
                go_wp2_with (go_at_call 52; refine cR.mono ?_; rintro e w1 ⟨rfl, hb⟩)
                have HS1 := Lib.hid (HS.out.below hb)
                have HU1 := Lib.hid (HU.out.trans (Upd.of_below hb (Nat.le_of_lt HS.out.lt)))
                have hdr : Below w1.heap.size w1 w1.drew := below_drew1 (Below.refl _ _)
                have HS2 := Lib.hid (HS1.out.below hdr)
                have HU2 := Lib.hid (HU1.out.trans (Upd.of_below hdr (Nat.le_of_lt HS1.out.lt)))
                have u0 : w1.drew.cell? ⟨b, 0, none⟩ = some (.string s) := HS2.out.cell 0
                have u1 : w1.drew.cell? ⟨b, 1, none⟩ = some (.int .i64 x) := HS2.out.cell 1
                clear hb hdr
                refine start_ (n := 11) (S := fun w' => w'.cell? ⟨b, 0, none⟩ = some (.string s) ∧ w'.cell? ⟨b, 1, none⟩ = some (.int .i64 x)) (ds := []) #[false, false, false, false, false, false, false, false, false, false, false] (by kernel_rfl) rfl rfl ⟨u0, u1⟩ (fun hHeld => ?_)
                refine pure_ (i := 0) (N := some 25) (v := ?_) (a' := ?_) #[true, false, false, false, false, false, false, false, false, false, false] rfl rfl (by kernel_rfl) (fun _ _ _ h => h) (Or.inl ⟨by rfl, ?_⟩) ?_ ?_
                rotate_left
                · intro w'
                  go_simp
                  with_reducible rfl
                rotate_left
                · simp only [Act.put, List.setIfInBounds_toArray, List.set_cons_zero, List.set_cons_succ, i64_w, i32_w]
                  rfl
                refine pure_ (i := 1) (N := some 26) (v := ?_) (a' := ?_) #[true, true, false, false, false, false, false, false, false, false, false] rfl rfl (by kernel_rfl) (fun _ _ _ h => h) (Or.inl ⟨by rfl, ?_⟩) ?_ ?_
                rotate_left
                · intro w'
                  go_simp
                  with_reducible rfl
                rotate_left
                · simp only [Act.put, List.setIfInBounds_toArray, List.set_cons_zero, List.set_cons_succ, i64_w, i32_w]
                  rfl
                refine pure_ (i := 2) (N := some 27) (v := ?_) (a' := ?_) #[true, true, true, false, false, false, false, false, false, false, false] rfl rfl (by kernel_rfl) (fun _ _ _ h => h) (Or.inl ⟨by rfl, ?_⟩) ?_ ?_
                rotate_left
                · intro w'
                  go_simp
                  with_reducible rfl
                rotate_left
                · simp only [Act.put, List.setIfInBounds_toArray, List.set_cons_zero, List.set_cons_succ, i64_w, i32_w]
                  rfl
                refine pure_ (i := 4) (N := some 29) (v := ?_) (a' := ?_) #[true, true, true, false, true, false, false, false, false, false, false] rfl rfl (by kernel_rfl) (fun _ _ _ h => h) (Or.inl ⟨by rfl, ?_⟩) ?_ ?_
                rotate_left
                · intro w'
                  go_simp
                  with_reducible rfl
                rotate_left
                · simp only [Act.put, List.setIfInBounds_toArray, List.set_cons_zero, List.set_cons_succ, i64_w, i32_w]
                  rfl
                refine pure_ (i := 5) (N := some 30) (v := ?_) (a' := ?_) #[true, true, true, false, true, true, false, false, false, false, false] rfl rfl (by kernel_rfl) (fun _ _ _ h => h) (Or.inl ⟨by rfl, ?_⟩) ?_ ?_
                rotate_left
                · intro w'
                  go_simp
                  with_reducible rfl
                rotate_left
                · simp only [Act.put, List.setIfInBounds_toArray, List.set_cons_zero, List.set_cons_succ, i64_w, i32_w]
                  rfl
                refine pure_ (i := 6) (N := some 31) (v := ?_) (a' := ?_) #[true, true, true, false, true, true, true, false, false, false, false] rfl rfl (by kernel_rfl) (fun _ _ _ h => h) (Or.inl ⟨by rfl, ?_⟩) ?_ ?_
                rotate_left
                · intro w'
                  go_simp
                  with_reducible rfl
                rotate_left
                · simp only [Act.put, List.setIfInBounds_toArray, List.set_cons_zero, List.set_cons_succ, i64_w, i32_w]
                  rfl
                refine take_ (i := 3) (N := some 28) (v := ?_) (a' := ?_) #[true, true, true, true, true, true, true, false, false, false, false] rfl rfl (by kernel_rfl) (fun _ _ _ h => h) (Or.inl ⟨by rfl, ?_⟩) hHeld ?_ ?_
                rotate_left
                · rintro w' ⟨s0, s1⟩
                  go_simp
                  with_reducible rfl
                rotate_left
                · simp only [Act.put, List.setIfInBounds_toArray, List.set_cons_zero, List.set_cons_succ, i64_w, i32_w]
                  rfl
                refine take_ (i := 7) (N := some 32) (v := ?_) (a' := ?_) #[true, true, true, true, true, true, true, true, false, false, false] rfl rfl (by kernel_rfl) (fun _ _ _ h => h) (Or.inl ⟨by rfl, ?_⟩) hHeld ?_ ?_
                rotate_left
                · rintro w' ⟨s0, s1⟩
                  go_simp
                  with_reducible rfl
                rotate_left
                · simp only [Act.put, List.setIfInBounds_toArray, List.set_cons_zero, List.set_cons_succ, i64_w, i32_w]
                  rfl
                refine pure_ (i := 8) (N := some 33) (v := ?_) (a' := ?_) #[true, true, true, true, true, true, true, true, true, false, false] rfl rfl (by kernel_rfl) (fun _ _ _ h => h) (Or.inl ⟨by rfl, ?_⟩) ?_ ?_
                rotate_left
                · intro w'
                  go_simp
                  with_reducible rfl
                rotate_left
                · simp only [Act.put, List.setIfInBounds_toArray, List.set_cons_zero, List.set_cons_succ, i64_w, i32_w]
                  rfl
                refine one_ (i := 9) (N := some 34) #[true, true, true, true, true, true, true, true, true, true, false] rfl rfl (by kernel_rfl) (by decide) (fun K hK => ?_)
                refine goes_ Tryd.func54 (by kernel_rfl) rfl #[.string (s.extract x.toNat s.size), .string ⟨#[47, 47]⟩] (by rfl) rfl rfl (by simp only [List.map_toArray, List.map_cons, List.map_nil]; rfl) ?_
                with_reducible refine ((hp _)).mono ?_
                rintro e w3 ⟨rfl, rfl⟩
                refine ⟨_, rfl, ?_⟩
                refine hK.out _ _ ⟨u0, u1⟩ (fun hHeld => ?_)
                clear hK K
                refine norm_ (a' := ?_) ?_ ?_
                rotate_left
                · show Act.put _ (some 34) _ = _
                  simp only [Act.put, List.setIfInBounds_toArray, List.set_cons_zero, List.set_cons_succ, i64_w, i32_w]
                  rfl
                refine pure_ (i := 10) (N := some 24) (v := ?_) (a' := ?_) #[true, true, true, true, true, true, true, true, true, true, true] rfl rfl (by kernel_rfl) (fun _ _ _ h => h) (Or.inl ⟨by rfl, ?_⟩) ?_ ?_
                rotate_left
                · intro w'
                  go_simp
                  with_reducible rfl
                rotate_left
                · simp only [Act.put, List.setIfInBounds_toArray, List.set_cons_zero, List.set_cons_succ, i64_w, i32_w]
                  rfl
                refine done_ (by kernel_rfl) ?_
                go_wp2_with fail
                go_loopw [42] (fun rv wi => ∃ (n : Nat) (x1 y1 z1 : Int), x ≤ x1 ∧ x1 ≤ (s.size : Int) ∧ s.size < n + x1.toNat ∧ (0 ≤ y1 ∧ y1 ≤ m + x1) ∧ (0 ≤ z1 ∧ z1 ≤ m + x1) ∧ Sc wi b s x1 y1 z1 ∧ blk s n true x1 y1 z1 = R ∧ Upd b w wi) (fun _ wi => s.size - posOf b wi)
                case atStart => exact ⟨k + 1, x, y, z, Int.le_refl _, hxs, hn, hy, hz, HS2.out, HRZ.out, HU2.out⟩
                case round =>
                  obtain ⟨n1, x1, y1, z1, hx1, hx1s, hn1, hy1, hz1, hS1, hR1, hU1⟩ := hrel
                  have S1 := Lib.hid hS1; have U1 := Lib.hid hU1; have R1 := Lib.hid hR1; have T1 := Lib.hid (hU1.tabs hb2 HT.out); have pos1 := Lib.hid (posOf_sc hS1)
                  have hb3 : 2 ≤ wr.heap.size := Nat.le_trans hb2 (Nat.le_of_lt hS1.lt)
                  obtain ⟨k1, rfl⟩ : ∃ k1, n1 = k1 + 1 := ⟨n1 - 1, by omega⟩
                  clear hS1 hU1 hR1
                  have cR1 := fun V (hV : Sc V b s x1 y1 z1) hVT hV2 => runeC b s x1 y1 z1 V hV (by omega) (by omega) hVT hV2
                  have cW1 := fun V (hV : Sc V b s x1 y1 z1) hVT hV2 => wrongC b s x1 y1 z1 V hV (by omega) (by omega) hVT hV2
                  by_cases hlt3 : x1 < (s.size : Int)
                  · have hx47 : x1 = x → rI s x1 = 47 := fun e => by rw [e]; exact sl2_rune s x hx0 hlt2 hsl
                    have HIN := Lib.hid (blk_in s k1 x1 y1 z1 hlt3)
                    have HWR := Lib.hid (blk_wrong s k1 x1 y1 z1 hlt3)
                    have HLI := Lib.hid (blk_line s k1 x1 y1 z1 (by omega) hlt3)
                    have cO1 := fun V (hV : Sc V b s x1 y1 z1) hVT => onC b s x1 y1 z1 V hV (by omega) hlt3 (by omega) ⟨hy1.1, by omega⟩ ⟨hz1.1, by omega⟩ hVT
                    have HY1 := Lib.hid (lin_le s x1 y1 m (by omega) hlt3 hy1)
                    have HZ1 := Lib.hid (col_le s x1 z1 m (by omega) hlt3 hm.1 hz1)
                    have hrange1 := rI_range s x1 (by omega) hlt3
                    have e1 : rE s x1 = rI s x1 := by unfold rE; rw [if_pos hlt3]
                    have e2 : wE s x1 = wrongB s x1 := by unfold wE; rw [decide_eq_true hlt3]; rfl
                    rw [e1] at cR1
                    rw [e2] at cW1
                    clear e1 e2
                    obtain ⟨K1, hK1⟩ : ∃ K1, nI s x1 = K1 := ⟨_, rfl⟩
                    obtain ⟨r1, hr1'⟩ : ∃ r1, rI s x1 = r1 := ⟨_, rfl⟩
                    obtain ⟨y3, hy3⟩ : ∃ y3, lin s x1 y1 = y3 := ⟨_, rfl⟩
                    obtain ⟨z3, hz3⟩ : ∃ z3, col s x1 z1 = z3 := ⟨_, rfl⟩
                    obtain ⟨wv, hwv⟩ : ∃ wv, wrongB s x1 = wv := ⟨_, rfl⟩
                    rw [hK1, hy3, hz3] at cO1 HIN
                    rw [hr1'] at cR1 HIN HLI hrange1 hx47
                    rw [hK1] at hrange1 HY1 HZ1
                    rw [hy3] at HY1
                    rw [hz3] at HZ1
                    rw [hwv] at cW1 HIN HWR
                    clear hK1 hr1' hy3 hz3 hwv
                    obtain ⟨hq1, hq2, hq3, hq4, hq5⟩ := hrange1
                    have pq := eq_true hq1
                    have pq2 : decide (r1 ≥ 0) = true := decide_eq_true hq1
                    rcases h10 : (r1 == 10) with _ | _
                    · rcases wv with _ | _
                      · go_wp2_with fail
                        refine (cR1 _ S1.out T1.out hb3).mono ?_
                        rintro e v1 ⟨rfl, hb⟩
                        have S12 := Lib.hid (S1.out.below hb)
                        have U12 := Lib.hid (U1.out.trans (Upd.of_below hb (Nat.le_of_lt S1.out.lt)))
                        have hb3' := Nat.le_trans hb3 hb.size
                        have T12 := Lib.hid (T1.out.below hb3 hb)
                        clear S1 U1 T1 hb hb3
                        have S1 := S12; have U1 := U12; have T1 := T12; have hb3 := hb3'; clear S12 U12 T12 hb3'
                        go_wp2_with fail
                        refine (cR1 _ S1.out T1.out hb3).mono ?_
                        rintro e v1 ⟨rfl, hb⟩
                        have S12 := Lib.hid (S1.out.below hb)
                        have U12 := Lib.hid (U1.out.trans (Upd.of_below hb (Nat.le_of_lt S1.out.lt)))
                        have hb3' := Nat.le_trans hb3 hb.size
                        have T12 := Lib.hid (T1.out.below hb3 hb)
                        clear S1 U1 T1 hb hb3
                        have S1 := S12; have U1 := U12; have T1 := T12; have hb3 := hb3'; clear S12 U12 T12 hb3'
                        go_wp2_with fail
                        refine (cW1 _ S1.out T1.out hb3).mono ?_
                        rintro e v1 ⟨rfl, hb⟩
                        have S12 := Lib.hid (S1.out.below hb)
                        have U12 := Lib.hid (U1.out.trans (Upd.of_below hb (Nat.le_of_lt S1.out.lt)))
                        have hb3' := Nat.le_trans hb3 hb.size
                        have T12 := Lib.hid (T1.out.below hb3 hb)
                        clear S1 U1 T1 hb hb3
                        have S1 := S12; have U1 := U12; have T1 := T12; have hb3 := hb3'; clear S12 U12 T12 hb3'
                        go_wp2_with fail
                        refine (cO1 _ S1.out T1.out hb3).mono ?_
                        rintro e w9 ⟨rfl, hS9, hU9⟩
                        have S9 := Lib.hid hS9; have U9 := Lib.hid (U1.out.trans hU9); clear hS9 hU9
                        go_wp2_with fail
                        go_roundw
                        case measure => rw [posOf_sc S9.out, pos1.out]; omega
                        case rel => exact ⟨k1, x1 + K1, y3, z3, by omega, by omega, by omega, HY1.out, HZ1.out, S9.out, by rw [← HIN.out (by first | trivial | rfl) h10]; exact R1.out, U9.out⟩
                      · have HRZ1 := Lib.hid ((HWR.out rfl).symm.trans R1.out)
                        go_wp2_with fail
                        refine (cR1 _ S1.out T1.out hb3).mono ?_
                        rintro e v1 ⟨rfl, hb⟩
                        have S12 := Lib.hid (S1.out.below hb)
                        have U12 := Lib.hid (U1.out.trans (Upd.of_below hb (Nat.le_of_lt S1.out.lt)))
                        have hb3' := Nat.le_trans hb3 hb.size
                        have T12 := Lib.hid (T1.out.below hb3 hb)
                        clear S1 U1 T1 hb hb3
                        have S1 := S12; have U1 := U12; have T1 := T12; have hb3 := hb3'; clear S12 U12 T12 hb3'
                        go_wp2_with fail
                        refine (cR1 _ S1.out T1.out hb3).mono ?_
                        rintro e v1 ⟨rfl, hb⟩
                        have S12 := Lib.hid (S1.out.below hb)
                        have U12 := Lib.hid (U1.out.trans (Upd.of_below hb (Nat.le_of_lt S1.out.lt)))
                        have hb3' := Nat.le_trans hb3 hb.size
                        have T12 := Lib.hid (T1.out.below hb3 hb)
                        clear S1 U1 T1 hb hb3
                        have S1 := S12; have U1 := U12; have T1 := T12; have hb3 := hb3'; clear S12 U12 T12 hb3'
                        go_wp2_with fail
                        refine (cW1 _ S1.out T1.out hb3).mono ?_
                        rintro e v1 ⟨rfl, hb⟩
                        have S12 := Lib.hid (S1.out.below hb)
                        have U12 := Lib.hid (U1.out.trans (Upd.of_below hb (Nat.le_of_lt S1.out.lt)))
                        have hb3' := Nat.le_trans hb3 hb.size
                        have T12 := Lib.hid (T1.out.below hb3 hb)
                        clear S1 U1 T1 hb hb3
                        have S1 := S12; have U1 := U12; have T1 := T12; have hb3 := hb3'; clear S12 U12 T12 hb3'
                        go_wp2_with fail
                        have hdr : Below v1.heap.size v1 v1.drew := below_drew1 (Below.refl _ _)
                        have S9 := Lib.hid (S1.out.below hdr)
                        have U9 := Lib.hid (U1.out.trans (Upd.of_below hdr (Nat.le_of_lt S1.out.lt)))
                        have u1 : v1.drew.cell? ⟨b, 1, none⟩ = some (.int .i64 x1) := S9.out.cell 1
                        refine start_ (n := 6) (S := fun w' => w'.cell? ⟨b, 1, none⟩ = some (.int .i64 x1)) (ds := []) #[false, false, false, false, false, false] (by kernel_rfl) rfl rfl (u1) (fun hHeld => ?_)
                        refine pure_ (i := 0) (N := some 45) (v := ?_) (a' := ?_) #[true, false, false, false, false, false] rfl rfl (by kernel_rfl) (fun _ _ _ h => h) (Or.inl ⟨by rfl, ?_⟩) ?_ ?_
                        rotate_left
                        · intro w'
                          go_simp
                          with_reducible rfl
                        rotate_left
                        · simp only [Act.put, List.setIfInBounds_toArray, List.set_cons_zero, List.set_cons_succ, i64_w, i32_w]
                          rfl
                        refine pure_ (i := 1) (N := some 46) (v := ?_) (a' := ?_) #[true, true, false, false, false, false] rfl rfl (by kernel_rfl) (fun _ _ _ h => h) (Or.inl ⟨by rfl, ?_⟩) ?_ ?_
                        rotate_left
                        · intro w'
                          go_simp
                          with_reducible rfl
                        rotate_left
                        · simp only [Act.put, List.setIfInBounds_toArray, List.set_cons_zero, List.set_cons_succ, i64_w, i32_w]
                          rfl
                        refine pure_ (i := 2) (N := some 47) (v := ?_) (a' := ?_) #[true, true, true, false, false, false] rfl rfl (by kernel_rfl) (fun _ _ _ h => h) (Or.inl ⟨by rfl, ?_⟩) ?_ ?_
                        rotate_left
                        · intro w'
                          go_simp
                          with_reducible rfl
                        rotate_left
                        · simp only [Act.put, List.setIfInBounds_toArray, List.set_cons_zero, List.set_cons_succ, i64_w, i32_w]
                          rfl
                        refine pure_ (i := 4) (N := some 2) (v := ?_) (a' := ?_) #[true, true, true, false, true, false] rfl rfl (by kernel_rfl) (fun _ _ _ h => h) (Or.inl ⟨by rfl, ?_⟩) ?_ ?_
                        rotate_left
                        · intro w'
                          go_simp
                          with_reducible rfl
                        rotate_left
                        · simp only [Act.put, List.setIfInBounds_toArray, List.set_cons_zero, List.set_cons_succ, i64_w, i32_w]
                          rfl
                        refine take_ (i := 3) (N := some 48) (v := ?_) (a' := ?_) #[true, true, true, true, true, false] rfl rfl (by kernel_rfl) (fun _ _ _ h => h) (Or.inl ⟨by rfl, ?_⟩) hHeld ?_ ?_
                        rotate_left
                        · intro w' s0
                          go_simp
                          with_reducible rfl
                        rotate_left
                        · simp only [Act.put, List.setIfInBounds_toArray, List.set_cons_zero, List.set_cons_succ, i64_w, i32_w]
                          rfl
                        refine pure_ (i := 5) (N := some 3) (v := ?_) (a' := ?_) #[true, true, true, true, true, true] rfl rfl (by kernel_rfl) (fun _ _ _ h => h) (Or.inl ⟨by rfl, ?_⟩) ?_ ?_
                        rotate_left
                        · intro w'
                          go_simp
                          with_reducible rfl
                        rotate_left
                        · simp only [Act.put, List.setIfInBounds_toArray, List.set_cons_zero, List.set_cons_succ, i64_w, i32_w]
                          rfl
                        refine done_ (by kernel_rfl) ?_
                        go_wp2_with fail
                        go_ret2
                        rw [← HPL.out, ← HRZ1.out]
                        exact ⟨rfl, S9.out, U9.out⟩
                    · have h10' : r1 = 10 := by simpa using h10
                      have hne : x1 ≠ x := fun e => by have := hx47 e; omega
                      have H10 := Lib.hid h10'
                      clear h10' hx47
                      go_wp2_with fail
                      refine (cR1 _ S1.out T1.out hb3).mono ?_
                      rintro e v1 ⟨rfl, hb⟩
                      have S12 := Lib.hid (S1.out.below hb)
                      have U12 := Lib.hid (U1.out.trans (Upd.of_below hb (Nat.le_of_lt S1.out.lt)))
                      have hb3' := Nat.le_trans hb3 hb.size
                      have T12 := Lib.hid (T1.out.below hb3 hb)
                      clear S1 U1 T1 hb hb3
                      have S1 := S12; have U1 := U12; have T1 := T12; have hb3 := hb3'; clear S12 U12 T12 hb3'
                      go_wp2_with fail
                      refine (cR1 _ S1.out T1.out hb3).mono ?_
                      rintro e v1 ⟨rfl, hb⟩
                      have S12 := Lib.hid (S1.out.below hb)
                      have U12 := Lib.hid (U1.out.trans (Upd.of_below hb (Nat.le_of_lt S1.out.lt)))
                      have hb3' := Nat.le_trans hb3 hb.size
                      have T12 := Lib.hid (T1.out.below hb3 hb)
                      clear S1 U1 T1 hb hb3
                      have S1 := S12; have U1 := U12; have T1 := T12; have hb3 := hb3'; clear S12 U12 T12 hb3'
                      go_wp2_with fail
                      go_roundw
                      case measure => rw [posOf_sc S1.out, pos0.out]; omega
                      case rel => exact ⟨k1 + 1, x1, y1, z1, by omega, hx1s, hn1, hy1, hz1, S1.out, by rw [← HLI.out H10.out]; exact R1.out, U1.out⟩
                  · have e1 : rE s x1 = -1 := by unfold rE; rw [if_neg hlt3]
                    rw [e1] at cR1
                    clear e1
                    have hne : x1 ≠ x := by omega
                    go_wp2_with fail
                    refine (cR1 _ S1.out T1.out hb3).mono ?_
                    rintro e v1 ⟨rfl, hb⟩
                    have S12 := Lib.hid (S1.out.below hb)
                    have U12 := Lib.hid (U1.out.trans (Upd.of_below hb (Nat.le_of_lt S1.out.lt)))
                    have hb3' := Nat.le_trans hb3 hb.size
                    have T12 := Lib.hid (T1.out.below hb3 hb)
                    clear S1 U1 T1 hb hb3
                    have S1 := S12; have U1 := U12; have T1 := T12; have hb3 := hb3'; clear S12 U12 T12 hb3'
                    go_wp2_with fail
                    go_roundw
                    case measure => rw [posOf_sc S1.out, pos0.out]; omega
                    case rel => exact ⟨k1 + 1, x1, y1, z1, by omega, hx1s, hn1, hy1, hz1, S1.out, by rw [blk_end s k1 false x1 y1 z1 (by omega), ← blk_end s k1 true x1 y1 z1 (by omega)]; exact R1.out, U1.out⟩
            · have HTS := Lib.hid (show r = 13 by simpa using h3)
              have hbl : blB r = true := by unfold blB; rw [HTS.out]; first | rfl | simp
              go_wp2_with (first | (go_at_call 52; refine cR.mono ?_; rintro e w1 ⟨rfl, hb⟩) | (go_at_call 53; refine (cO _ (HS.out.below hb) (HT1.out.below hb2r hb) (Nat.le_trans hb2r hb.size)).mono ?_; rintro e w2 ⟨rfl, hS2, hU2⟩))
              have HS2 := Lib.hid hS2
              have HU2 := Lib.hid ((HU.out.trans (Upd.of_below hb (Nat.le_of_lt HS.out.lt))).trans hU2)
              clear hS2 hU2 hb
              go_roundw
              case measure => rw [posOf_sc HS2.out, pos0.out]; omega
              case rel => exact ⟨k, x + K, y2, z2, by omega, by omega, by omega, HY.out, HZ.out, HS2.out, by rw [← HBL.out hbl]; exact HR.out, HU2.out⟩
          · have HTS := Lib.hid (show r = 10 by simpa using h2)
            have hbl : blB r = true := by unfold blB; rw [HTS.out]; first | rfl | simp
            go_wp2_with (first | (go_at_call 52; refine cR.mono ?_; rintro e w1 ⟨rfl, hb⟩) | (go_at_call 53; refine (cO _ (HS.out.below hb) (HT1.out.below hb2r hb) (Nat.le_trans hb2r hb.size)).mono ?_; rintro e w2 ⟨rfl, hS2, hU2⟩))
            have HS2 := Lib.hid hS2
            have HU2 := Lib.hid ((HU.out.trans (Upd.of_below hb (Nat.le_of_lt HS.out.lt))).trans hU2)
            clear hS2 hU2 hb
            go_roundw
            case measure => rw [posOf_sc HS2.out, pos0.out]; omega
            case rel => exact ⟨k, x + K, y2, z2, by omega, by omega, by omega, HY.out, HZ.out, HS2.out, by rw [← HBL.out hbl]; exact HR.out, HU2.out⟩
        · have HTS := Lib.hid (show r = 9 by simpa using h1)
          have hbl : blB r = true := by unfold blB; rw [HTS.out]; first | rfl | simp
          go_wp2_with (first | (go_at_call 52; refine cR.mono ?_; rintro e w1 ⟨rfl, hb⟩) | (go_at_call 53; refine (cO _ (HS.out.below hb) (HT1.out.below hb2r hb) (Nat.le_trans hb2r hb.size)).mono ?_; rintro e w2 ⟨rfl, hS2, hU2⟩))
          have HS2 := Lib.hid hS2
          have HU2 := Lib.hid ((HU.out.trans (Upd.of_below hb (Nat.le_of_lt HS.out.lt))).trans hU2)
          clear hS2 hU2 hb
          go_roundw
          case measure => rw [posOf_sc HS2.out, pos0.out]; omega
          case rel => exact ⟨k, x + K, y2, z2, by omega, by omega, by omega, HY.out, HZ.out, HS2.out, by rw [← HBL.out hbl]; exact HR.out, HU2.out⟩
      · have HTS := Lib.hid (show r = 32 by simpa using h0)
        have hbl : blB r = true := by unfold blB; rw [HTS.out]; first | rfl | simp
        go_wp2_with (first | (go_at_call 52; refine cR.mono ?_; rintro e w1 ⟨rfl, hb⟩) | (go_at_call 53; refine (cO _ (HS.out.below hb) (HT1.out.below hb2r hb) (Nat.le_trans hb2r hb.size)).mono ?_; rintro e w2 ⟨rfl, hS2, hU2⟩))
        have HS2 := Lib.hid hS2
        have HU2 := Lib.hid ((HU.out.trans (Upd.of_below hb (Nat.le_of_lt HS.out.lt))).trans hU2)
        clear hS2 hU2 hb
        go_roundw
        case measure => rw [posOf_sc HS2.out, pos0.out]; omega
        case rel => exact ⟨k, x + K, y2, z2, by omega, by omega, by omega, HY.out, HZ.out, HS2.out, by rw [← HBL.out hbl]; exact HR.out, HU2.out⟩
    · unfold rE at cR
      rw [if_neg hlt2] at cR
      have hp : ∀ V, Calls Tryd.prog 54 #[.string (s.extract x.toNat s.size), .string ⟨#[47, 47]⟩] V fun e w' => e = .returned (.bool (sl2 s x)) ∧ w' = V := fun V => Tryd.strings_HasPrefix _ _ V
      rw [sl2_end s x hx0 hlt2] at hp
      have HRZ := Lib.hid ((blk_end s k false x y z hlt2).symm.trans HR.out)
      go_wp2_with (go_at_call 52; refine cR.mono ?_; rintro e w1 ⟨rfl, hb⟩)
      have HS1 := Lib.hid (HS.out.below hb)
      have HU1 := Lib.hid (HU.out.trans (Upd.of_below hb (Nat.le_of_lt HS.out.lt)))
      have hdr : Below w1.heap.size w1 w1.drew := below_drew1 (Below.refl _ _)
      have HS2 := Lib.hid (HS1.out.below hdr)
      have HU2 := Lib.hid (HU1.out.trans (Upd.of_below hdr (Nat.le_of_lt HS1.out.lt)))
      have u0 : w1.drew.cell? ⟨b, 0, none⟩ = some (.string s) := HS2.out.cell 0
      have u1 : w1.drew.cell? ⟨b, 1, none⟩ = some (.int .i64 x) := HS2.out.cell 1
      clear hb hdr
      refine start_ (n := 11) (S := fun w' => w'.cell? ⟨b, 0, none⟩ = some (.string s) ∧ w'.cell? ⟨b, 1, none⟩ = some (.int .i64 x)) (ds := []) #[false, false, false, false, false, false, false, false, false, false, false] (by kernel_rfl) rfl rfl ⟨u0, u1⟩ (fun hHeld => ?_)
      refine pure_ (i := 0) (N := some 25) (v := ?_) (a' := ?_) #[true, false, false, false, false, false, false, false, false, false, false] rfl rfl (by kernel_rfl) (fun _ _ _ h => h) (Or.inl ⟨by rfl, ?_⟩) ?_ ?_
      rotate_left
      · intro w'
        go_simp
        with_reducible rfl
      rotate_left
      · simp only [Act.put, List.setIfInBounds_toArray, List.set_cons_zero, List.set_cons_succ, i64_w, i32_w]
        rfl
      refine pure_ (i := 1) (N := some 26) (v := ?_) (a' := ?_) #[true, true, false, false, false, false, false, false, false, false, false] rfl rfl (by kernel_rfl) (fun _ _ _ h => h) (Or.inl ⟨by rfl, ?_⟩) ?_ ?_
      rotate_left
      · intro w'
        go_simp
        with_reducible rfl
      rotate_left
      · simp only [Act.put, List.setIfInBounds_toArray, List.set_cons_zero, List.set_cons_succ, i64_w, i32_w]
        rfl
      refine pure_ (i := 2) (N := some 27) (v := ?_) (a' := ?_) #[true, true, true, false, false, false, false, false, false, false, false] rfl rfl (by kernel_rfl) (fun _ _ _ h => h) (Or.inl ⟨by rfl, ?_⟩) ?_ ?_
      rotate_left
      · intro w'
        go_simp
        with_reducible rfl
      rotate_left
      · simp only [Act.put, List.setIfInBounds_toArray, List.set_cons_zero, List.set_cons_succ, i64_w, i32_w]
        rfl
      refine pure_ (i := 4) (N := some 29) (v := ?_) (a' := ?_) #[true, true, true, false, true, false, false, false, false, false, false] rfl rfl (by kernel_rfl) (fun _ _ _ h => h) (Or.inl ⟨by rfl, ?_⟩) ?_ ?_
      rotate_left
      · intro w'
        go_simp
        with_reducible rfl
      rotate_left
      · simp only [Act.put, List.setIfInBounds_toArray, List.set_cons_zero, List.set_cons_succ, i64_w, i32_w]
        rfl
      refine pure_ (i := 5) (N := some 30) (v := ?_) (a' := ?_) #[true, true, true, false, true, true, false, false, false, false, false] rfl rfl (by kernel_rfl) (fun _ _ _ h => h) (Or.inl ⟨by rfl, ?_⟩) ?_ ?_
      rotate_left
      · intro w'
        go_simp
        with_reducible rfl
      rotate_left
      · simp only [Act.put, List.setIfInBounds_toArray, List.set_cons_zero, List.set_cons_succ, i64_w, i32_w]
        rfl
      refine pure_ (i := 6) (N := some 31) (v := ?_) (a' := ?_) #[true, true, true, false, true, true, true, false, false, false, false] rfl rfl (by kernel_rfl) (fun _ _ _ h => h) (Or.inl ⟨by rfl, ?_⟩) ?_ ?_
      rotate_left
      · intro w'
        go_simp
        with_reducible rfl
      rotate_left
      · simp only [Act.put, List.setIfInBounds_toArray, List.set_cons_zero, List.set_cons_succ, i64_w, i32_w]
        rfl
      refine take_ (i := 3) (N := some 28) (v := ?_) (a' := ?_) #[true, true, true, true, true, true, true, false, false, false, false] rfl rfl (by kernel_rfl) (fun _ _ _ h => h) (Or.inl ⟨by rfl, ?_⟩) hHeld ?_ ?_
      rotate_left
      · rintro w' ⟨s0, s1⟩
        go_simp
        with_reducible rfl
      rotate_left
      · simp only [Act.put, List.setIfInBounds_toArray, List.set_cons_zero, List.set_cons_succ, i64_w, i32_w]
        rfl
      refine take_ (i := 7) (N := some 32) (v := ?_) (a' := ?_) #[true, true, true, true, true, true, true, true, false, false, false] rfl rfl (by kernel_rfl) (fun _ _ _ h => h) (Or.inl ⟨by rfl, ?_⟩) hHeld ?_ ?_
      rotate_left
      · rintro w' ⟨s0, s1⟩
        go_simp
        with_reducible rfl
      rotate_left
      · simp only [Act.put, List.setIfInBounds_toArray, List.set_cons_zero, List.set_cons_succ, i64_w, i32_w]
        rfl
      refine pure_ (i := 8) (N := some 33) (v := ?_) (a' := ?_) #[true, true, true, true, true, true, true, true, true, false, false] rfl rfl (by kernel_rfl) (fun _ _ _ h => h) (Or.inl ⟨by rfl, ?_⟩) ?_ ?_
      rotate_left
      · intro w'
        go_simp
        with_reducible rfl
      rotate_left
      · simp only [Act.put, List.setIfInBounds_toArray, List.set_cons_zero, List.set_cons_succ, i64_w, i32_w]
        rfl
      refine one_ (i := 9) (N := some 34) #[true, true, true, true, true, true, true, true, true, true, false] rfl rfl (by kernel_rfl) (by decide) (fun K hK => ?_)
      refine goes_ Tryd.func54 (by kernel_rfl) rfl #[.string (s.extract x.toNat s.size), .string ⟨#[47, 47]⟩] (by rfl) rfl rfl (by simp only [List.map_toArray, List.map_cons, List.map_nil]; rfl) ?_
      with_reducible refine ((hp _)).mono ?_
      rintro e w3 ⟨rfl, rfl⟩
      refine ⟨_, rfl, ?_⟩
      refine hK.out _ _ ⟨u0, u1⟩ (fun hHeld => ?_)
      clear hK K
      refine norm_ (a' := ?_) ?_ ?_
      rotate_left
      · show Act.put _ (some 34) _ = _
        simp only [Act.put, List.setIfInBounds_toArray, List.set_cons_zero, List.set_cons_succ, i64_w, i32_w]
        rfl
      refine pure_ (i := 10) (N := some 24) (v := ?_) (a' := ?_) #[true, true, true, true, true, true, true, true, true, true, true] rfl rfl (by kernel_rfl) (fun _ _ _ h => h) (Or.inl ⟨by rfl, ?_⟩) ?_ ?_
      rotate_left
      · intro w'
        go_simp
        with_reducible rfl
      rotate_left
      · simp only [Act.put, List.setIfInBounds_toArray, List.set_cons_zero, List.set_cons_succ, i64_w, i32_w]
        rfl
      refine done_ (by kernel_rfl) ?_
      go_wp2_with fail
      go_ret2
      rw [← HPL.out, ← HRZ.out]
      exact ⟨rfl, HS2.out, HU2.out⟩

end Go.Proofs.YtgiaogocdihhhaaDoor.Tex
