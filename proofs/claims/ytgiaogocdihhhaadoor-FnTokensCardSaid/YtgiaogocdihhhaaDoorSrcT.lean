/- The drawn words, by their bounds. -/
import Derived.Test.YtgiaogocdihhhaaDoorSrc
import Derived.Test.YtgiaogocdihhhaaDoorTexP
import Derived.Lib.Bytes
namespace Go.Proofs.YtgiaogocdihhhaaDoor.Src
open Go.RowKit Go.Proofs.YtgiaogocdihhhaaDoorW.PrintWords Go.Proofs.YtgiaogocdihhhaaDoorW.PrintLast Go.Proofs.YtgiaogocdihhhaaDoorW.PrintMore Go.Proofs.YtgiaogocdihhhaaDoor.PFnTokens
set_option linter.unusedSimpArgs false
set_option linter.unusedVariables false
theorem str_len (xs : List Int) : (strOfNums xs).size = xs.length := by
  have hd : (strOfNums xs).data.toList = Lib.bytesOf xs := rfl
  have := congrArg List.length hd
  rw [Array.length_toList, Lib.bytesOf_length] at this
  exact this
theorem digits_f : ∀ (k : Nat) (n : Int), 0 ≤ n → n < 10 ^ (k + 1) → n < 1000000000000 → k ≤ 1000 → ∃ t, spec_l00Digits.f (k + 1) n = some t ∧ t.size ≤ k + 1
  | 0, n, h0, h1, h2, hk => by
    have h3 : n < 10 := by simpa using h1
    exact ⟨_, by rw [spec_l00Digits.f, if_neg (by omega), if_neg (by omega), if_pos h3], by rw [str_len]; simp⟩
  | k + 1, n, h0, h1, h2, hk => by
    by_cases h3 : n < 10
    · exact ⟨_, by rw [spec_l00Digits.f, if_neg (by omega), if_neg (by omega), if_pos h3], by rw [str_len]; simp⟩
    · have hd : Int.tdiv n 10 = n / 10 := Int.tdiv_eq_ediv_of_nonneg h0
      have hp : n / 10 < 10 ^ (k + 1) := by
        have e : (10 : Int) ^ (k + 1 + 1) = 10 ^ (k + 1) * 10 := Int.pow_succ 10 (k + 1)
        rw [e] at h1
        omega
      obtain ⟨t, ht, hs⟩ := digits_f k (n / 10) (by omega) hp (by omega) (by omega)
      refine ⟨t ++ strOfNums [(wrap64 (48 + Int.tmod n 10)) % 256], ?_, by rw [ByteArray.size_append, str_len, List.length_singleton]; omega⟩
      rw [spec_l00Digits.f, if_neg (by omega), if_neg (by omega), if_neg h3, hd, wrap_ok (by omega) (by omega), ht, Option.bind_some, Option.bind_some, if_pos (by rw [str_len, List.length_singleton]; omega)]
theorem digitsC (n : Int) (w : World) (h0 : 0 ≤ n) (h1 : n < 2000) : Calls Tryd.prog 76 #[.int .i64 n] w fun e w' => ∃ t, e = .returned (.string t) ∧ t.size ≤ 4 ∧ Below w.heap.size w w' := by
  obtain ⟨t, ht, hs⟩ := digits_f 3 n h0 (by omega) (by omega) (by decide)
  exact (spec_l00Digits.calls 4 n t w ht).mono fun e w' ⟨a, b⟩ => ⟨t, a, hs, b⟩
theorem quote_size (s : ByteArray) : (Tex.quoteS s).size ≤ 2 + 4 * s.size := by
  unfold Tex.quoteS
  split
  · exact Nat.zero_le _
  · rw [str_len]
    have h := Tex.go_range (a0 := [34]) (Tex.qp_len s) s.size
    have : (Tex.quoteL s).length = (Tex.go s (Tex.qp s) [34] s.size).2.length + 1 := by unfold Tex.quoteL Tex.all; rw [List.length_append]; rfl
    rw [this]
    simp only [List.length_singleton] at h
    omega
set_option maxHeartbeats 4000000 in
set_option maxRecDepth 100000 in
theorem chanceC (g : Nat) (f0 : List Int) (m n : Int) (w0 w : World) (hI : Sr w0 w g f0 m) (hm : m ≤ 1000000000000) (hF : Bytes f0) (hn : 1 ≤ n) (hn2 : n ≤ 1000000) :
    Calls Tryd.prog 63 #[.pointer (some ⟨g, 0, none⟩), .int .i64 n] w fun e w' => ∃ r, e = .returned (.bool r) ∧ Sr w0 w' g f0 (m + 3) ∧ KeepBut w w' g none := by
  have p1 : IntKind.wrap .i64 (n - 1) = n - 1 := by rw [i64_w]; exact wrap_ok (by omega) (by omega)
  go_enter Tryd.func63, Tryd.ntmps63
  go_wp2_with (go_at_call 61; refine (nextC g f0 m n w0 w hI hm hF hn hn2).mono ?_; rintro e w1 ⟨r, rfl, hr0, hr1, hS, hK⟩; have HS := Lib.hid hS; have HK := Lib.hid hK; clear hS hK)
  go_ret
  exact ⟨_, rfl, HS.out, HK.out⟩
/-- A row of texts. -/
def Row (w : World) (b : Nat) (L : List ByteArray) : Prop := w.heap[b]? = some (.cells (L.map Value.string).toArray 9 (0, 0))
theorem Row.cell {w : World} {b : Nat} {L : List ByteArray} (h : Row w b L) (i : Nat) (hi : i < L.length) : w.cell? ⟨b, i, none⟩ = some (.string (L.getD i ⟨#[]⟩)) := by
  refine (blk_cell h i).trans ?_
  rw [List.getElem?_toArray, List.getElem?_map, List.getD_eq_getElem?_getD, List.getElem?_eq_getElem hi]
  rfl
theorem getD_le (L : List ByteArray) (K : Nat) (h : ∀ x, x ∈ L → x.size ≤ K) (i : Nat) : (L.getD i ⟨#[]⟩).size ≤ K := by
  rw [List.getD_eq_getElem?_getD]
  rcases e : L[i]? with _ | x
  · exact Nat.zero_le _
  · exact h x (List.mem_of_getElem? e)
set_option maxHeartbeats 4000000 in
set_option maxRecDepth 100000 in
theorem pickC (g : Nat) (f0 : List Int) (m : Int) (w0 w : World) (hI : Sr w0 w g f0 m) (hm : m ≤ 1000000000000) (hF : Bytes f0) (b : Nat) (L : List ByteArray) (hb : Row w b L) (hbg : b ≠ g) (K : Nat) (hK : ∀ x, x ∈ L → x.size ≤ K) (h1 : 1 ≤ L.length) (h2 : L.length ≤ 1000) :
    Calls Tryd.prog 75 #[.pointer (some ⟨g, 0, none⟩), .slice (some ⟨b, 0, none⟩) L.length L.length] w fun e w' => ∃ t, e = .returned (.string t) ∧ t.size ≤ K ∧ Sr w0 w' g f0 (m + 3) ∧ KeepBut w w' g none := by
  have q0 : ((L.length : Int) == 0) = false := by simp; intro h; rw [h] at h1; simp at h1
  obtain ⟨n, hn⟩ : ∃ n, L.length = n := ⟨_, rfl⟩
  have HB := Lib.hid hb; have HN := Lib.hid hn
  rw [hn] at h1 h2 q0 ⊢
  clear hb hn
  go_enter Tryd.func75, Tryd.ntmps75
  go_wp2_with (go_at_call 61; refine (nextC g f0 m n w0 w hI hm hF (by omega) (by omega)).mono ?_; rintro e w1 ⟨r, rfl, hr0, hr1, hS, hKp⟩; have HS := Lib.hid hS; have HK := Lib.hid hKp; have g0 := Row.cell (L := L) ((hKp.2 b (blk_lt HB.out) hbg (by simp)).trans HB.out) r.toNat (by rw [HN.out]; omega); have k1 := eq_true hr0; have k2 := eq_true hr1; clear hS hKp)
  go_ret
  exact ⟨_, rfl, getD_le L K hK _, HS.out, HK.out⟩
set_option maxHeartbeats 4000000 in
set_option maxRecDepth 100000 in
theorem nameC (g : Nat) (f0 : List Int) (m : Int) (w0 w : World) (hI : Sr w0 w g f0 m) (hm : m ≤ 1000000000000) (hF : Bytes f0) :
    Calls Tryd.prog 74 #[.pointer (some ⟨g, 0, none⟩)] w fun e w' => ∃ t, e = .returned (.string t) ∧ t.size ≤ 20 ∧ Sr w0 w' g f0 (m + 3) := by
  have hg : g < w.heap.size := by obtain ⟨x, sd, ⟨A, c, hb, -, -⟩, -⟩ := hI; exact blk_lt hb
  have hR : Row (w.alloc (.cells #[.string ⟨#[97]⟩, .string ⟨#[98]⟩, .string ⟨#[99]⟩, .string ⟨#[120, 49]⟩, .string ⟨#[121]⟩, .string ⟨#[103, 114, 195, 182, 195, 159, 101]⟩, .string ⟨#[206, 187]⟩, .string ⟨#[208, 180, 208, 190, 208, 188]⟩, .string ⟨#[122, 122]⟩, .string ⟨#[116, 111, 116, 97, 108]⟩] 9)) w.heap.size [⟨#[97]⟩, ⟨#[98]⟩, ⟨#[99]⟩, ⟨#[120, 49]⟩, ⟨#[121]⟩, ⟨#[103, 114, 195, 182, 195, 159, 101]⟩, ⟨#[206, 187]⟩, ⟨#[208, 180, 208, 190, 208, 188]⟩, ⟨#[122, 122]⟩, ⟨#[116, 111, 116, 97, 108]⟩] := heap_alloc_new w _
  have hS0 := hI.keep (below_alloc (Below.refl _ w) (.cells #[.string ⟨#[97]⟩, .string ⟨#[98]⟩, .string ⟨#[99]⟩, .string ⟨#[120, 49]⟩, .string ⟨#[121]⟩, .string ⟨#[103, 114, 195, 182, 195, 159, 101]⟩, .string ⟨#[206, 187]⟩, .string ⟨#[208, 180, 208, 190, 208, 188]⟩, .string ⟨#[122, 122]⟩, .string ⟨#[116, 111, 116, 97, 108]⟩] 9))
  have HR := Lib.hid hR; have HS0 := Lib.hid hS0
  have hL : ∀ x, x ∈ ([⟨#[97]⟩, ⟨#[98]⟩, ⟨#[99]⟩, ⟨#[120, 49]⟩, ⟨#[121]⟩, ⟨#[103, 114, 195, 182, 195, 159, 101]⟩, ⟨#[206, 187]⟩, ⟨#[208, 180, 208, 190, 208, 188]⟩, ⟨#[122, 122]⟩, ⟨#[116, 111, 116, 97, 108]⟩] : List ByteArray) → x.size ≤ 20 := by decide
  clear hR hS0
  go_enter Tryd.func74, Tryd.ntmps74
  go_wp2_with (go_at_call 61; refine (nextC g f0 m 10 w0 _ HS0.out hm hF (by decide) (by decide)).mono ?_; rintro e w1 ⟨r, rfl, hr0, hr1, hS, hKp⟩; have HS := Lib.hid hS; obtain ⟨t, hts, g0⟩ : ∃ t : ByteArray, t.size ≤ 20 ∧ w1.cell? ⟨w.heap.size, r.toNat, none⟩ = some (.string t) := ⟨_, getD_le _ 20 hL _, Row.cell ((hKp.2 w.heap.size (blk_lt HR.out) (by omega) (by simp)).trans HR.out) r.toNat (show r.toNat < 10 by omega)⟩; have k1 := eq_true hr0; have k2 := eq_true hr1; clear hS hKp)
  go_ret
  exact ⟨_, rfl, hts, HS.out⟩
set_option maxHeartbeats 8000000 in
set_option maxRecDepth 100000 in
theorem pieceC (g : Nat) (f0 : List Int) (m : Int) (w0 w : World) (hI : Sr w0 w g f0 m) (hm : m ≤ 100000000000) (hF : Bytes f0) :
    Calls Tryd.prog 62 #[.pointer (some ⟨g, 0, none⟩)] w fun e w' => ∃ t, e = .returned (.string t) ∧ t.size ≤ 100 ∧ Sr w0 w' g f0 (m + 20) := by
  have hlt : ∀ W k, Sr w0 W g f0 k → g < W.heap.size := by rintro W k ⟨x, sd, ⟨A, c, hb, -, -⟩, -⟩; exact blk_lt hb
  have c5 := fun (W : World) (k : Int) (hS : Sr w0 W g f0 k) (hk : k ≤ 1000000000000) => (show Calls Tryd.prog 75 #[.pointer (some ⟨g, 0, none⟩), .slice (some ⟨W.heap.size, 0, none⟩) 4 4] (W.alloc (.cells #[.string ⟨#[112, 97, 99, 107, 97, 103, 101]⟩, .string ⟨#[105, 109, 112, 111, 114, 116]⟩, .string ⟨#[119, 104, 101, 110]⟩, .string ⟨#[105, 110, 105, 116]⟩] 9)) _ from pickC g f0 k w0 (W.alloc (.cells #[.string ⟨#[112, 97, 99, 107, 97, 103, 101]⟩, .string ⟨#[105, 109, 112, 111, 114, 116]⟩, .string ⟨#[119, 104, 101, 110]⟩, .string ⟨#[105, 110, 105, 116]⟩] 9)) (hS.keep (below_alloc (Below.refl _ W) _)) hk hF W.heap.size [⟨#[112, 97, 99, 107, 97, 103, 101]⟩, ⟨#[105, 109, 112, 111, 114, 116]⟩, ⟨#[119, 104, 101, 110]⟩, ⟨#[105, 110, 105, 116]⟩] (heap_alloc_new W _) (by have := hlt W k hS; omega) 20 (by decide) (by decide) (by decide))
  have c9 := fun (W : World) (k : Int) (hS : Sr w0 W g f0 k) (hk : k ≤ 1000000000000) => (show Calls Tryd.prog 75 #[.pointer (some ⟨g, 0, none⟩), .slice (some ⟨W.heap.size, 0, none⟩) 5 5] (W.alloc (.cells #[.string ⟨#[]⟩, .string ⟨#[97]⟩, .string ⟨#[10, 34, 92]⟩, .string ⟨#[208, 182]⟩, .string ⟨#[1, 255]⟩] 9)) _ from pickC g f0 k w0 (W.alloc (.cells #[.string ⟨#[]⟩, .string ⟨#[97]⟩, .string ⟨#[10, 34, 92]⟩, .string ⟨#[208, 182]⟩, .string ⟨#[1, 255]⟩] 9)) (hS.keep (below_alloc (Below.refl _ W) _)) hk hF W.heap.size [⟨#[]⟩, ⟨#[97]⟩, ⟨#[10, 34, 92]⟩, ⟨#[208, 182]⟩, ⟨#[1, 255]⟩] (heap_alloc_new W _) (by have := hlt W k hS; omega) 20 (by decide) (by decide) (by decide))
  have c12 := fun (W : World) (k : Int) (hS : Sr w0 W g f0 k) (hk : k ≤ 1000000000000) => (show Calls Tryd.prog 75 #[.pointer (some ⟨g, 0, none⟩), .slice (some ⟨W.heap.size, 0, none⟩) 18 18] (W.alloc (.cells #[.string ⟨#[40]⟩, .string ⟨#[41]⟩, .string ⟨#[123]⟩, .string ⟨#[125]⟩, .string ⟨#[44]⟩, .string ⟨#[59]⟩, .string ⟨#[46]⟩, .string ⟨#[61]⟩, .string ⟨#[61, 61]⟩, .string ⟨#[33, 61]⟩, .string ⟨#[60]⟩, .string ⟨#[60, 61]⟩, .string ⟨#[43]⟩, .string ⟨#[45]⟩, .string ⟨#[42]⟩, .string ⟨#[47]⟩, .string ⟨#[37]⟩, .string ⟨#[33]⟩] 9)) _ from pickC g f0 k w0 (W.alloc (.cells #[.string ⟨#[40]⟩, .string ⟨#[41]⟩, .string ⟨#[123]⟩, .string ⟨#[125]⟩, .string ⟨#[44]⟩, .string ⟨#[59]⟩, .string ⟨#[46]⟩, .string ⟨#[61]⟩, .string ⟨#[61, 61]⟩, .string ⟨#[33, 61]⟩, .string ⟨#[60]⟩, .string ⟨#[60, 61]⟩, .string ⟨#[43]⟩, .string ⟨#[45]⟩, .string ⟨#[42]⟩, .string ⟨#[47]⟩, .string ⟨#[37]⟩, .string ⟨#[33]⟩] 9)) (hS.keep (below_alloc (Below.refl _ W) _)) hk hF W.heap.size [⟨#[40]⟩, ⟨#[41]⟩, ⟨#[123]⟩, ⟨#[125]⟩, ⟨#[44]⟩, ⟨#[59]⟩, ⟨#[46]⟩, ⟨#[61]⟩, ⟨#[61, 61]⟩, ⟨#[33, 61]⟩, ⟨#[60]⟩, ⟨#[60, 61]⟩, ⟨#[43]⟩, ⟨#[45]⟩, ⟨#[42]⟩, ⟨#[47]⟩, ⟨#[37]⟩, ⟨#[33]⟩] (heap_alloc_new W _) (by have := hlt W k hS; omega) 20 (by decide) (by decide) (by decide))
  have c14 := fun (W : World) (k : Int) (hS : Sr w0 W g f0 k) (hk : k ≤ 1000000000000) => (show Calls Tryd.prog 75 #[.pointer (some ⟨g, 0, none⟩), .slice (some ⟨W.heap.size, 0, none⟩) 6 6] (W.alloc (.cells #[.string ⟨#[32]⟩, .string ⟨#[10]⟩, .string ⟨#[9]⟩, .string ⟨#[13, 10]⟩, .string ⟨#[47, 47, 32, 208, 182, 10]⟩, .string ⟨#[47, 47]⟩] 9)) _ from pickC g f0 k w0 (W.alloc (.cells #[.string ⟨#[32]⟩, .string ⟨#[10]⟩, .string ⟨#[9]⟩, .string ⟨#[13, 10]⟩, .string ⟨#[47, 47, 32, 208, 182, 10]⟩, .string ⟨#[47, 47]⟩] 9)) (hS.keep (below_alloc (Below.refl _ W) _)) hk hF W.heap.size [⟨#[32]⟩, ⟨#[10]⟩, ⟨#[9]⟩, ⟨#[13, 10]⟩, ⟨#[47, 47, 32, 208, 182, 10]⟩, ⟨#[47, 47]⟩] (heap_alloc_new W _) (by have := hlt W k hS; omega) 20 (by decide) (by decide) (by decide))
  have c16 := fun (W : World) (k : Int) (hS : Sr w0 W g f0 k) (hk : k ≤ 1000000000000) => (show Calls Tryd.prog 75 #[.pointer (some ⟨g, 0, none⟩), .slice (some ⟨W.heap.size, 0, none⟩) 14 14] (W.alloc (.cells #[.string ⟨#[34]⟩, .string ⟨#[34, 92, 113, 34]⟩, .string ⟨#[34, 92, 120, 52]⟩, .string ⟨#[255]⟩, .string ⟨#[195]⟩, .string ⟨#[226, 130]⟩, .string ⟨#[64]⟩, .string ⟨#[48, 48]⟩, .string ⟨#[57, 97]⟩, .string ⟨#[49, 50, 51, 52, 53, 54, 55, 56, 57, 48, 49, 50, 51, 52, 53, 54, 55, 56, 57]⟩, .string ⟨#[195, 169, 192]⟩, .string ⟨#[34, 1, 34]⟩, .string ⟨#[34, 255, 34]⟩, .string ⟨#[47, 47, 248]⟩] 9)) _ from pickC g f0 k w0 (W.alloc (.cells #[.string ⟨#[34]⟩, .string ⟨#[34, 92, 113, 34]⟩, .string ⟨#[34, 92, 120, 52]⟩, .string ⟨#[255]⟩, .string ⟨#[195]⟩, .string ⟨#[226, 130]⟩, .string ⟨#[64]⟩, .string ⟨#[48, 48]⟩, .string ⟨#[57, 97]⟩, .string ⟨#[49, 50, 51, 52, 53, 54, 55, 56, 57, 48, 49, 50, 51, 52, 53, 54, 55, 56, 57]⟩, .string ⟨#[195, 169, 192]⟩, .string ⟨#[34, 1, 34]⟩, .string ⟨#[34, 255, 34]⟩, .string ⟨#[47, 47, 248]⟩] 9)) (hS.keep (below_alloc (Below.refl _ W) _)) hk hF W.heap.size [⟨#[34]⟩, ⟨#[34, 92, 113, 34]⟩, ⟨#[34, 92, 120, 52]⟩, ⟨#[255]⟩, ⟨#[195]⟩, ⟨#[226, 130]⟩, ⟨#[64]⟩, ⟨#[48, 48]⟩, ⟨#[57, 97]⟩, ⟨#[49, 50, 51, 52, 53, 54, 55, 56, 57, 48, 49, 50, 51, 52, 53, 54, 55, 56, 57]⟩, ⟨#[195, 169, 192]⟩, ⟨#[34, 1, 34]⟩, ⟨#[34, 255, 34]⟩, ⟨#[47, 47, 248]⟩] (heap_alloc_new W _) (by have := hlt W k hS; omega) 20 (by decide) (by decide) (by decide))
  have c17 := fun (W : World) (k : Int) (hS : Sr w0 W g f0 k) (hk : k ≤ 1000000000000) => (show Calls Tryd.prog 75 #[.pointer (some ⟨g, 0, none⟩), .slice (some ⟨W.heap.size, 0, none⟩) 4 4] (W.alloc (.cells #[.string ⟨#[32]⟩, .string ⟨#[10]⟩, .string ⟨#[59]⟩, .string ⟨#[46]⟩] 9)) _ from pickC g f0 k w0 (W.alloc (.cells #[.string ⟨#[32]⟩, .string ⟨#[10]⟩, .string ⟨#[59]⟩, .string ⟨#[46]⟩] 9)) (hS.keep (below_alloc (Below.refl _ W) _)) hk hF W.heap.size [⟨#[32]⟩, ⟨#[10]⟩, ⟨#[59]⟩, ⟨#[46]⟩] (heap_alloc_new W _) (by have := hlt W k hS; omega) 20 (by decide) (by decide) (by decide))
  have HC5 := Lib.hid c5; have HC9 := Lib.hid c9; have HC12 := Lib.hid c12; have HC14 := Lib.hid c14; have HC16 := Lib.hid c16; have HC17 := Lib.hid c17
  clear c5 c9 c12 c14 c16 c17
  go_enter Tryd.func62, Tryd.ntmps62
  go_wp2_with fail
  refine (nextC g f0 m 12 w0 w hI (by omega) hF (by decide) (by decide)).mono ?_
  rintro e w1 ⟨r, rfl, hr0, hr1, hS, -⟩
  have HS := Lib.hid hS
  clear hS
  have hr : r = 0 ∨ r = 1 ∨ r = 2 ∨ r = 3 ∨ r = 4 ∨ r = 5 ∨ r = 6 ∨ r = 7 ∨ 8 ≤ r := by omega
  clear hI
  rcases hr with rfl | rfl | rfl | rfl | rfl | rfl | rfl | rfl | hr8
  · go_wp2_with (go_at_call 74; refine (nameC g f0 _ w0 _ HS.out (by omega) hF).mono ?_; rintro e w2 ⟨t, rfl, ht, hS2⟩; have HS2 := Lib.hid hS2; clear hS2)
    go_ret
    exact ⟨_, rfl, by omega, HS2.out.mono (by omega)⟩
  · go_wp2_with (go_at_call 75; refine (HC5.out _ _ HS.out (by omega)).mono ?_; rintro e w2 ⟨t, rfl, ht, hS2, -⟩; have HS2 := Lib.hid hS2; clear hS2)
    go_ret
    exact ⟨_, rfl, by omega, HS2.out.mono (by omega)⟩
  · go_wp2_with (go_at_call 61; refine (nextC g f0 _ 2000 w0 _ HS.out (by omega) hF (by decide) (by decide)).mono ?_; rintro e w2 ⟨r2, rfl, hr20, hr21, hS2, -⟩; have HS2 := Lib.hid hS2; clear hS2)
    go_wp2_with (go_at_call 76; refine (digitsC r2 _ hr20 hr21).mono ?_; rintro e w3 ⟨t, rfl, ht, hb3⟩; have HB3 := Lib.hid hb3; clear hb3)
    go_ret
    exact ⟨_, rfl, by omega, (HS2.out.keep HB3.out).mono (by omega)⟩
  · go_wp2_with (go_at_call 75; refine (HC9.out _ _ HS.out (by omega)).mono ?_; rintro e w2 ⟨t, rfl, ht, hS2, -⟩; have HS2 := Lib.hid hS2; clear hS2)
    go_wp2_with (go_at_call 10; refine (Tex.specQuoteC t _ (by omega)).mono ?_; rintro e w3 ⟨rfl, hb3⟩; have HB3 := Lib.hid hb3; clear hb3)
    go_ret
    exact ⟨_, rfl, by have := quote_size t; omega, (HS2.out.keep HB3.out).mono (by omega)⟩
  · go_wp2_with (go_at_call 75; refine (HC12.out _ _ HS.out (by omega)).mono ?_; rintro e w2 ⟨t, rfl, ht, hS2, -⟩; have HS2 := Lib.hid hS2; clear hS2)
    go_ret
    exact ⟨_, rfl, by omega, HS2.out.mono (by omega)⟩
  · go_wp2_with (go_at_call 75; refine (HC12.out _ _ HS.out (by omega)).mono ?_; rintro e w2 ⟨t, rfl, ht, hS2, -⟩; have HS2 := Lib.hid hS2; clear hS2)
    go_ret
    exact ⟨_, rfl, by omega, HS2.out.mono (by omega)⟩
  · go_wp2_with (go_at_call 75; refine (HC14.out _ _ HS.out (by omega)).mono ?_; rintro e w2 ⟨t, rfl, ht, hS2, -⟩; have HS2 := Lib.hid hS2; clear hS2)
    go_ret
    exact ⟨_, rfl, by omega, HS2.out.mono (by omega)⟩
  · go_wp2_with (go_at_call 75; refine (HC16.out _ _ HS.out (by omega)).mono ?_; rintro e w2 ⟨t, rfl, ht, hS2, -⟩; have HS2 := Lib.hid hS2; clear hS2)
    go_ret
    exact ⟨_, rfl, by omega, HS2.out.mono (by omega)⟩
  · have n0 : (r == 0) = false := by simp; omega
    have n1 : (r == 1) = false := by simp; omega
    have n2 : (r == 2) = false := by simp; omega
    have n3 : (r == 3) = false := by simp; omega
    have n4 : (r == 4) = false := by simp; omega
    have n5 : (r == 5) = false := by simp; omega
    have n6 : (r == 6) = false := by simp; omega
    have n7 : (r == 7) = false := by simp; omega
    go_wp2_with (go_at_call 74; refine (nameC g f0 _ w0 _ HS.out (by omega) hF).mono ?_; rintro e w2 ⟨t, rfl, ht, hS2⟩; have HS2 := Lib.hid hS2; clear hS2)
    go_wp2_with (go_at_call 75; refine (HC17.out _ _ HS2.out (by omega)).mono ?_; rintro e w3 ⟨t3, rfl, ht3, hS3, -⟩; have HS3 := Lib.hid hS3; clear hS3; have k1 := eq_true (show t.size + t3.size ≤ 9223372036854775807 by omega))
    go_ret
    exact ⟨_, rfl, by rw [ByteArray.size_append]; omega, HS3.out.mono (by omega)⟩
theorem Sr.lt {w0 w : World} {g : Nat} {f0 : List Int} {m : Int} (h : Sr w0 w g f0 m) : Below w0.heap.size w0 w := h.choose_spec.choose_spec.2.2.2.2.2
set_option maxHeartbeats 8000000 in
set_option maxRecDepth 100000 in
theorem wordsC (g : Nat) (f0 : List Int) (m n : Int) (w0 w : World) (hI : Sr w0 w g f0 m) (hm : m ≤ 1000) (hF : Bytes f0) (hn : 1 ≤ n) (hn2 : n ≤ 100) :
    Calls Tryd.prog 36 #[.pointer (some ⟨g, 0, none⟩), .int .i64 n] w fun e w' => ∃ t, e = .returned (.string t) ∧ t.size ≤ 20000 ∧ Below w0.heap.size w0 w' := by
  have p1 : IntKind.wrap .i64 (n + 1) = n + 1 := by rw [i64_w]; exact wrap_ok (by omega) (by omega)
  go_enter Tryd.func36, Tryd.ntmps36
  go_wp2_with (go_at_call 61; refine (nextC g f0 m (n + 1) w0 w hI (by omega) hF (by omega) (by omega)).mono ?_; rintro e w1 ⟨r, rfl, hr0, hr1, hS, -⟩; have HS := Lib.hid hS; clear hS)
  have hr2 : r ≤ 100 := by omega
  clear hr1 p1 hI
  go_loopw [5, 6] (fun o i wr => ∃ (t : ByteArray) (x k : Int), 0 ≤ x ∧ x ≤ 100 ∧ o = .string t ∧ i = .int .i64 x ∧ (t.size : Int) ≤ 100 * (100 - x) ∧ k ≤ 10000 + 20 * (100 - x) ∧ Sr w0 wr g f0 k) (fun _ i _ => (intOf i).toNat)
  case atStart => exact ⟨⟨#[]⟩, r, _, hr0, hr2, rfl, rfl, by show ((0 : Nat) : Int) ≤ _; omega, by omega, HS.out⟩
  case round =>
    clear HS hr0 hr2
    obtain ⟨t, x, k, hx0, hx1, rfl, rfl, hts, hk, hS⟩ := hrel
    have HS := Lib.hid hS
    clear hS
    by_cases hlt : 0 < x
    · have q0 := decide_eq_true hlt
      have p2 : IntKind.wrap .i64 (x - 1) = x - 1 := by rw [i64_w]; exact wrap_ok (by omega) (by omega)
      go_wp2_with (go_at_call 62; refine (pieceC g f0 k w0 _ HS.out (by omega) hF).mono ?_; rintro e w2 ⟨t2, rfl, ht2, hS2⟩; have HS2 := Lib.hid hS2; clear hS2; have k1 := eq_true (show t.size + t2.size ≤ 9223372036854775807 by omega))
      go_roundw
      case measure => simp [intOf]; omega
      case rel => exact ⟨t ++ t2, x - 1, _, by omega, by omega, rfl, rfl, by rw [ByteArray.size_append]; omega, by omega, HS2.out⟩
    · have q0 := decide_eq_false hlt
      go_wp2_with fail
      refine (chanceC g f0 k 40 w0 _ HS.out (by omega) hF (by decide) (by decide)).mono ?_
      rintro e w2 ⟨r, rfl, hS2, -⟩
      have HB := Lib.hid hS2.lt
      clear hS2 HS
      rcases r with _ | _
      · go_wp2_with fail
        go_ret
        exact ⟨_, rfl, by omega, HB.out⟩
      · go_wp2_with fail
        go_loopw [5, 7] (fun o i wr => ∃ (t : ByteArray) (x : Int), 0 ≤ x ∧ x ≤ 42 ∧ o = .string t ∧ i = .int .i64 x ∧ (t.size : Int) ≤ 10000 + x ∧ wr = w2) (fun _ i _ => (42 - intOf i).toNat)
        case atStart => exact ⟨t, 0, by omega, by omega, rfl, rfl, by omega, rfl⟩
        case round =>
          obtain ⟨u, y, hy0, hy1, rfl, rfl, hus, rfl⟩ := hrel
          by_cases hlt2 : y < 42
          · have q2 := decide_eq_true hlt2
            have p2 : IntKind.wrap .i64 (y + 1) = y + 1 := by rw [i64_w]; exact wrap_ok (by omega) (by omega)
            have k1 := eq_true (show u.size + 1 ≤ 9223372036854775807 by omega)
            have k2 := eq_true (show u.size + (⟨#[110]⟩ : ByteArray).size ≤ 9223372036854775807 by show u.size + 1 ≤ _; omega)
            go_wp2_with fail
            go_roundw
            case measure => simp [intOf]; omega
            case rel => exact ⟨u ++ ⟨#[110]⟩, y + 1, by omega, by omega, rfl, rfl, by rw [ByteArray.size_append]; show ((u.size + 1 : Nat) : Int) ≤ _; omega, by first | trivial | rfl⟩
          · have q2 := decide_eq_false hlt2
            go_wp2_with fail
            go_ret
            exact ⟨_, rfl, by omega, HB.out⟩
set_option maxHeartbeats 4000000 in
set_option maxRecDepth 100000 in
theorem drawTokensC (A0 : Option Addr) (c0 : Nat) (l0 : List Int) (w : World) (hr0 : Kd.C (Kd.int .u8) w A0 l0.length l0) (hc0 : l0.length ≤ c0) (hF : Bytes l0) :
    Calls Tryd.prog 19 #[.slice A0 l0.length c0] w fun e w' => ∃ t, e = .returned (.string t) ∧ t.size ≤ 20000 ∧ Below w.heap.size w w' := by
  have HR := Lib.hid hr0
  clear hr0
  go_enter Tryd.func19, Tryd.ntmps19
  go_wp2_with fail
  refine (sourceC A0 c0 l0 w HR.out hc0).mono ?_
  rintro e w1 ⟨g, rfl, hS, hg, hb⟩
  have HS := Lib.hid hS; have HB := Lib.hid hb
  clear hS hb
  go_wp2_with fail
  refine (sourceC A0 c0 l0 w1 (Kd.C_below HR.out HB.out) hc0).mono ?_
  rintro e w2 ⟨g2, rfl, hS2, hg2, hb2⟩
  have HS1 := Lib.hid (HS.out.keep hb2); have HS2 := Lib.hid hS2; have HB2 := Lib.hid hb2
  clear hS2 hb2
  go_wp2_with fail
  refine (sizeC g2 l0 0 40 w1 w2 HS2.out hF (by decide)).mono ?_
  rintro e w3 ⟨r, rfl, hr0, hr1, hS3, hK⟩
  have HS3 := Lib.hid (show Sr w w3 g l0 0 by
    obtain ⟨x, sd, ⟨A, c, hb, hg, hr⟩, h1, h2, h3, h4, h5⟩ := HS1.out
    have hlt := blk_lt hb
    have hne : g ≠ g2 := by
      obtain ⟨x', sd', ⟨A', c', hb', -, -⟩, -⟩ := HS.out
      have := blk_lt hb'
      omega
    refine ⟨x, sd, ⟨A, c, (hK.2 g hlt hne (by simp)).trans hb, hg, hr⟩, h1, h2, h3, h4, ?_⟩
    exact HB.out.trans (hS3.lt.mono HB.out.size))
  clear hS3 hK
  go_wp2_with fail
  refine (wordsC g l0 0 r w w3 HS3.out (by decide) hF hr0 (by omega)).mono ?_
  rintro e w4 ⟨t, rfl, ht, hb4⟩
  have HB4 := Lib.hid hb4
  clear hb4
  go_wp2_with fail
  go_ret
  exact ⟨_, rfl, ht, HB4.out⟩
end Go.Proofs.YtgiaogocdihhhaaDoor.Src
