/- Tokens: the specification's signs. -/
import Derived.Test.YtgiaogocdihhhaaDoorTokR
namespace Go.Proofs.YtgiaogocdihhhaaDoor.Tex
open Go.RowKit Go.Proofs.YtgiaogocdihhhaaDoorW.PrintWords Go.Proofs.YtgiaogocdihhhaaDoorW.PrintLast Go.Proofs.YtgiaogocdihhhaaDoorW.PrintMore Go.Proofs.YtgiaogocdihhhaaDoor.PFnExactTokens
set_option linter.unusedVariables false
set_option linter.unusedSimpArgs false
def signs18 : List ByteArray := [⟨#[40]⟩, ⟨#[41]⟩, ⟨#[123]⟩, ⟨#[125]⟩, ⟨#[44]⟩, ⟨#[59]⟩, ⟨#[46]⟩, ⟨#[61]⟩, ⟨#[61, 61]⟩, ⟨#[33, 61]⟩, ⟨#[60]⟩, ⟨#[60, 61]⟩, ⟨#[43]⟩, ⟨#[45]⟩, ⟨#[42]⟩, ⟨#[47]⟩, ⟨#[37]⟩, ⟨#[33]⟩]
theorem has_f (L : List ByteArray) (T : ByteArray) (hL : L.length ≤ 1000) : ∀ (n i : Nat), i ≤ L.length → L.length < n + i → spec_l00Has.l0 n L T (i : Int) = some ((L.drop i).any fun y => decide (y.data.toList = T.data.toList))
  | 0, i, h1, h2 => by omega
  | n + 1, i, h1, h2 => by
    rw [spec_l00Has.l0]
    by_cases hi : i < L.length
    · have hd : L.drop i = L[i] :: L.drop (i + 1) := List.drop_eq_getElem_cons hi
      have hr : rdOf ByteArray.empty L (i : Int) = L[i] := by
        unfold rdOf
        rw [Int.toNat_natCast, List.getD_eq_getElem?_getD, List.getElem?_eq_getElem hi]
        rfl
      rw [if_pos (by omega), if_pos (by omega), hr, hd, List.any_cons, show wrap64 ((i : Int) + 1) = ((i + 1 : Nat) : Int) from (wrap_ok (by omega) (by omega)).trans (by omega), has_f L T hL n (i + 1) (by omega) (by omega), ByteArray.toList_eq, ByteArray.toList_eq]
      by_cases he : L[i].data.toList = T.data.toList
      · rw [if_pos he, decide_eq_true he]; rfl
      · rw [if_neg he, decide_eq_false he]; rfl
    · rw [if_neg (by omega), List.drop_eq_nil_of_le (by omega)]
      rfl
theorem has_one_fin : ∀ c : Fin 256, (signs18.any fun y => decide (y.data.toList = [UInt8.ofNat c.val])) = oneB (c.val : Int) := by decide +kernel
theorem has_one (s : ByteArray) (a : Int) (h0 : 0 ≤ a) (h : a < (s.size : Int)) : spec_l00Has.f 30 signs18 (s.extract a.toNat (a + 1).toNat) = some (oneB (bt s a)) := by
  have e := has_f signs18 (s.extract a.toNat (a + 1).toNat) (by decide) 30 0 (by decide) (by decide)
  have hf := has_one_fin ⟨(s.get! a.toNat).toNat, (s.get! a.toNat).toNat_lt⟩
  have hb : bt s a = (((s.get! a.toNat).toNat : Nat) : Int) := bt_bI s a h0
  simp only [UInt8.ofNat_toNat] at hf
  rw [ext_one s a h0 h] at e ⊢
  rw [hb, ← hf]
  exact e
theorem has_two_l (p q : UInt8) (t : List UInt8) : (signs18.any fun y => decide (y.data.toList = [p, q])) = (Lib.hasPrefix (p :: q :: t) [61, 61] || Lib.hasPrefix (p :: q :: t) [33, 61] || Lib.hasPrefix (p :: q :: t) [60, 61]) := by
  rw [Bool.eq_iff_iff]
  simp [signs18, Lib.hasPrefix, List.isPrefixOf]
  exact or_assoc.symm
theorem has_two (s : ByteArray) (a : Int) (h0 : 0 ≤ a) (h : a + 1 < (s.size : Int)) : spec_l00Has.f 30 signs18 (s.extract a.toNat (a + 2).toNat) = some (twoB s a) := by
  have e := has_f signs18 (s.extract a.toNat (a + 2).toNat) (by decide) 30 0 (by decide) (by decide)
  obtain ⟨L, hL⟩ : ∃ L, (s.extract a.toNat s.size).data.toList = L := ⟨_, rfl⟩
  have hz : s.data.size = s.size := rfl
  have hd : L = s.data.toList.drop a.toNat := by
    rw [← hL, ByteArray.data_extract, Array.toList_extract]
    simp only [List.extract]
    rw [List.take_of_length_le (by rw [List.length_drop, Array.length_toList]; omega)]
  have ht : (s.extract a.toNat (a + 2).toNat).data.toList = L.take 2 := by
    rw [hd, ByteArray.data_extract, Array.toList_extract]
    simp [List.extract]
    congr 1
    omega
  have hl : L.length = s.size - a.toNat := by rw [hd, List.length_drop, Array.length_toList, hz]
  match L, hl with
  | [], hl => simp at hl; omega
  | [_], hl => simp at hl; omega
  | p :: q :: t, _ =>
    rw [ht] at e
    unfold twoB
    rw [hL, ← has_two_l p q t]
    exact e
theorem lit_strC (L : List ByteArray) (W : World) (hl : L.length ≤ 9223372036854775807) : Kd.string.C (W.alloc (.cells (encs Value.string L).toArray 9)) (some ⟨W.heap.size, 0, none⟩) L.length L := by
  obtain ⟨A, c, e, _, h⟩ := Kd.R_reads (show Kd.string.R 9 (W.alloc (.cells (encs Value.string L).toArray 9)) W.heap.size (fun _ => True) (.slice (some ⟨W.heap.size, 0, none⟩) L.length L.length) L from Kd.R_of_own (own_lit_of W W.heap.size 9 L (Nat.le_refl _) hl) (fun _ _ => trivial))
  injection e with e1 e2 e3
  subst e1
  exact h
/-- The block that holds the signs. -/
def sgO : Obj := .cells (encs Value.string signs18).toArray 9
theorem sgO_eq : sgO = .cells #[.string ⟨#[40]⟩, .string ⟨#[41]⟩, .string ⟨#[123]⟩, .string ⟨#[125]⟩, .string ⟨#[44]⟩, .string ⟨#[59]⟩, .string ⟨#[46]⟩, .string ⟨#[61]⟩, .string ⟨#[61, 61]⟩, .string ⟨#[33, 61]⟩, .string ⟨#[60]⟩, .string ⟨#[60, 61]⟩, .string ⟨#[43]⟩, .string ⟨#[45]⟩, .string ⟨#[42]⟩, .string ⟨#[47]⟩, .string ⟨#[37]⟩, .string ⟨#[33]⟩] 9 := rfl
theorem hasC1 (s : ByteArray) (a : Int) (W : World) (h0 : 0 ≤ a) (h : a < (s.size : Int)) :
    Calls Tryd.prog 51 #[.slice (some ⟨W.heap.size, 0, none⟩) 18 18, .string (s.extract a.toNat (a + 1).toNat)] (W.alloc sgO) fun e w' => e = .returned (.bool (oneB (bt s a))) ∧ Below (W.alloc sgO).heap.size (W.alloc sgO) w' :=
  (spec_l00Has.calls 30 _ 18 signs18 _ _ (W.alloc sgO) (lit_strC signs18 W (by decide)) (by decide) (has_one s a h0 h)).mono fun e w' ⟨h1, h2⟩ => ⟨h1, drawn_below h2⟩
theorem hasC2 (s : ByteArray) (a : Int) (W : World) (h0 : 0 ≤ a) (h : a + 1 < (s.size : Int)) :
    Calls Tryd.prog 51 #[.slice (some ⟨W.heap.size, 0, none⟩) 18 18, .string (s.extract a.toNat (a + 2).toNat)] (W.alloc sgO) fun e w' => e = .returned (.bool (twoB s a)) ∧ Below (W.alloc sgO).heap.size (W.alloc sgO) w' :=
  (spec_l00Has.calls 30 _ 18 signs18 _ _ (W.alloc sgO) (lit_strC signs18 W (by decide)) (by decide) (has_two s a h0 h)).mono fun e w' ⟨h1, h2⟩ => ⟨h1, drawn_below h2⟩
end Go.Proofs.YtgiaogocdihhhaaDoor.Tex
