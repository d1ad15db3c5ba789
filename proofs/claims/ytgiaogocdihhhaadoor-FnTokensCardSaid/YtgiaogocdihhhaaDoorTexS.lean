/- Texts: contracts of the functions that look at a rune. -/
import Derived.Test.YtgiaogocdihhhaaDoorTex
import Derived.Test.YtgiaogocdihhhaaDoorShelf
import Derived.Lib.Hide
namespace Go.Proofs.YtgiaogocdihhhaaDoor.Tex
open Go.RowKit Go.Proofs.YtgiaogocdihhhaaDoorW.PrintWords Go.Proofs.YtgiaogocdihhhaaDoorW.PrintLast Go.Proofs.YtgiaogocdihhhaaDoorW.PrintMore
open Go.Proofs.YtgiaogocdihhhaaDoor.PFnExactRuneAt
set_option linter.unusedVariables false
set_option linter.unusedSimpArgs false

def rI (s : ByteArray) (i : Int) : Int := ((dec s i.toNat).1 : Int)
def nI (s : ByteArray) (i : Int) : Int := ((dec s i.toNat).2 : Int)
theorem decN_range (n b0 b1 b2 b3 : Nat) (hn : 1 ≤ n) (h0 : b0 < 256) (h1 : b1 < 256) (h2 : b2 < 256) (h3 : b3 < 256) : (Lib.decodeN n b0 b1 b2 b3).1 ≤ 1114111 ∧ 1 ≤ (Lib.decodeN n b0 b1 b2 b3).2 ∧ (Lib.decodeN n b0 b1 b2 b3).2 ≤ 4 ∧ (Lib.decodeN n b0 b1 b2 b3).2 ≤ n := by
  unfold Lib.decodeN
  repeat' split
  all_goals (simp only; omega)
theorem rI_range (s : ByteArray) (i : Int) (h0 : 0 ≤ i) (h : i < (s.size : Int)) : 0 ≤ rI s i ∧ rI s i ≤ 1114111 ∧ 1 ≤ nI s i ∧ nI s i ≤ 4 ∧ i + nI s i ≤ (s.size : Int) := by
  have hr := decN_range (s.size - i.toNat) (bv s i.toNat) (bv s (i.toNat + 1)) (bv s (i.toNat + 2)) (bv s (i.toNat + 3)) (by omega) (bv_lt _ _) (bv_lt _ _) (bv_lt _ _) (bv_lt _ _)
  unfold rI nI
  rw [dec_eq]
  omega
theorem l01RuneC (s : ByteArray) (i : Int) (w : World) (h0 : 0 ≤ i) (h : i < (s.size : Int)) (hs : s.size ≤ 1099511627776) :
    Calls Tryd.prog 20 #[.string s, .int .i64 i] w fun e w' => e = .returned (.tuple #[.int .i64 (rI s i), .int .i64 (nI s i)]) ∧ Below w.heap.size w w' := by
  have hd := rune_dec s i.toNat hs (by omega)
  rw [show ((i.toNat : Nat) : Int) = i by omega] at hd
  exact spec_l01Rune.calls 12 s i _ _ w hd
def Tabs (w : World) : Prop := Lib.Utf8Tabs 0 1 w
theorem Tabs.below {w w' : World} (h : Tabs w) (h2 : 2 ≤ w.heap.size) (hb : Below w.heap.size w w') : Tabs w' := by
  refine ⟨fun c hc => (hb.cell (p := ⟨0, c, none⟩) (show 0 < w.heap.size by omega)).trans (h.1 c hc), fun i hi => ⟨(hb.cell (p := ⟨1, 2 * i, none⟩) (show 1 < w.heap.size by omega)).trans (h.2 i hi).1, (hb.cell (p := ⟨1, 2 * i + 1, none⟩) (show 1 < w.heap.size by omega)).trans (h.2 i hi).2⟩⟩

theorem bv_extract (s : ByteArray) (i k : Nat) : bv (s.extract i s.size) k = bv s (i + k) := by
  show ((s.extract i s.size).data[k]!).toNat = (s.data[i + k]!).toNat
  have hz : s.data.size = s.size := rfl
  rw [ByteArray.data_extract]
  by_cases h : i + k < s.size
  · rw [getElem!_pos _ _ (by rw [Array.size_extract]; omega), getElem!_pos _ _ (by omega), Array.getElem_extract]
  · rw [getElem!_neg _ _ (by rw [Array.size_extract]; omega), getElem!_neg _ _ (by omega)]
theorem go_dec (s : ByteArray) (i : Nat) (h : i < s.size) : Lib.decodeGo (s.extract i s.size) = dec s i := by
  have hz : (s.extract i s.size).size = s.size - i := by rw [ByteArray.size_extract]; omega
  unfold Lib.decodeGo
  rw [if_neg (by omega), Lib.decode_at, dec_eq]
  show Lib.decodeN ((s.extract i s.size).size - 0) (bv (s.extract i s.size) 0) (bv (s.extract i s.size) (0 + 1)) (bv (s.extract i s.size) (0 + 2)) (bv (s.extract i s.size) (0 + 3)) = _
  rw [bv_extract, bv_extract, bv_extract, bv_extract, hz]
  simp
set_option maxHeartbeats 1000000 in
theorem runeAtC (s : ByteArray) (i : Int) (w : World) (h0 : 0 ≤ i) (h : i < (s.size : Int)) (hs : s.size ≤ 1099511627776) (hT : Tabs w) :
    Calls Tryd.prog 22 #[.string s, .int .i64 i] w fun e w' => e = .returned (.tuple #[.int .i64 (rI s i), .int .i64 (nI s i)]) ∧ Below w.heap.size w w' := by
  have cD := Tryd.utf8_DecodeRuneInString (s.extract i.toNat s.size) w hT
  rw [go_dec s i.toNat (by omega)] at cD
  obtain ⟨R, hR⟩ : ∃ R, rI s i = R := ⟨_, rfl⟩
  obtain ⟨K, hK⟩ : ∃ K, nI s i = K := ⟨_, rfl⟩
  have hr := rI_range s i h0 h
  rw [hR, hK] at hr ⊢
  have e1 : ((dec s i.toNat).1 : Int) = R := hR
  have e2 : ((dec s i.toNat).2 : Int) = K := hK
  rw [e1, e2] at cD
  clear e1 e2 hR hK
  go_enter Tryd.func22, Tryd.ntmps22
  go_wp2_with (go_at_call 41; refine cD.mono ?_; rintro e w' ⟨rfl, hb⟩)
  go_ret2
  exact ⟨rfl, hb⟩
def wrongB (s : ByteArray) (i : Int) : Bool := (rI s i == 65533) && (nI s i == 1)
set_option maxHeartbeats 1000000 in
theorem wrongAtC (s : ByteArray) (i : Int) (w : World) (h0 : 0 ≤ i) (h : i < (s.size : Int)) (hs : s.size ≤ 1099511627776) (hT : Tabs w) :
    Calls Tryd.prog 24 #[.string s, .int .i64 i] w fun e w' => e = .returned (.bool (wrongB s i)) ∧ Below w.heap.size w w' := by
  have cD := runeAtC s i w h0 h hs hT
  unfold wrongB
  obtain ⟨R, hR⟩ : ∃ R, rI s i = R := ⟨_, rfl⟩
  obtain ⟨K, hK⟩ : ∃ K, nI s i = K := ⟨_, rfl⟩
  rw [hR, hK] at cD ⊢
  clear hR hK
  rcases h1 : (R == 65533) with _ | _
  · go_enter Tryd.func24, Tryd.ntmps24
    go_wp2_with (go_at_call 22; refine cD.mono ?_; rintro e w' ⟨rfl, hb⟩)
    go_ret
    exact ⟨rfl, hb⟩
  · go_enter Tryd.func24, Tryd.ntmps24
    go_wp2_with (go_at_call 22; refine cD.mono ?_; rintro e w' ⟨rfl, hb⟩)
    go_ret
    exact ⟨rfl, hb⟩
set_option maxHeartbeats 1000000 in
theorem l01WrongC (s : ByteArray) (i : Int) (w : World) (h0 : 0 ≤ i) (h : i < (s.size : Int)) (hs : s.size ≤ 1099511627776) :
    Calls Tryd.prog 23 #[.string s, .int .i64 i] w fun e w' => e = .returned (.bool (wrongB s i)) ∧ Below w.heap.size w w' := by
  have cD := l01RuneC s i w h0 h hs
  unfold wrongB
  obtain ⟨R, hR⟩ : ∃ R, rI s i = R := ⟨_, rfl⟩
  obtain ⟨K, hK⟩ : ∃ K, nI s i = K := ⟨_, rfl⟩
  rw [hR, hK] at cD ⊢
  clear hR hK
  rcases h1 : (R == 65533) with _ | _
  · go_enter Tryd.func23, Tryd.ntmps23
    go_wp2_with (go_at_call 20; refine cD.mono ?_; rintro e w' ⟨rfl, hb⟩)
    go_ret
    exact ⟨rfl, hb⟩
  · go_enter Tryd.func23, Tryd.ntmps23
    go_wp2_with (go_at_call 20; refine cD.mono ?_; rintro e w' ⟨rfl, hb⟩)
    go_ret
    exact ⟨rfl, hb⟩
theorem clos40 (s : ByteArray) (w : World) : Calls Tryd.prog 40 #[.string s] w fun e w' => e = .returned (.bool (decide (65536 < (s.size : Int)))) ∧ w = w' := by
  go_enter Tryd.func40, Tryd.ntmps40
  go_wp2_with fail
  go_ret
  exact ⟨rfl, rfl⟩
def longB (s : ByteArray) : Bool := decide (65536 < (s.size : Int))
theorem idx64 (s : ByteArray) (b : Nat) (w : World) (hc : w.cell? ⟨b, 0, none⟩ = some (.string s)) :
    Calls Tryd.prog 64 #[.slice (some ⟨b, 0, none⟩) 1 1, .func (.func 40) #[] #[]] w fun e w' => e = .returned (.int .i64 (if longB s = true then 0 else -1)) ∧ w' = w := by
  have c40 := clos40 s
  rcases hL : longB s with _ | _
  · have hl : decide (65536 < (s.size : Int)) = false := hL
    rw [hl] at c40
    have HL := Lib.hid hL
    clear hl hL
    go_enter Tryd.func64, Tryd.ntmps64
    go_wp2_with fail
    go_loop [8] (fun i => ∃ x : Int, (x = 0 ∨ x = 1) ∧ i = .int .i64 x) (fun i => 1 - (intOf i).toNat)
    case atStart => exact ⟨0, .inl rfl, rfl⟩
    case round =>
      obtain ⟨x, hx, rfl⟩ := hrel
      rcases hx with rfl | rfl
      · go_wp2_with (go_at_call 40; refine (c40 _).mono ?_; rintro e w9 ⟨rfl, rfl⟩)
        go_round
        case rel => exact ⟨1, .inr rfl, rfl⟩
        case measure => simp [intOf]
      · go_wp2_with fail
        go_ret
        exact ⟨rfl, rfl⟩
  · have hl : decide (65536 < (s.size : Int)) = true := hL
    rw [hl] at c40
    have HL := Lib.hid hL
    clear hl hL
    go_enter Tryd.func64, Tryd.ntmps64
    go_wp2_with fail
    go_loop [8] (fun i => i = .int .i64 0) (fun i => 1)
    case atStart => rfl
    case round =>
      obtain rfl := hrel
      go_wp2_with (go_at_call 40; refine (c40 _).mono ?_; rintro e w9 ⟨rfl, rfl⟩)
      go_ret
      exact ⟨rfl, rfl⟩
theorem contains39 (s : ByteArray) (b : Nat) (w : World) (hc : w.cell? ⟨b, 0, none⟩ = some (.string s)) :
    Calls Tryd.prog 39 #[.slice (some ⟨b, 0, none⟩) 1 1, .func (.func 40) #[] #[]] w fun e w' => e = .returned (.bool (longB s)) ∧ w' = w := by
  have c64 := idx64 s b w hc
  rcases hL : longB s with _ | _
  · rw [hL] at c64
    have c : Calls Tryd.prog 64 #[.slice (some ⟨b, 0, none⟩) 1 1, .func (.func 40) #[] #[]] w fun e w' => e = .returned (.int .i64 (-1)) ∧ w' = w := c64
    clear c64
    go_enter Tryd.func39, Tryd.ntmps39
    go_wp2_with (go_at_call 64; refine c.mono ?_; rintro e w9 ⟨rfl, rfl⟩)
    go_ret
    exact ⟨rfl, rfl⟩
  · rw [hL] at c64
    have c : Calls Tryd.prog 64 #[.slice (some ⟨b, 0, none⟩) 1 1, .func (.func 40) #[] #[]] w fun e w' => e = .returned (.int .i64 0) ∧ w' = w := c64
    clear c64
    go_enter Tryd.func39, Tryd.ntmps39
    go_wp2_with (go_at_call 64; refine c.mono ?_; rintro e w9 ⟨rfl, rfl⟩)
    go_ret
    exact ⟨rfl, rfl⟩
theorem tooLongC (s : ByteArray) (b : Nat) (w : World) (hc : w.cell? ⟨b, 0, none⟩ = some (.string s)) :
    Calls Tryd.prog 21 #[.slice (some ⟨b, 0, none⟩) 1 1] w fun e w' => e = .returned (.bool (longB s)) ∧ w' = w := by
  have c := contains39 s b w hc
  go_enter Tryd.func21, Tryd.ntmps21
  go_wp2_with (go_at_call 39; refine c.mono ?_; rintro e w9 ⟨rfl, rfl⟩)
  go_ret
  exact ⟨rfl, rfl⟩
end Go.Proofs.YtgiaogocdihhhaaDoor.Tex
