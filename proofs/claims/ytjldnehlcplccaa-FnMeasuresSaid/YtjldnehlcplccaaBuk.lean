/- Floats: Buckets, the specification's and the program's, walked. -/
import Derived.Test.YtjldnehlcplccaaInt
import Derived.Test.YtjldnehlcplccaaSmo
namespace Go.Proofs.Ytjldnehlcplccaa.Flo
open Go.RowKit Go.Proofs.YtjldnehlcplccaaW.PrintWords Go.Proofs.YtjldnehlcplccaaW.PrintLast Go.Proofs.YtjldnehlcplccaaW.PrintMore
open Ieee
set_option linter.unusedSimpArgs false
set_option linter.unusedVariables false

def ltB (a b : Nat) : Bool := FloatKind.f64.format.order a b == some .lt
def scan (p : Nat → Bool) : Nat → Nat → Nat
  | 0, k => k
  | d + 1, k => if p k then k else scan p d (k + 1)
theorem scan_le (p : Nat → Bool) : ∀ d k, scan p d k ≤ k + d
  | 0, k => by simp [scan]
  | d + 1, k => by
    unfold scan
    split
    · omega
    · have := scan_le p d (k + 1); omega
theorem scan_skip (p : Nat → Bool) (n : Nat) : ∀ k, k ≤ n → (∀ j, j < k → p j = false) → scan p n 0 = scan p (n - k) k
  | 0, _, _ => rfl
  | k + 1, hk, h => by
    rw [scan_skip p n k (by omega) (fun j hj => h j (by omega))]
    obtain ⟨d, hd⟩ : ∃ d, n - k = d + 1 := ⟨n - k - 1, by omega⟩
    rw [hd, show n - (k + 1) = d by omega]
    show (if p k = true then k else scan p d (k + 1)) = _
    rw [if_neg (by rw [h k (by omega)]; decide)]
theorem scan_hit (p : Nat → Bool) (n k : Nat) (hk : k < n) (h : ∀ j, j < k → p j = false) (hp : p k = true) : scan p n 0 = k := by
  rw [scan_skip p n k (by omega) h]
  obtain ⟨d, hd⟩ : ∃ d, n - k = d + 1 := ⟨n - k - 1, by omega⟩
  rw [hd]
  show (if p k = true then k else scan p d (k + 1)) = _
  rw [if_pos hp]
theorem scan_none (p : Nat → Bool) (n : Nat) (h : ∀ j, j < n → p j = false) : scan p n 0 = n := by
  rw [scan_skip p n n (Nat.le_refl _) h, Nat.sub_self]
  rfl
def pos (bs : List Nat) (x : Nat) : Nat := scan (fun j => ltB x (rdOf 0 bs (j : Int))) bs.length 0
theorem pos_le (bs : List Nat) (x : Nat) : pos bs x ≤ bs.length := by have := scan_le (fun j => ltB x (rdOf 0 bs (j : Int))) bs.length 0; unfold pos; omega
def cnt (bs xs : List Nat) : Nat → List Int
  | 0 => List.replicate (bs.length + 1) 0
  | i + 1 => (cnt bs xs i).set (pos bs (rdOf 0 xs (i : Int))) (wrap64 (rdOf 0 (cnt bs xs i) (pos bs (rdOf 0 xs (i : Int)) : Int) + 1))
theorem cnt_len (bs xs : List Nat) : ∀ i, (cnt bs xs i).length = bs.length + 1
  | 0 => by simp [cnt]
  | i + 1 => by simp [cnt, cnt_len bs xs i]
def asc (bs : List Nat) : Bool := (List.range bs.length).all fun i => i == 0 || ltB (rdOf 0 bs ((i : Int) - 1)) (rdOf 0 bs (i : Int))
def bkCode (xs bs : List Nat) : Int := if 1000 < xs.length then 10 else if 1000 < bs.length then 10 else if asc bs then 0 else 1
def bkOut (xs bs : List Nat) : List Int := if bkCode xs bs = 0 then cnt bs xs xs.length else []
theorem asc_true {bs : List Nat} (h : ∀ j : Nat, 1 ≤ j → j < bs.length → ltB (rdOf 0 bs ((j : Int) - 1)) (rdOf 0 bs (j : Int)) = true) : asc bs = true := by
  unfold asc
  rw [List.all_eq_true]
  intro j hj
  rw [List.mem_range] at hj
  by_cases h0 : j = 0
  · simp [h0]
  · rw [h j (by omega) hj]; simp
theorem asc_false {bs : List Nat} {i : Int} (h0 : 1 ≤ i) (h1 : i < bs.length) (h : ltB (rdOf 0 bs (i - 1)) (rdOf 0 bs i) = false) : asc bs = false := by
  rw [Bool.eq_false_iff]
  intro h3
  unfold asc at h3
  rw [List.all_eq_true] at h3
  have h4 := h3 i.toNat (List.mem_range.2 (by omega))
  rw [show ((i.toNat : Nat) : Int) = i by omega, h] at h4
  simp at h4
  omega
/-- What a call answers that hands back a row of whole numbers and a code. -/
def AnsI (w w' : World) (e : Ending) (code : Int) (D : List Int) : Prop := ∃ (v1 : Value), e = .returned (.tuple #[v1, .int .i64 code]) ∧ il.R 3 w' w.heap.size (fun _ => True) v1 D ∧ Below w.heap.size w w'
theorem AnsI.mk {w w' : World} {e : Ending} {code : Int} {D : List Int} (v1 : Value) (he : e = .returned (.tuple #[v1, .int .i64 code])) (hR : il.R 3 w' w.heap.size (fun _ => True) v1 D) (hB : Below w.heap.size w w') : AnsI w w' e code D := ⟨v1, he, hR, hB⟩

set_option maxHeartbeats 4000000 in
set_option maxRecDepth 100000 in
theorem implBuckets (v vb : Value) (xs bs : List Nat) (w : World) (h : Rd fl w v xs) (hb : Rd fl w vb bs) :
    Calls Try.prog 26 #[v, vb] w fun e w' => AnsI w w' e (bkCode xs bs) (bkOut xs bs) := by
  obtain ⟨A, c, rfl, hc, hr⟩ := h
  obtain ⟨B, d, rfl, hd, hs⟩ := hb
  have HR := Lib.hid hr
  have HS := Lib.hid hs
  clear hr hs
  by_cases hm : 1000 < (xs.length : Int)
  · have hcode : bkCode xs bs = 10 := by unfold bkCode; rw [if_pos (by omega)]
    have hout : bkOut xs bs = [] := by unfold bkOut; rw [hcode]; rfl
    have HC := Lib.hid hcode
    have HO := Lib.hid hout
    clear hcode hout
    go_enter Try.func26, Try.ntmps26
    go_wp2_with fail
    go_ret2
    exact AnsI.mk _ (by rw [HC.out]; rfl) (by rw [HO.out]; exact Kd.R_nil il 3 w _ _) (Below.refl _ _)
  · by_cases hm2 : 1000 < (bs.length : Int)
    · have hcode : bkCode xs bs = 10 := by unfold bkCode; rw [if_neg (by omega), if_pos (by omega)]
      have hout : bkOut xs bs = [] := by unfold bkOut; rw [hcode]; rfl
      have HC := Lib.hid hcode
      have HO := Lib.hid hout
      clear hcode hout
      go_enter Try.func26, Try.ntmps26
      go_wp2_with fail
      go_ret2
      exact AnsI.mk _ (by rw [HC.out]; rfl) (by rw [HO.out]; exact Kd.R_nil il 3 w _ _) (Below.refl _ _)
    · go_enter Try.func26, Try.ntmps26
      go_wp2_with fail
      go_loopw [6] (fun i wr => ∃ x : Int, 1 ≤ x ∧ (x ≤ (bs.length : Int) ∨ x = 1) ∧ i = .int .i64 x ∧ (∀ j : Nat, 1 ≤ j → (j : Int) < x → ltB (rdOf 0 bs ((j : Int) - 1)) (rdOf 0 bs (j : Int)) = true) ∧ ∃ m, wr = w.drewN m) (fun i _ => bs.length + 1 - (intOf i).toNat)
      case atStart => exact ⟨1, Int.le_refl _, .inr rfl, rfl, fun j h1 h2 => by omega, 0, rfl⟩
      case round =>
        obtain ⟨x, hx0, hxn, rfl, hg, m0, rfl⟩ := hrel
        have HG := Lib.hid hg
        clear hg
        by_cases hlt : x < (bs.length : Int)
        · obtain ⟨ad, eA, g0⟩ := at_scalar 0 HS.out x (by omega) hlt
          subst eA
          obtain ⟨ad2, eA, g1⟩ := at_scalar 0 HS.out (x - 1) (by omega) (by omega)
          obtain rfl : ad = ad2 := Option.some.inj eA
          clear eA
          replace g0 : (w.drewN m0).cell? _ = _ := g0
          replace g1 : (w.drewN m0).cell? _ = _ := g1
          rw [show (x - 1).toNat = x.toNat - 1 by omega] at g1
          obtain ⟨W, hW⟩ : ∃ W, W = w.drewN m0 := ⟨_, rfl⟩
          rw [← hW] at g0 g1 ⊢
          have HW := Lib.hid hW
          clear hW
          obtain ⟨y0, hy0⟩ : ∃ y, y = rdOf 0 bs (x - 1) := ⟨_, rfl⟩
          obtain ⟨y1, hy1⟩ : ∃ y, y = rdOf 0 bs x := ⟨_, rfl⟩
          rw [← hy1] at g0
          rw [← hy0] at g1
          have hw1 : IntKind.i64.wrap (x - 1) = x - 1 := by rw [IntKind.wrap_i64]; omega
          have q1 := eq_true (show (0 : Int) ≤ x - 1 by omega)
          have q2 := eq_true (show x - 1 < (bs.length : Int) by omega)
          have q3 := eq_true (show (0 : Int) ≤ x by omega)
          have q4 := eq_true hlt
          have HY0 := Lib.hid hy0
          have HY1 := Lib.hid hy1
          clear hy0 hy1
          rcases hlB : (FloatKind.f64.format.order y0 y1 == some .lt) with _ | _
          · have hasc : asc bs = false := asc_false hx0 hlt (by rw [← HY0.out, ← HY1.out]; exact hlB)
            have hcode : bkCode xs bs = 1 := by unfold bkCode; rw [if_neg (by omega), if_neg (by omega), hasc]; rfl
            have hout : bkOut xs bs = [] := by unfold bkOut; rw [hcode]; rfl
            have HC := Lib.hid hcode
            have HO := Lib.hid hout
            clear hcode hout hasc
            go_wp2_with fail
            go_quiet (fail)
            go_wp2_with fail
            go_ret2
            exact AnsI.mk _ (by rw [HC.out]; rfl) (by rw [HO.out]; exact Kd.R_nil il 3 _ _ _) (by rw [HW.out, World.drewN_drewN]; exact pw_below_drewN (Below.refl _ _) _)
          · go_wp2_with fail
            go_quiet (fail)
            go_wp2_with fail
            go_roundw
            case measure => simp [intOf]; omega
            case rel =>
              refine ⟨x + 1, by omega, by omega, rfl, ?_, m0 + nq, by rw [HW.out, World.drewN_drewN]⟩
              intro j h1 h2
              by_cases hj : (j : Int) = x
              · rw [hj, ← HY0.out, ← HY1.out]; exact hlB
              · exact HG.out j h1 (by omega)
        · have hasc : asc bs = true := asc_true (fun j h1 h2 => HG.out j h1 (by omega))
          have hcode : bkCode xs bs = 0 := by unfold bkCode; rw [if_neg (by omega), if_neg (by omega), hasc]; rfl
          have hout : bkOut xs bs = cnt bs xs xs.length := by unfold bkOut; rw [if_pos hcode]
          have HC := Lib.hid hcode
          have HO := Lib.hid hout
          clear hcode hout hasc
          have hBW : Below w.heap.size w (w.drewN m0) := pw_below_drewN (Below.refl _ _) _
          obtain ⟨W, hW⟩ : ∃ W, W = w.drewN m0 := ⟨_, rfl⟩
          rw [← hW] at hBW ⊢
          have HBW := Lib.hid hBW
          have HZ : W.heap.size = w.heap.size := by rw [hW]; rfl
          clear hW hBW
          go_wp2_with (refine Kd.R_make il (w0 := w) w.heap.size 3 rfl (N := 41) rfl 37 _ _ rfl ((bs.length : Int) + 1) rfl rfl Try.underlying37 (.int .i64 0) 8 info3 rfl (by decide) (by omega) 0 (ok := fun _ => True) (okp := fun _ => True) rfl (fun _ hk => hk) trivial (by omega) (by omega) HBW.out (by omega) ?_; intro v1 w1 hR hB hg1 hg2; clear hg1 hg2)
          have HR1 := Lib.hid hR
          have HB := Lib.hid hB
          clear hR hB HBW HZ
          go_loopw [44] (fun i wr => ∃ x : Int, 0 ≤ x ∧ x ≤ (xs.length : Int) ∧ i = .int .i64 x ∧ il.R 3 wr w.heap.size (fun _ => True) v1 (cnt bs xs x.toNat) ∧ Below w.heap.size w wr) (fun i _ => xs.length - (intOf i).toNat)
          case atStart => exact ⟨0, Int.le_refl _, by omega, rfl, by have := HR1.out; rw [show ((bs.length : Int) + 1).toNat = bs.length + 1 by omega] at this; exact this, HB.out⟩
          case round =>
            clear HR1 HB
            obtain ⟨x, hx0, hxn, rfl, hR, hB⟩ := hrel
            have HR1 := Lib.hid hR
            have HB := Lib.hid hB
            clear hR hB
            by_cases hlt : x < (xs.length : Int)
            · obtain ⟨ad, eA, g0⟩ := at_scalar 0 HR.out x hx0 hlt
              subst eA
              replace g0 := (HB.out.cell (World.block_lt_of_cell? w _ g0)).trans g0
              obtain ⟨y, hy⟩ : ∃ y, y = rdOf 0 xs x := ⟨_, rfl⟩
              rw [← hy] at g0
              have HY := Lib.hid hy
              clear hy
              go_wp2_with fail
              go_loopw [10, 52] (fun a i w2 => ∃ k : Int, 0 ≤ k ∧ k ≤ (bs.length : Int) ∧ i = .int .i64 k ∧ a = .int .i64 (bs.length : Int) ∧ (∀ j : Nat, (j : Int) < k → ltB y (rdOf 0 bs (j : Int)) = false) ∧ wr = w2) (fun _ i _ => bs.length - (intOf i).toNat)
              case atStart => exact ⟨0, Int.le_refl _, by omega, rfl, rfl, fun j hj => by omega, rfl⟩
              case round =>
                obtain ⟨k, hk0, hkn, rfl, rfl, hp, rfl⟩ := hrel
                have HP := Lib.hid hp
                clear hp
                by_cases hkl : k < (bs.length : Int)
                · obtain ⟨ad2, eB, g2⟩ := at_scalar 0 HS.out k hk0 hkl
                  subst eB
                  replace g2 := (HB.out.cell (World.block_lt_of_cell? w _ g2)).trans g2
                  obtain ⟨z, hz⟩ : ∃ z, z = rdOf 0 bs k := ⟨_, rfl⟩
                  rw [← hz] at g2
                  have HZ := Lib.hid hz
                  clear hz
                  rcases hlB : (FloatKind.f64.format.order y z == some .lt) with _ | _
                  · go_wp2_with fail
                    go_roundw
                    case measure => simp [intOf]; omega
                    case rel =>
                      refine ⟨k + 1, by omega, by omega, rfl, rfl, ?_, by first | rfl | trivial⟩
                      intro j hj
                      by_cases hj2 : (j : Int) = k
                      · rw [hj2, ← HZ.out]; exact hlB
                      · exact HP.out j (by omega)
                  · have hpos : pos bs y = (k : Int).toNat := scan_hit _ _ _ (by omega) (fun j hj => HP.out j (by omega)) (by rw [show (((k : Int).toNat : Nat) : Int) = k by omega, ← HZ.out]; exact hlB)
                    obtain ⟨g, cap, ev, hg, hg2, hcs⟩ := Kd.R_form HR1.out (by rw [cnt_len]; omega)
                    clear hcs hg2
                    rw [cnt_len] at ev
                    subst ev
                    have HR2 : il.R 3 wr w.heap.size (fun _ => True) (.slice (some ⟨g, 0, none⟩) (bs.length + 1) cap) (cnt bs xs x.toNat) := HR1.out
                    obtain ⟨hcx, hfx⟩ := Kd.R_celln 0 HR2 k (by omega) (by omega)
                    obtain ⟨q, hq⟩ : ∃ q, q = rdOf 0 (cnt bs xs x.toNat) k := ⟨_, rfl⟩
                    rw [← hq] at hcx
                    have hput := Kd.R_putg HR2 k (wrap64 (q + 1))
                    have hcn : (cnt bs xs x.toNat).set (k : Int).toNat (wrap64 (q + 1)) = cnt bs xs (x.toNat + 1) := by
                      show _ = (cnt bs xs x.toNat).set (pos bs (rdOf 0 xs ((x.toNat : Nat) : Int))) (wrap64 (rdOf 0 (cnt bs xs x.toNat) (pos bs (rdOf 0 xs ((x.toNat : Nat) : Int)) : Int) + 1))
                      rw [show ((x.toNat : Nat) : Int) = x by omega, ← HY.out, hpos, hq]
                      rw [show (((k : Int).toNat : Nat) : Int) = k by omega]
                    rw [hcn] at hput
                    have HPP := Lib.hid hput.1
                    have HB2 := Lib.hid (below_set HB.out hg (j := (k : Int).toNat) (v := .int .i64 (wrap64 (q + 1))))
                    clear hput hcn hq HR2 HR1 hpos
                    go_wp2_with fail
                    go_roundw
                    case measure => simp [intOf]; omega
                    case rel => exact ⟨x + 1, by omega, by omega, rfl, by rw [show (x + 1).toNat = x.toNat + 1 by omega]; exact HPP.out, HB2.out⟩
                · have hpos : pos bs y = ((bs.length : Int)).toNat := by rw [show ((bs.length : Int)).toNat = bs.length by omega]; exact scan_none _ _ (fun j hj => HP.out j (by omega))
                  obtain ⟨g, cap, ev, hg, hg2, hcs⟩ := Kd.R_form HR1.out (by rw [cnt_len]; omega)
                  clear hcs hg2
                  rw [cnt_len] at ev
                  subst ev
                  have HR2 : il.R 3 wr w.heap.size (fun _ => True) (.slice (some ⟨g, 0, none⟩) (bs.length + 1) cap) (cnt bs xs x.toNat) := HR1.out
                  obtain ⟨hcx, hfx⟩ := Kd.R_celln 0 HR2 (bs.length : Int) (by omega) (by omega)
                  rw [show ((bs.length : Int)).toNat = bs.length by omega] at hcx hfx
                  obtain ⟨q, hq⟩ : ∃ q, q = rdOf 0 (cnt bs xs x.toNat) (bs.length : Int) := ⟨_, rfl⟩
                  rw [← hq] at hcx
                  have hput := Kd.R_putg HR2 (bs.length : Int) (wrap64 (q + 1))
                  have hcn : (cnt bs xs x.toNat).set ((bs.length : Int) : Int).toNat (wrap64 (q + 1)) = cnt bs xs (x.toNat + 1) := by
                    show _ = (cnt bs xs x.toNat).set (pos bs (rdOf 0 xs ((x.toNat : Nat) : Int))) (wrap64 (rdOf 0 (cnt bs xs x.toNat) (pos bs (rdOf 0 xs ((x.toNat : Nat) : Int)) : Int) + 1))
                    rw [show ((x.toNat : Nat) : Int) = x by omega, ← HY.out, hpos, hq]
                    rw [show ((((bs.length : Int) : Int).toNat : Nat) : Int) = (bs.length : Int) by omega]
                  rw [hcn] at hput
                  have HPP := Lib.hid hput.1
                  have HB2 := Lib.hid (below_set HB.out hg (j := ((bs.length : Int) : Int).toNat) (v := .int .i64 (wrap64 (q + 1))))
                  clear hput hcn hq HR2 HR1 hpos
                  go_wp2_with fail
                  go_roundw
                  case measure => simp [intOf]; omega
                  case rel => exact ⟨x + 1, by omega, by omega, rfl, by rw [show (x + 1).toNat = x.toNat + 1 by omega]; exact HPP.out, HB2.out⟩
            · go_wp2_with fail
              go_ret2
              exact AnsI.mk _ (by rw [HC.out]; rfl) (by rw [HO.out]; have := HR1.out; rw [show x.toNat = xs.length by omega] at this; exact this) HB.out
set_option maxHeartbeats 4000000 in
set_option maxRecDepth 100000 in
theorem specBuckets (v vb : Value) (xs bs : List Nat) (w : World) (h : Rd fl w v xs) (hb : Rd fl w vb bs) :
    Calls Try.prog 25 #[v, vb] w fun e w' => AnsI w w' e (bkCode xs bs) (bkOut xs bs) := by
  obtain ⟨A, c, rfl, hc, hr⟩ := h
  obtain ⟨B, d, rfl, hd, hs⟩ := hb
  have HR := Lib.hid hr
  have HS := Lib.hid hs
  clear hr hs
  by_cases hm : 1000 < (xs.length : Int)
  · have hcode : bkCode xs bs = 10 := by unfold bkCode; rw [if_pos (by omega)]
    have hout : bkOut xs bs = [] := by unfold bkOut; rw [hcode]; rfl
    have HC := Lib.hid hcode
    have HO := Lib.hid hout
    clear hcode hout
    go_enter Try.func25, Try.ntmps25
    go_wp2_with fail
    go_ret2
    exact AnsI.mk _ (by rw [HC.out]; rfl) (by rw [HO.out]; exact R_lit0 il 3 w) ((Below.refl _ w).alloc (Nat.le_refl _) _)
  · by_cases hm2 : 1000 < (bs.length : Int)
    · have hcode : bkCode xs bs = 10 := by unfold bkCode; rw [if_neg (by omega), if_pos (by omega)]
      have hout : bkOut xs bs = [] := by unfold bkOut; rw [hcode]; rfl
      have HC := Lib.hid hcode
      have HO := Lib.hid hout
      clear hcode hout
      go_enter Try.func25, Try.ntmps25
      go_wp2_with fail
      go_ret2
      exact AnsI.mk _ (by rw [HC.out]; rfl) (by rw [HO.out]; exact R_lit0 il 3 w) ((Below.refl _ w).alloc (Nat.le_refl _) _)
    · go_enter Try.func25, Try.ntmps25
      go_wp2_with fail
      go_loopw [6] (fun i wr => ∃ x : Int, 1 ≤ x ∧ (x ≤ (bs.length : Int) ∨ x = 1) ∧ i = .int .i64 x ∧ (∀ j : Nat, 1 ≤ j → (j : Int) < x → ltB (rdOf 0 bs ((j : Int) - 1)) (rdOf 0 bs (j : Int)) = true) ∧ ∃ m, wr = w.drewN m) (fun i _ => bs.length + 1 - (intOf i).toNat)
      case atStart => exact ⟨1, Int.le_refl _, .inr rfl, rfl, fun j h1 h2 => by omega, 0, rfl⟩
      case round =>
        obtain ⟨x, hx0, hxn, rfl, hg, m0, rfl⟩ := hrel
        have HG := Lib.hid hg
        clear hg
        by_cases hlt : x < (bs.length : Int)
        · obtain ⟨ad, eA, g0⟩ := at_scalar 0 HS.out x (by omega) hlt
          subst eA
          obtain ⟨ad2, eA, g1⟩ := at_scalar 0 HS.out (x - 1) (by omega) (by omega)
          obtain rfl : ad = ad2 := Option.some.inj eA
          clear eA
          replace g0 : (w.drewN m0).cell? _ = _ := g0
          replace g1 : (w.drewN m0).cell? _ = _ := g1
          rw [show (x - 1).toNat = x.toNat - 1 by omega] at g1
          obtain ⟨W, hW⟩ : ∃ W, W = w.drewN m0 := ⟨_, rfl⟩
          rw [← hW] at g0 g1 ⊢
          have HW := Lib.hid hW
          clear hW
          obtain ⟨y0, hy0⟩ : ∃ y, y = rdOf 0 bs (x - 1) := ⟨_, rfl⟩
          obtain ⟨y1, hy1⟩ : ∃ y, y = rdOf 0 bs x := ⟨_, rfl⟩
          rw [← hy1] at g0
          rw [← hy0] at g1
          have hw1 : IntKind.i64.wrap (x - 1) = x - 1 := by rw [IntKind.wrap_i64]; omega
          have q1 := eq_true (show (0 : Int) ≤ x - 1 by omega)
          have q2 := eq_true (show x - 1 < (bs.length : Int) by omega)
          have q3 := eq_true (show (0 : Int) ≤ x by omega)
          have q4 := eq_true hlt
          have HY0 := Lib.hid hy0
          have HY1 := Lib.hid hy1
          clear hy0 hy1
          rcases hlB : (FloatKind.f64.format.order y0 y1 == some .lt) with _ | _
          · have hasc : asc bs = false := asc_false hx0 hlt (by rw [← HY0.out, ← HY1.out]; exact hlB)
            have hcode : bkCode xs bs = 1 := by unfold bkCode; rw [if_neg (by omega), if_neg (by omega), hasc]; rfl
            have hout : bkOut xs bs = [] := by unfold bkOut; rw [hcode]; rfl
            have HC := Lib.hid hcode
            have HO := Lib.hid hout
            clear hcode hout hasc
            go_wp2_with fail
            go_quiet (fail)
            go_wp2_with fail
            go_ret2
            exact AnsI.mk _ (by rw [HC.out]; rfl) (by rw [HO.out]; exact Kd.R_lower (R_lit0 il 3 (W.drewN nq)) (by rw [HW.out]; exact Nat.le_refl _)) (by rw [HW.out, World.drewN_drewN]; exact (pw_below_drewN (Below.refl _ w) _).alloc (Nat.le_refl _) _)
          · go_wp2_with fail
            go_quiet (fail)
            go_wp2_with fail
            go_roundw
            case measure => simp [intOf]; omega
            case rel =>
              refine ⟨x + 1, by omega, by omega, rfl, ?_, m0 + nq, by rw [HW.out, World.drewN_drewN]⟩
              intro j h1 h2
              by_cases hj : (j : Int) = x
              · rw [hj, ← HY0.out, ← HY1.out]; exact hlB
              · exact HG.out j h1 (by omega)
        · have hasc : asc bs = true := asc_true (fun j h1 h2 => HG.out j h1 (by omega))
          have hcode : bkCode xs bs = 0 := by unfold bkCode; rw [if_neg (by omega), if_neg (by omega), hasc]; rfl
          have hout : bkOut xs bs = cnt bs xs xs.length := by unfold bkOut; rw [if_pos hcode]
          have HC := Lib.hid hcode
          have HO := Lib.hid hout
          clear hcode hout hasc
          have hBW : Below w.heap.size w (w.drewN m0) := pw_below_drewN (Below.refl _ _) _
          obtain ⟨W, hW⟩ : ∃ W, W = w.drewN m0 := ⟨_, rfl⟩
          rw [← hW] at hBW ⊢
          have HBW := Lib.hid hBW
          have HZ : W.heap.size = w.heap.size := by rw [hW]; rfl
          clear hW hBW
          go_wp2_with (refine Kd.R_make il (w0 := w) w.heap.size 3 rfl (N := 41) rfl 37 _ _ rfl ((bs.length : Int) + 1) rfl rfl Try.underlying37 (.int .i64 0) 8 info3 rfl (by decide) (by omega) 0 (ok := fun _ => True) (okp := fun _ => True) rfl (fun _ hk => hk) trivial (by omega) (by omega) HBW.out (by omega) ?_; intro v1 w1 hR hB hg1 hg2; clear hg1 hg2)
          have HR1 := Lib.hid hR
          have HB := Lib.hid hB
          clear hR hB HBW HZ
          go_loopw [8] (fun i wr => ∃ x : Int, 0 ≤ x ∧ x ≤ (xs.length : Int) ∧ i = .int .i64 x ∧ il.R 3 wr w.heap.size (fun _ => True) v1 (cnt bs xs x.toNat) ∧ Below w.heap.size w wr) (fun i _ => xs.length - (intOf i).toNat)
          case atStart => exact ⟨0, Int.le_refl _, by omega, rfl, by have := HR1.out; rw [show ((bs.length : Int) + 1).toNat = bs.length + 1 by omega] at this; exact this, HB.out⟩
          case round =>
            clear HR1 HB
            obtain ⟨x, hx0, hxn, rfl, hR, hB⟩ := hrel
            have HR1 := Lib.hid hR
            have HB := Lib.hid hB
            clear hR hB
            by_cases hlt : x < (xs.length : Int)
            · obtain ⟨ad, eA, g0⟩ := at_scalar 0 HR.out x hx0 hlt
              subst eA
              replace g0 := (HB.out.cell (World.block_lt_of_cell? w _ g0)).trans g0
              obtain ⟨y, hy⟩ : ∃ y, y = rdOf 0 xs x := ⟨_, rfl⟩
              rw [← hy] at g0
              have HY := Lib.hid hy
              clear hy
              go_wp2_with fail
              go_loopw [9, 10] (fun a i w2 => ∃ k av : Int, -1 ≤ k ∧ k < (bs.length : Int) ∧ i = .int .i64 k ∧ a = .int .i64 av ∧ av = (scan (fun j => ltB y (rdOf 0 bs (j : Int))) (bs.length - (k + 1).toNat) (k + 1).toNat : Int) ∧ ∃ m, w2 = wr.drewN m) (fun _ i _ => (intOf i + 1).toNat)
              case atStart => exact ⟨(bs.length : Int) - 1, (bs.length : Int), by omega, by omega, by first | rfl | simp, rfl, by rw [show ((bs.length : Int) - 1 + 1).toNat = bs.length by omega, Nat.sub_self]; rfl, 0, rfl⟩
              case round =>
                obtain ⟨k, av, hk0, hkn, rfl, rfl, hav, m0, rfl⟩ := hrel
                have HAV := Lib.hid hav
                clear hav
                by_cases hkl : 0 ≤ k
                · obtain ⟨ad2, eB, g2⟩ := at_scalar 0 HS.out k hkl hkn
                  subst eB
                  replace g2 := (HB.out.cell (World.block_lt_of_cell? w _ g2)).trans g2
                  replace g0 : (wr.drewN m0).cell? _ = _ := g0
                  replace g2 : (wr.drewN m0).cell? _ = _ := g2
                  obtain ⟨W, hW⟩ : ∃ W, W = wr.drewN m0 := ⟨_, rfl⟩
                  rw [← hW] at g0 g2 ⊢
                  have HW := Lib.hid hW
                  clear hW
                  obtain ⟨z, hz⟩ : ∃ z, z = rdOf 0 bs k := ⟨_, rfl⟩
                  rw [← hz] at g2
                  have HZ := Lib.hid hz
                  clear hz
                  have q1 := eq_true hkl
                  have q2 := eq_true hkn
                  have q3 := eq_true hx0
                  have q4 := eq_true hlt
                  have hstep : (scan (fun j => ltB y (rdOf 0 bs (j : Int))) (bs.length - (k - 1 + 1).toNat) (k - 1 + 1).toNat : Int) = if ltB y z then k else av := by
                    rw [show (k - 1 + 1).toNat = k.toNat by omega]
                    obtain ⟨d9, hd9⟩ : ∃ d9, bs.length - k.toNat = d9 + 1 := ⟨bs.length - k.toNat - 1, by omega⟩
                    rw [hd9]
                    show ((if ltB y (rdOf 0 bs ((k.toNat : Nat) : Int)) = true then k.toNat else scan _ d9 (k.toNat + 1) : Nat) : Int) = _
                    rw [show ((k.toNat : Nat) : Int) = k by omega, ← HZ.out, HAV.out, show (k + 1).toNat = k.toNat + 1 by omega, show bs.length - (k.toNat + 1) = d9 by omega]
                    split
                    · omega
                    · rfl
                  have HST := Lib.hid hstep
                  clear hstep
                  rcases hlB : (FloatKind.f64.format.order y z == some .lt) with _ | _
                  all_goals
                    go_wp2_with fail
                    go_quiet (fail)
                    go_wp2_with fail
                    go_roundw
                    case measure => simp [intOf]; omega
                    case rel => exact ⟨k - 1, _, by omega, by omega, rfl, rfl, by rw [HST.out]; unfold ltB; rw [hlB]; rfl, m0 + nq, by rw [HW.out, World.drewN_drewN]⟩
                · have hpos : av = (pos bs y : Int) := by
                    rw [HAV.out, show (k + 1).toNat = 0 by omega]; rfl
                  have hple := pos_le bs y
                  have hB9 := pw_below_drewN HB.out m0
                  have hR9 := Kd.R_drewN HR1.out m0
                  obtain ⟨W, hW⟩ : ∃ W, W = wr.drewN m0 := ⟨_, rfl⟩
                  rw [← hW] at hB9 hR9 ⊢
                  have HB9 := Lib.hid hB9
                  have HR9 := Lib.hid hR9
                  clear hB9 hR9 hW HB HR1 HAV
                  obtain ⟨g, cap, ev, hg, hg2, hcs⟩ := Kd.R_form HR9.out (by rw [cnt_len]; omega)
                  clear hcs hg2
                  rw [cnt_len] at ev
                  subst ev
                  have HR2 : il.R 3 W w.heap.size (fun _ => True) (.slice (some ⟨g, 0, none⟩) (bs.length + 1) cap) (cnt bs xs x.toNat) := HR9.out
                  have hav0 : 0 ≤ av := by omega
                  have hav1 : av < (bs.length : Int) + 1 := by omega
                  obtain ⟨hcx, hfx⟩ := Kd.R_celln 0 HR2 av hav0 (by omega)
                  obtain ⟨q, hq⟩ : ∃ q, q = rdOf 0 (cnt bs xs x.toNat) av := ⟨_, rfl⟩
                  rw [← hq] at hcx
                  have hput := Kd.R_putg HR2 av (wrap64 (q + 1))
                  have hcn : (cnt bs xs x.toNat).set (av : Int).toNat (wrap64 (q + 1)) = cnt bs xs (x.toNat + 1) := by
                    show _ = (cnt bs xs x.toNat).set (pos bs (rdOf 0 xs ((x.toNat : Nat) : Int))) (wrap64 (rdOf 0 (cnt bs xs x.toNat) (pos bs (rdOf 0 xs ((x.toNat : Nat) : Int)) : Int) + 1))
                    rw [show ((x.toNat : Nat) : Int) = x by omega, ← HY.out, hq, hpos]
                    rw [show ((pos bs y : Int)).toNat = pos bs y by omega]
                  rw [hcn] at hput
                  have HPP := Lib.hid hput.1
                  have HB2 := Lib.hid (below_set HB9.out hg (j := (av : Int).toNat) (v := .int .i64 (wrap64 (q + 1))))
                  clear hput hcn hq HR2 HR9 hpos
                  go_wp2_with fail
                  go_roundw
                  case measure => simp [intOf]; omega
                  case rel => exact ⟨x + 1, by omega, by omega, rfl, by rw [show (x + 1).toNat = x.toNat + 1 by omega]; exact HPP.out, HB2.out⟩
            · go_wp2_with fail
              go_ret2
              exact AnsI.mk _ (by rw [HC.out]; rfl) (by rw [HO.out]; have := HR1.out; rw [show x.toNat = xs.length by omega] at this; exact this) HB.out
end Go.Proofs.Ytjldnehlcplccaa.Flo
