/- Rows of whole numbers: laws.toIntS and its kin, walked. -/
import Derived.Test.YtjldnehlcplccaaOwn
namespace Go.Proofs.Ytjldnehlcplccaa.Flo
open Go.RowKit Go.Proofs.YtjldnehlcplccaaW.PrintWords Go.Proofs.YtjldnehlcplccaaW.PrintLast Go.Proofs.YtjldnehlcplccaaW.PrintMore
set_option linter.unusedSimpArgs false
set_option linter.unusedVariables false

set_option maxHeartbeats 1000000 in
theorem toI (v : Value) (xs : List Int) (w : World) (h : Rd il w v xs) (hl : xs.length ≤ 1048576) :
    Calls Try.prog 21 #[v] w fun e w' => ∃ v1, e = .returned v1 ∧ il.R 3 w' w.heap.size (fun _ => True) v1 xs ∧ Below w.heap.size w w' := by
  obtain ⟨A, c, rfl, hc, hr⟩ := h
  have HR := Lib.hid hr
  clear hr
  go_enter Try.func21, Try.ntmps21
  go_wp2_with (refine Kd.R_make il (w0 := w) w.heap.size 3 rfl (N := 7) rfl 37 _ _ rfl (xs.length : Int) rfl rfl Try.underlying37 (.int .i64 0) 8 info3 rfl (by decide) (by omega) 0 (ok := fun _ => True) (okp := fun _ => True) rfl (fun _ hk => hk) trivial (by omega) (by omega) (Below.refl _ _) (Nat.le_refl _) ?_; intro v1 w1 hR hB hg1 hg2; clear hg1 hg2)
  have HR1 := Lib.hid hR
  have HB := Lib.hid hB
  clear hR hB
  go_loopw [4] (fun i wr => ∃ x : Int, 0 ≤ x ∧ x ≤ (xs.length : Int) ∧ i = .int .i64 x ∧ il.R 3 wr w.heap.size (fun _ => True) v1 (part 0 xs x.toNat) ∧ Below w.heap.size w wr) (fun i _ => xs.length - (intOf i).toNat)
  case atStart => exact ⟨0, Int.le_refl _, by omega, rfl, by simpa [part] using HR1.out, HB.out⟩
  case round =>
    clear HR1 HB
    obtain ⟨x, hx0, hxn, rfl, hR, hB⟩ := hrel
    by_cases hlt : x < (xs.length : Int)
    · obtain ⟨ad, eA, g0⟩ := at_scalar 0 HR.out x hx0 hlt
      subst eA
      replace g0 := (hB.cell (World.block_lt_of_cell? w _ g0)).trans g0
      have hpl := part_len 0 xs x.toNat (by omega)
      obtain ⟨g, cap, ev, hg, hg2, hcs⟩ := Kd.R_form hR (by omega)
      clear hcs hg2
      rw [hpl] at ev
      subst ev
      obtain ⟨hcx, hfx⟩ := Kd.R_celln 0 hR x hx0 hlt
      have hput := Kd.R_putg hR x (rdOf 0 xs x)
      rw [part_set 0 xs x.toNat _ (rdOf_get 0 xs x hx0 hlt)] at hput
      have HP := Lib.hid hput.1
      have HB := Lib.hid (below_set hB hg (j := x.toNat) (v := .int .i64 (rdOf 0 xs x)))
      clear hput hR hB
      go_wp2_with fail
      go_roundw
      case measure => simp [intOf]; omega
      case rel => exact ⟨x + 1, by omega, by omega, rfl, by rw [show (x + 1).toNat = x.toNat + 1 by omega]; exact HP.out, HB.out⟩
    · have hR1 : il.R 3 wr w.heap.size (fun _ => True) v1 xs := by
        have e : part 0 xs x.toNat = xs := by rw [show x.toNat = xs.length by omega]; simp [part]
        rw [e] at hR
        exact hR
      have HP := Lib.hid hR1
      have HB := Lib.hid hB
      clear hR hB hR1
      go_wp2_with fail
      go_ret
      exact ⟨v1, rfl, HP.out, HB.out⟩

set_option maxHeartbeats 2000000 in
set_option maxRecDepth 100000 in
theorem markI (v : Value) (xs : List Int) (w0 w : World) (base : Nat) (ok : Nat → Prop) (k : Int) (h : il.R 3 w base ok v xs) (hB : Below base w0 w) (hl : xs.length ≤ 1048576) (hk0 : 0 ≤ k) (hk : k ≤ 1099511627776) :
    Calls Try.prog 24 #[v, .int .i64 k] w fun e w' => e = .returned (.int .i64 (k + xs.length)) ∧ il.R 3 w' base ok v (mk (fun i : Nat => k + (i : Int)) xs xs.length) ∧ Below base w0 w' ∧ Kept w w' (fun b => v.ownBlock = some b) := by
  obtain ⟨A, c, rfl, hc, hr⟩ := Kd.R_reads h
  clear hr
  have HR1 := Lib.hid h
  have HB := Lib.hid hB
  clear h hB
  go_enter Try.func24, Try.ntmps24
  go_wp2_with fail
  go_loopw [1, 5] (fun kv i wr => ∃ x : Int, 0 ≤ x ∧ x ≤ (xs.length : Int) ∧ kv = .int .i64 (k + x) ∧ i = .int .i64 x ∧ il.R 3 wr base ok (.slice A xs.length c) (mk (fun i : Nat => k + (i : Int)) xs x.toNat) ∧ Below base w0 wr ∧ Kept w wr (fun b => (Value.slice A xs.length c).ownBlock = some b)) (fun _ i _ => xs.length - (intOf i).toNat)
  case atStart => exact ⟨0, Int.le_refl _, by omega, by simp, rfl, by simpa [mk] using HR1.out, HB.out, Kept.refl _ _⟩
  case round =>
    clear HR1 HB
    obtain ⟨x, hx0, hxn, rfl, rfl, hR, hB, hK⟩ := hrel
    by_cases hlt : x < (xs.length : Int)
    · have hml := mk_len (fun i : Nat => k + (i : Int)) xs x.toNat (by omega)
      obtain ⟨g, cap, ev, hg, hg2, hcs⟩ := Kd.R_form hR (by omega)
      clear hcs
      injection ev with e1 e2 e3
      subst e1; subst e3
      clear e2 hml
      obtain ⟨hcx, hfx⟩ := Kd.R_celln 0 hR x hx0 hlt
      have hput := Kd.R_putg hR x (k + x)
      have hset := mk_set (fun i : Nat => k + (i : Int)) xs x.toNat (by omega)
      rw [show ((x.toNat : Nat) : Int) = x by omega] at hset
      rw [hset] at hput
      have HP := Lib.hid hput.1
      have HB := Lib.hid (hB.setCell (p := ⟨g, x.toNat, none⟩) hg (.int .i64 (k + x)))
      have HK := Lib.hid (hK.setCell (p := ⟨g, x.toNat, none⟩) (.inl rfl) (.int .i64 (k + x)))
      clear hput hR hB hK hset
      go_wp2_with fail
      go_roundw
      case measure => simp [intOf]; omega
      case rel => exact ⟨x + 1, by omega, by omega, by first | rfl | (rw [Int.add_assoc]), rfl, by rw [show (x + 1).toNat = x.toNat + 1 by omega]; exact HP.out, HB.out, HK.out⟩
    · have hx : x.toNat = xs.length := by omega
      have hx2 : x = (xs.length : Int) := by omega
      rw [hx] at hR
      have HP := Lib.hid hR
      have HB := Lib.hid hB
      have HK := Lib.hid hK
      clear hR hB hK
      go_wp2_with fail
      go_ret
      exact ⟨by first | rfl | rw [hx2], HP.out, HB.out, HK.out⟩

set_option maxHeartbeats 1000000 in
theorem heldI (v : Value) (xs : List Int) (w : World) (k : Int) (h : Rd il w v xs) (hv : ∀ i : Nat, i < xs.length → xs[i]? = some (k + (i : Int))) (hl : xs.length ≤ 1048576) (hk0 : 0 ≤ k) (hk : k ≤ 1099511627776) :
    Calls Try.prog 27 #[v, .int .i64 k] w fun e w' => e = .returned (.int .i64 (k + xs.length)) ∧ ∃ n, w' = w.drewN n := by
  obtain ⟨A, c, rfl, hc, hr⟩ := h
  have HR := Lib.hid hr
  clear hr
  go_enter Try.func27, Try.ntmps27
  go_wp2_with fail
  go_loopw [1, 5] (fun kv i wr => ∃ x : Int, 0 ≤ x ∧ x ≤ (xs.length : Int) ∧ kv = .int .i64 (k + x) ∧ i = .int .i64 x ∧ ∃ n, wr = w.drewN n) (fun _ i _ => xs.length - (intOf i).toNat)
  case atStart => exact ⟨0, Int.le_refl _, by omega, by simp, rfl, 0, rfl⟩
  case round =>
    obtain ⟨x, hx0, hxn, rfl, rfl, n0, rfl⟩ := hrel
    by_cases hlt : x < (xs.length : Int)
    · obtain ⟨ad, eA, g0⟩ := at_scalar 0 HR.out x hx0 hlt
      subst eA
      have hx1 : rdOf 0 xs x = k + x := by
        have h1 := rdOf_get 0 xs x hx0 hlt
        rw [hv x.toNat (by omega)] at h1
        rw [show ((x.toNat : Nat) : Int) = x by omega] at h1
        exact (Option.some.inj h1).symm
      rw [hx1] at g0
      clear hx1
      go_wp2_with fail
      go_roundw
      case measure => simp [intOf]; omega
      case rel => exact ⟨x + 1, by omega, by omega, by first | rfl | (rw [Int.add_assoc]), rfl, _, rfl⟩
    · have hx2 : x = (xs.length : Int) := by omega
      go_wp2_with fail
      go_ret
      exact ⟨by first | rfl | rw [hx2], _, rfl⟩

set_option maxHeartbeats 1000000 in
theorem eqI (va vb : Value) (xs ys : List Int) (w : World) (ha : Rd il w va xs) (hb : Rd il w vb ys) (he : xs = ys) (hl : xs.length ≤ 1048576) :
    Calls Try.prog 23 #[va, vb] w fun e w' => e = .returned (.bool true) ∧ ∃ n, w' = w.drewN n := by
  obtain ⟨A, c, rfl, hc, hr⟩ := ha
  obtain ⟨B, d, rfl, hd, hs⟩ := hb
  have HR := Lib.hid hr
  have HS := Lib.hid hs
  clear hr hs
  have hlen : xs.length = ys.length := by have := congrArg List.length he; simpa using this
  go_enter Try.func23, Try.ntmps23
  go_wp2_with fail
  go_loopw [5] (fun i wr => ∃ x : Int, 0 ≤ x ∧ x ≤ (xs.length : Int) ∧ i = .int .i64 x ∧ ∃ n, wr = w.drewN n) (fun i _ => xs.length - (intOf i).toNat)
  case atStart => exact ⟨0, Int.le_refl _, by omega, rfl, 0, rfl⟩
  case round =>
    obtain ⟨x, hx0, hxn, rfl, n0, rfl⟩ := hrel
    by_cases hlt : x < (xs.length : Int)
    · obtain ⟨ad, eA, g0⟩ := at_scalar 0 HR.out x hx0 hlt
      subst eA
      have hlt2 : x < (ys.length : Int) := by omega
      obtain ⟨ad2, eB, g1⟩ := at_scalar 0 HS.out x hx0 hlt2
      subst eB
      subst he
      replace g0 : (w.drewN n0).cell? _ = _ := g0
      replace g1 : (w.drewN n0).cell? _ = _ := g1
      obtain ⟨W, hW⟩ : ∃ W, W = w.drewN n0 := ⟨_, rfl⟩
      rw [← hW] at g0 g1 ⊢
      have HW := Lib.hid hW
      clear hW
      go_wp2_with fail
      go_quiet (fail)
      go_wp2_with fail
      go_roundw
      case measure => simp [intOf]; omega
      case rel => exact ⟨x + 1, by omega, by omega, rfl, n0 + nq, by rw [HW.out, World.drewN_drewN]⟩
    · skip
      go_wp2_with fail
      go_ret
      exact ⟨rfl, _, rfl⟩

theorem markI' (v : Value) (xs : List Int) (w0 w : World) (base : Nat) (ok : Nat → Prop) (k : Int) (h : il.R 3 w base ok v xs) (hB : Below base w0 w) (hl : xs.length ≤ 1048576) (hk0 : 0 ≤ k) (hk : k ≤ 1099511627776) :
    Calls Try.prog 24 #[v, .int .i64 k] w fun e w' => e = .returned (.int .i64 (k + xs.length)) ∧ ∃ ys : List Int, il.R 3 w' base ok v ys ∧ ys.length = xs.length ∧ (∀ i : Nat, i < xs.length → ys[i]? = some (k + (i : Int))) ∧ Below base w0 w' ∧ Kept w w' (fun b => v.ownBlock = some b) := by
  refine (markI v xs w0 w base ok k h hB hl hk0 hk).mono ?_
  rintro e w' ⟨rfl, hR, hb, hK⟩
  exact ⟨rfl, _, hR, mk_len _ _ _ (Nat.le_refl _), fun i hi => mk_full _ _ i hi, hb, hK⟩
theorem heldI' (v : Value) (ys : List Int) (n : Nat) (w : World) (h : Rd il w v ys) (hn : ys.length = n) (hv : ∀ i : Nat, i < n → ys[i]? = some (1 + (i : Int))) (hl : n ≤ 1048576) :
    Calls Try.prog 27 #[v, .int .i64 1] w fun e w' => e = .returned (.int .i64 (1 + (n : Int))) ∧ ∃ m, w' = w.drewN m := by
  subst hn
  exact heldI v ys w 1 h hv hl (by omega) (by omega)
end Go.Proofs.Ytjldnehlcplccaa.Flo
