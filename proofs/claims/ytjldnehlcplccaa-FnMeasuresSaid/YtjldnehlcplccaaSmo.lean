/- Floats: Smooth, the specification's and the program's, walked. -/
import Derived.Test.YtjldnehlcplccaaSFlo
namespace Go.Proofs.Ytjldnehlcplccaa.Flo
open Go.RowKit Go.Proofs.YtjldnehlcplccaaW.PrintWords Go.Proofs.YtjldnehlcplccaaW.PrintLast Go.Proofs.YtjldnehlcplccaaW.PrintMore
open Ieee
set_option linter.unusedSimpArgs false
set_option linter.unusedVariables false
attribute [local go_sem] run_store_float

def sAt (a : Datum) (X : Nat → Datum) : Nat → Datum
  | 0 => cd 0
  | 1 => X 0
  | i + 2 => fop .add (sAt a X (i + 1)) (fop .mul a (fop .sub (X (i + 1)) (sAt a X (i + 1))))
def smo (a : Datum) (xs : List Nat) : List Datum := if 1000 < xs.length then [] else (List.range xs.length).map fun j => sAt a (fun i => cd (rdOf 0 xs (i : Int))) (j + 1)
def many (n : Nat) : Int := if 1000 < n then 10 else 0

theorem R_lit0 {α : Type} (d : Kd α) (e : Nat) (w : World) : d.R e (w.alloc (.cells #[] e)) w.heap.size (fun _ => True) (.slice (some ⟨w.heap.size, 0, none⟩) 0 0) [] := by
  refine ⟨fun _ _ => trivial, [], ?_, Reps.none _ _⟩
  have h2 := World.ownsRow_lit (base := w.heap.size) (e := e) (size := d.sz) w #[] 0 (Nat.le_refl _) (by simp [maxLen]) (by simp)
  simpa using h2

set_option maxHeartbeats 2000000 in
set_option maxRecDepth 100000 in
theorem implSmooth (v : Value) (xs : List Nat) (a : Nat) (w : World) (h : Rd fl w v xs) :
    Calls Try.prog 11 #[v, .float .f64 a] w fun e w' => ∃ v1 out, e = .returned (.tuple #[v1, .int .i64 (many xs.length)]) ∧ fl.R 23 w' w.heap.size (fun _ => True) v1 out ∧ out.map cd = smo (cd a) xs ∧ Below w.heap.size w w' := by
  obtain ⟨A, c, rfl, hc, hr⟩ := h
  have HR := Lib.hid hr
  clear hr
  by_cases hm : 1000 < (xs.length : Int)
  · have hmany : many xs.length = 10 := by unfold many; rw [if_pos (by omega)]
    have hsmo : smo (cd a) xs = [] := by unfold smo; rw [if_pos (by omega)]
    go_enter Try.func11, Try.ntmps11
    go_wp2_with fail
    go_ret2
    exact ⟨_, [], by rw [hmany]; rfl, Kd.R_nil fl 23 w _ _, by rw [hsmo]; rfl, Below.refl _ _⟩
  · have hmany : many xs.length = 0 := by unfold many; rw [if_neg (by omega)]
    have hsmo : smo (cd a) xs = (List.range xs.length).map fun j => sAt (cd a) (fun i => cd (rdOf 0 xs (i : Int))) (j + 1) := by unfold smo; rw [if_neg (by omega)]
    have HSM := Lib.hid hsmo
    clear hsmo
    rw [hmany]
    go_enter Try.func11, Try.ntmps11
    go_wp2_with fail
    go_loopw [6, 7, 15] (fun o s i wr => ∃ x : Int, ∃ sb : Nat, ∃ out : List Nat, 0 ≤ x ∧ x ≤ (xs.length : Int) ∧ i = .int .i64 x ∧ s = .float .f64 sb ∧ cd sb = sAt (cd a) (fun i => cd (rdOf 0 xs (i : Int))) x.toNat ∧ fl.R 23 wr w.heap.size (fun _ => True) o out ∧ out.map cd = (List.range x.toNat).map (fun j => sAt (cd a) (fun i => cd (rdOf 0 xs (i : Int))) (j + 1)) ∧ Below w.heap.size w wr) (fun _ _ i _ => xs.length - (intOf i).toNat)
    case atStart => exact ⟨0, 0, [], Int.le_refl _, by omega, rfl, rfl, rfl, Kd.R_nil fl 23 w _ _, rfl, Below.refl _ _⟩
    case round =>
      obtain ⟨x, sb, out, hx0, hxn, rfl, rfl, hsb, hR, hout, hB⟩ := hrel
      by_cases hlt : x < (xs.length : Int)
      · obtain ⟨ad, eA, g0⟩ := at_scalar 0 HR.out x hx0 hlt
        subst eA
        replace g0 := (hB.cell (World.block_lt_of_cell? w _ g0)).trans g0
        have HR1 := Lib.hid hR
        have HB := Lib.hid hB
        have HO := Lib.hid hout
        have HS := Lib.hid hsb
        clear hR hB hout hsb
        have hbase := HB.out.size
        have hol : out.length = x.toNat := by have := congrArg List.length HO.out; simpa using this
        by_cases hx1 : x = 0
        · have hx1b : (x == 0) = true := by simp [hx1]
          have HX := Lib.hid hx1
          clear hx1
          go_wp2_with ((with_reducible refine gate_builtin (b := .append) (xs := #[.tmp 30, .tmp 32]) rfl ?_); at_builtin; refine Kd.R_append fl (w0 := w) w.heap.size rfl (.tmp 30) (.tmp 32) 22 23 (.float .f64 0) 8 rfl Try.underlying22 info23 rfl (by decide) (by decide) u6 out (rdOf 0 xs x) [.float .f64 (rdOf 0 xs x)] (fun _ => True) (fun _ => False) rfl rfl rfl (fun _ h => h.elim) (fun _ _ => trivial) HR1.out HB.out hbase (by omega) ?_; intro v1 w1 hR1 hB1 hg1 hg2; clear hg1 hg2)
          have HR2 := Lib.hid hR1
          have HB2 := Lib.hid hB1
          clear hR1 hB1
          go_wp2_with fail
          go_roundw
          case measure => simp [intOf]; omega
          case rel =>
            have hx9 := HX.out
            have e1 : (x + 1).toNat = 1 := by omega
            have e2 : x.toNat = 0 := by omega
            refine ⟨x + 1, rdOf 0 xs x, _, by omega, by omega, rfl, rfl, ?_, HR2.out, ?_, HB2.out⟩
            · rw [e1, HX.out]; rfl
            · have h1 := HO.out
              rw [e2] at h1
              rw [e1, List.map_append, h1, HX.out]; rfl
        · have hx1b : (x == 0) = false := by simp [hx1]
          go_wp2_with (first | ((with_reducible refine gate_builtin (b := .append) (xs := #[.tmp 30, .tmp 32]) rfl ?_); at_builtin; refine Kd.R_append fl (w0 := w) w.heap.size rfl (.tmp 30) (.tmp 32) 22 23 (.float .f64 0) 8 rfl Try.underlying22 info23 rfl (by decide) (by decide) u6 out r [.float .f64 r] (fun _ => True) (fun _ => False) rfl rfl rfl (fun _ h => h.elim) (fun _ _ => trivial) (Kd.R_drewN HR1.out _) (pw_below_drewN HB.out _) hbase (by omega) ?_; intro v1 w1 hR1 hB1 hg1 hg2; clear hg1 hg2) | (refine wp_float _ rfl _ (by first | exact .inl rfl | exact .inr (.inl rfl) | exact .inr (.inr (.inl rfl)) | exact .inr (.inr (.inr rfl))) _ _ _ _ rfl _ _ rfl rfl ?_; intro r n hr))
          have HR2 := Lib.hid hR1
          have HB2 := Lib.hid hB1
          clear hR1 hB1
          go_wp2_with fail
          go_roundw
          case measure => simp [intOf]; omega
          case rel =>
            have hr2 := ‹cd _ = fop BinOp.mul _ _›
            have hr1 := ‹cd _ = fop BinOp.sub _ _›
            obtain ⟨m, e2⟩ : ∃ m, x.toNat = m + 1 := ⟨x.toNat - 1, by omega⟩
            have e1 : (x + 1).toNat = m + 2 := by omega
            have hs2 : cd r = sAt (cd a) (fun i => cd (rdOf 0 xs (i : Int))) (m + 2) := by
              have h1 := HS.out
              rw [e2] at h1
              rw [hr, hr2, hr1, h1]
              show _ = fop .add _ (fop .mul _ (fop .sub (cd (rdOf 0 xs ((m + 1 : Nat) : Int))) _))
              rw [show ((m + 1 : Nat) : Int) = x by omega]
            refine ⟨x + 1, r, _, by omega, by omega, rfl, rfl, ?_, HR2.out, ?_, HB2.out⟩
            · rw [e1, hs2]
            · rw [e1, List.map_append, HO.out, e2, List.range_succ (n := m + 1), List.map_append]
              simp [hs2]
      · have HR1 := Lib.hid hR
        have HB := Lib.hid hB
        have HO := Lib.hid hout
        clear hR hB hout
        go_wp2_with fail
        go_ret2
        exact ⟨_, rfl, out, HR1.out, by rw [HSM.out, HO.out, show x.toNat = xs.length by omega], HB.out⟩
set_option maxHeartbeats 2000000 in
set_option maxRecDepth 100000 in
theorem specSmooth (v : Value) (xs : List Nat) (a : Nat) (w : World) (h : Rd fl w v xs) :
    Calls Try.prog 9 #[v, .float .f64 a] w fun e w' => ∃ v1 out, e = .returned (.tuple #[v1, .int .i64 (many xs.length)]) ∧ fl.R 23 w' w.heap.size (fun _ => True) v1 out ∧ out.map cd = smo (cd a) xs ∧ Below w.heap.size w w' := by
  obtain ⟨A, c, rfl, hc, hr⟩ := h
  have HR := Lib.hid hr
  clear hr
  by_cases hm : 1000 < (xs.length : Int)
  · have hmany : many xs.length = 10 := by unfold many; rw [if_pos (by omega)]
    have hsmo : smo (cd a) xs = [] := by unfold smo; rw [if_pos (by omega)]
    go_enter Try.func9, Try.ntmps9
    go_wp2_with fail
    go_ret2
    exact ⟨_, [], by rw [hmany]; rfl, R_lit0 fl 23 w, by rw [hsmo]; rfl, (Below.refl _ w).alloc (Nat.le_refl _) _⟩
  · have hmany : many xs.length = 0 := by unfold many; rw [if_neg (by omega)]
    have hsmo : smo (cd a) xs = (List.range xs.length).map fun j => sAt (cd a) (fun i => cd (rdOf 0 xs (i : Int))) (j + 1) := by unfold smo; rw [if_neg (by omega)]
    have HSM := Lib.hid hsmo
    clear hsmo
    rw [hmany]
    go_enter Try.func9, Try.ntmps9
    go_wp2_with fail
    go_loopw [6, 7, 8] (fun o s i wr => ∃ x : Int, ∃ sb : Nat, ∃ out : List Nat, 0 ≤ x ∧ x ≤ (xs.length : Int) ∧ i = .int .i64 x ∧ s = .float .f64 sb ∧ cd sb = sAt (cd a) (fun i => cd (rdOf 0 xs (i : Int))) x.toNat ∧ fl.R 23 wr w.heap.size (fun _ => True) o out ∧ out.map cd = (List.range x.toNat).map (fun j => sAt (cd a) (fun i => cd (rdOf 0 xs (i : Int))) (j + 1)) ∧ Below w.heap.size w wr) (fun _ _ i _ => xs.length - (intOf i).toNat)
    case atStart => exact ⟨0, 0, [], Int.le_refl _, by omega, rfl, rfl, rfl, R_lit0 fl 23 w, rfl, (Below.refl _ w).alloc (Nat.le_refl _) _⟩
    case round =>
      obtain ⟨x, sb, out, hx0, hxn, rfl, rfl, hsb, hR, hout, hB⟩ := hrel
      by_cases hlt : x < (xs.length : Int)
      · obtain ⟨ad, eA, g0⟩ := at_scalar 0 HR.out x hx0 hlt
        subst eA
        replace g0 := (hB.cell (World.block_lt_of_cell? w _ g0)).trans g0
        have HR1 := Lib.hid hR
        have HB := Lib.hid hB
        have HO := Lib.hid hout
        have HS := Lib.hid hsb
        clear hR hB hout hsb
        have hbase := HB.out.size
        have hol : out.length = x.toNat := by have := congrArg List.length HO.out; simpa using this
        by_cases hx1 : x = 0
        · have hx1b : (x == 0) = true := by simp [hx1]
          have g00 : wr.cell? ad = some (.float .f64 (rdOf 0 xs x)) := by have h9 := g0; rw [show x.toNat = 0 by omega, Addr.add_zero'] at h9; exact h9
          have HX := Lib.hid hx1
          clear hx1
          go_wp2_with ((with_reducible refine gate_builtin (b := .append) (xs := #[.tmp 39, .tmp 41]) rfl ?_); at_builtin; refine Kd.R_append fl (w0 := w) w.heap.size rfl (.tmp 39) (.tmp 41) 22 23 (.float .f64 0) 8 rfl Try.underlying22 info23 rfl (by decide) (by decide) u6 out (rdOf 0 xs x) [.float .f64 (rdOf 0 xs x)] (fun _ => True) (fun _ => False) rfl rfl rfl (fun _ h => h.elim) (fun _ _ => trivial) HR1.out HB.out hbase (by omega) ?_; intro v1 w1 hR1 hB1 hg1 hg2; clear hg1 hg2)
          have HR2 := Lib.hid hR1
          have HB2 := Lib.hid hB1
          clear hR1 hB1
          go_wp2_with fail
          go_roundw
          case measure => simp [intOf]; omega
          case rel =>
            have hx9 := HX.out
            have e1 : (x + 1).toNat = 1 := by omega
            have e2 : x.toNat = 0 := by omega
            refine ⟨x + 1, rdOf 0 xs x, _, by omega, by omega, rfl, rfl, ?_, HR2.out, ?_, HB2.out⟩
            · rw [e1, HX.out]; rfl
            · have h1 := HO.out
              rw [e2] at h1
              rw [e1, List.map_append, h1, HX.out]; rfl
        · have hx1b : (x == 0) = false := by simp [hx1]
          go_wp2_with (first | ((with_reducible refine gate_builtin (b := .append) (xs := #[.tmp 39, .tmp 41]) rfl ?_); at_builtin; refine Kd.R_append fl (w0 := w) w.heap.size rfl (.tmp 39) (.tmp 41) 22 23 (.float .f64 0) 8 rfl Try.underlying22 info23 rfl (by decide) (by decide) u6 out r [.float .f64 r] (fun _ => True) (fun _ => False) rfl rfl rfl (fun _ h => h.elim) (fun _ _ => trivial) (Kd.R_drewN HR1.out _) (pw_below_drewN HB.out _) hbase (by omega) ?_; intro v1 w1 hR1 hB1 hg1 hg2; clear hg1 hg2) | (refine wp_float _ rfl _ (by first | exact .inl rfl | exact .inr (.inl rfl) | exact .inr (.inr (.inl rfl)) | exact .inr (.inr (.inr rfl))) _ _ _ _ rfl _ _ rfl rfl ?_; intro r n hr))
          have HR2 := Lib.hid hR1
          have HB2 := Lib.hid hB1
          clear hR1 hB1
          go_wp2_with fail
          go_roundw
          case measure => simp [intOf]; omega
          case rel =>
            have hr2 := ‹cd _ = fop BinOp.mul _ _›
            have hr1 := ‹cd _ = fop BinOp.sub _ _›
            obtain ⟨m, e2⟩ : ∃ m, x.toNat = m + 1 := ⟨x.toNat - 1, by omega⟩
            have e1 : (x + 1).toNat = m + 2 := by omega
            have hs2 : cd r = sAt (cd a) (fun i => cd (rdOf 0 xs (i : Int))) (m + 2) := by
              have h1 := HS.out
              rw [e2] at h1
              rw [hr, hr2, hr1, h1]
              show _ = fop .add _ (fop .mul _ (fop .sub (cd (rdOf 0 xs ((m + 1 : Nat) : Int))) _))
              rw [show ((m + 1 : Nat) : Int) = x by omega]
            refine ⟨x + 1, r, _, by omega, by omega, rfl, rfl, ?_, HR2.out, ?_, HB2.out⟩
            · rw [e1, hs2]
            · rw [e1, List.map_append, HO.out, e2, List.range_succ (n := m + 1), List.map_append]
              simp [hs2]
      · have HR1 := Lib.hid hR
        have HB := Lib.hid hB
        have HO := Lib.hid hout
        clear hR hB hout
        go_wp2_with fail
        go_ret2
        exact ⟨_, rfl, out, HR1.out, by rw [HSM.out, HO.out, show x.toNat = xs.length by omega], HB.out⟩
end Go.Proofs.Ytjldnehlcplccaa.Flo
