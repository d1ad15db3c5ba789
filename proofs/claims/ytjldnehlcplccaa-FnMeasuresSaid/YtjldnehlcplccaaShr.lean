/- Floats: Shares, the specification's and the program's, walked. -/
import Derived.Test.YtjldnehlcplccaaInt
import Derived.Test.YtjldnehlcplccaaSmo
namespace Go.Proofs.Ytjldnehlcplccaa.Flo
open Go.RowKit Go.Proofs.YtjldnehlcplccaaW.PrintWords Go.Proofs.YtjldnehlcplccaaW.PrintLast Go.Proofs.YtjldnehlcplccaaW.PrintMore
open Ieee
set_option linter.unusedSimpArgs false
set_option linter.unusedVariables false
attribute [local go_sem] run_store_float

def good (x : Int) : Bool := decide (0 ≤ x) && decide (x ≤ 1000000000000)
def sumTo (xs : List Int) : Nat → Int
  | 0 => 0
  | n + 1 => sumTo xs n + rdOf 0 xs (n : Int)
def shCode (xs : List Int) : Int := if 1000 < xs.length then 10 else if xs.all good then 0 else 9
def shAt (xs : List Int) (i : Nat) : Datum := if 0 < sumTo xs xs.length then fop .quo (cd (floatOfInt .f64 (rdOf 0 xs (i : Int)))) (cd (floatOfInt .f64 (sumTo xs xs.length))) else cd 0
def shOut (xs : List Int) : List Datum := if shCode xs = 0 then (List.range xs.length).map (shAt xs) else []
theorem all_good {xs : List Int} (h : ∀ j : Nat, j < xs.length → good (rdOf 0 xs (j : Int)) = true) : xs.all good = true := by
  rw [List.all_eq_true]
  intro y hy
  obtain ⟨i, hi, he⟩ := List.mem_iff_getElem.1 hy
  have h1 := rdOf_get 0 xs (i : Int) (by omega) (by omega)
  have h2 := h i hi
  rw [show ((i : Int)).toNat = i by omega, List.getElem?_eq_getElem hi, he] at h1
  rw [← Option.some.inj h1] at h2
  exact h2
theorem not_good {xs : List Int} {i : Int} (h0 : 0 ≤ i) (h1 : i < xs.length) (h : good (rdOf 0 xs i) = false) : xs.all good = false := by
  have h2 := rdOf_get 0 xs i h0 h1
  rw [Bool.eq_false_iff]
  intro h3
  rw [List.all_eq_true] at h3
  have h4 := h3 _ (List.mem_of_getElem? h2)
  rw [h] at h4
  exact absurd h4 (by decide)

/-- What a call answers that hands back a row of floats and a code. -/
def Ans (w w' : World) (e : Ending) (code : Int) (D : List Datum) : Prop := ∃ (v1 : Value) (out : List Nat), e = .returned (.tuple #[v1, .int .i64 code]) ∧ fl.R 23 w' w.heap.size (fun _ => True) v1 out ∧ out.map cd = D ∧ Below w.heap.size w w'
theorem Ans.mk {w w' : World} {e : Ending} {code : Int} {D : List Datum} (v1 : Value) (out : List Nat) (he : e = .returned (.tuple #[v1, .int .i64 code])) (hR : fl.R 23 w' w.heap.size (fun _ => True) v1 out) (hD : out.map cd = D) (hB : Below w.heap.size w w') : Ans w w' e code D := ⟨v1, out, he, hR, hD, hB⟩

set_option maxHeartbeats 4000000 in
set_option maxRecDepth 100000 in
theorem implShares (v : Value) (xs : List Int) (w : World) (h : Rd il w v xs) :
    Calls Try.prog 22 #[v] w fun e w' => Ans w w' e (shCode xs) (shOut xs) := by
  obtain ⟨A, c, rfl, hc, hr⟩ := h
  have HR := Lib.hid hr
  clear hr
  by_cases hm : 1000 < (xs.length : Int)
  · have hcode : shCode xs = 10 := by unfold shCode; rw [if_pos (by omega)]
    have hout : shOut xs = [] := by unfold shOut; rw [hcode]; rfl
    go_enter Try.func22, Try.ntmps22
    go_wp2_with fail
    go_ret2
    exact Ans.mk _ [] (by rw [hcode]; rfl) (Kd.R_nil fl 23 w _ _) (by rw [hout]; rfl) (Below.refl _ _)
  · go_enter Try.func22, Try.ntmps22
    go_wp2_with fail
    go_loopw [4, 15] (fun s i wr => ∃ x : Int, 0 ≤ x ∧ x ≤ (xs.length : Int) ∧ i = .int .i64 x ∧ s = .int .i64 (sumTo xs x.toNat) ∧ 0 ≤ sumTo xs x.toNat ∧ sumTo xs x.toNat ≤ x * 1000000000000 ∧ (∀ j : Nat, j < x.toNat → good (rdOf 0 xs (j : Int)) = true) ∧ w = wr) (fun _ i _ => xs.length - (intOf i).toNat)
    case atStart => exact ⟨0, Int.le_refl _, by omega, rfl, rfl, Int.le_refl _, by simp [sumTo], fun j hj => absurd hj (by simp), rfl⟩
    case round =>
      obtain ⟨x, hx0, hxn, rfl, rfl, hs0, hs1, hg, rfl⟩ := hrel
      have HG := Lib.hid hg
      clear hg
      by_cases hlt : x < (xs.length : Int)
      · obtain ⟨ad, eA, g0⟩ := at_scalar 0 HR.out x hx0 hlt
        subst eA
        obtain ⟨y, hy⟩ : ∃ y, y = rdOf 0 xs x := ⟨_, rfl⟩
        rw [← hy] at g0
        have HY := Lib.hid hy
        clear hy
        rcases hgy : good y with _ | _
        · have hall : xs.all good = false := not_good hx0 hlt (by rw [← HY.out]; exact hgy)
          have hcode : shCode xs = 9 := by unfold shCode; rw [if_neg (by omega), hall]; rfl
          have hout : shOut xs = [] := by unfold shOut; rw [hcode]; rfl
          have HC := Lib.hid hcode
          have HO := Lib.hid hout
          clear hcode hout hall
          unfold good at hgy
          by_cases h1 : y < 0
          · go_wp2_with fail
            go_ret2
            exact Ans.mk _ [] (by rw [HC.out]; rfl) (Kd.R_nil fl 23 _ _ _) (by rw [HO.out]; rfl) (Below.refl _ _)
          · have h2 : 1000000000000 < y := by
              have h3 : (decide (0 ≤ y)) = true := decide_eq_true (by omega)
              rw [h3] at hgy
              simp at hgy
              exact hgy
            clear hgy
            go_wp2_with fail
            go_ret2
            exact Ans.mk _ [] (by rw [HC.out]; rfl) (Kd.R_nil fl 23 _ _ _) (by rw [HO.out]; rfl) (Below.refl _ _)
        · have h1 : 0 ≤ y ∧ y ≤ 1000000000000 := by unfold good at hgy; simpa using hgy
          obtain ⟨h1, h2⟩ := h1
          have HGY := Lib.hid hgy
          clear hgy
          have hb : x * 1000000000000 ≤ 1000000000000000 := by omega
          go_wp2_with fail
          go_roundw
          case measure => simp [intOf]; omega
          case rel =>
            have e1 : (x + 1).toNat = x.toNat + 1 := by omega
            have e2 : sumTo xs (x.toNat + 1) = sumTo xs x.toNat + y := by
              show sumTo xs x.toNat + rdOf 0 xs ((x.toNat : Nat) : Int) = _
              rw [show ((x.toNat : Nat) : Int) = x by omega, ← HY.out]
            refine ⟨x + 1, by omega, by omega, rfl, by rw [e1, e2], by rw [e1, e2]; omega, by rw [e1, e2]; omega, ?_, by first | rfl | trivial⟩
            intro j hj
            by_cases hjx : j = x.toNat
            · rw [hjx, show ((x.toNat : Nat) : Int) = x by omega, ← HY.out]; exact HGY.out
            · exact HG.out j (by omega)
      · have hx : x = (xs.length : Int) := by omega
        have hx2 : x.toNat = xs.length := by omega
        have hall : xs.all good = true := all_good (fun j hj => HG.out j (by omega))
        have hcode : shCode xs = 0 := by unfold shCode; rw [if_neg (by omega), hall]; rfl
        have hout : shOut xs = (List.range xs.length).map (shAt xs) := by unfold shOut; rw [if_pos hcode]
        have HC := Lib.hid hcode
        have HO := Lib.hid hout
        clear hcode hout hall
        rw [hx2] at hs0 hs1 ⊢
        obtain ⟨S, hS⟩ : ∃ S, S = sumTo xs xs.length := ⟨_, rfl⟩
        rw [← hS] at hs0 hs1 ⊢
        have HS := Lib.hid hS
        clear hS
        go_wp2_with (refine Kd.R_make fl (w0 := w) w.heap.size 23 rfl (N := 31) rfl 22 _ _ rfl (xs.length : Int) rfl rfl Try.underlying22 (.float .f64 0) 8 info23 rfl (by decide) (by omega) 0 (ok := fun _ => True) (okp := fun _ => True) rfl (fun _ hk => hk) trivial (by omega) (by omega) (Below.refl _ _) (Nat.le_refl _) ?_; intro v1 w1 hR hB hg1 hg2; clear hg1 hg2)
        have HR1 := Lib.hid hR
        have HB := Lib.hid hB
        clear hR hB
        go_loopw [34] (fun i wr => ∃ x : Int, ∃ ob : List Nat, 0 ≤ x ∧ x ≤ (xs.length : Int) ∧ i = .int .i64 x ∧ fl.R 23 wr w.heap.size (fun _ => True) v1 ob ∧ ob.length = xs.length ∧ (∀ j : Nat, j < xs.length → (ob[j]?).map cd = some (if j < x.toNat then shAt xs j else cd 0)) ∧ Below w.heap.size w wr) (fun i _ => xs.length - (intOf i).toNat)
        case atStart =>
          refine ⟨0, _, Int.le_refl _, by omega, rfl, HR1.out, by simp, ?_, HB.out⟩
          intro j hj
          simp [List.getElem?_replicate, hj]
        case round =>
          clear HR1 HB
          obtain ⟨x, ob, hx0, hxn, rfl, hR, hol, hob, hB⟩ := hrel
          have HL := Lib.hid hol
          have HOB := Lib.hid hob
          clear hob
          by_cases hlt : x < (xs.length : Int)
          · obtain ⟨ad, eA, g0⟩ := at_scalar 0 HR.out x hx0 hlt
            subst eA
            replace g0 := (hB.cell (World.block_lt_of_cell? w _ g0)).trans g0
            obtain ⟨g, cap, ev, hg, hg2, hcs⟩ := Kd.R_form hR (by omega)
            clear hcs hg2
            rw [hol] at ev
            subst ev
            obtain ⟨hcx, hfx⟩ := Kd.R_celln 0 hR x hx0 hlt
            clear hol
            have HR1 := Lib.hid hR
            have HB := Lib.hid hB
            clear hR hB
            by_cases hS0 : 0 < S
            · go_wp2_with (refine wp_float _ rfl _ (by first | exact .inl rfl | exact .inr (.inl rfl) | exact .inr (.inr (.inl rfl)) | exact .inr (.inr (.inr rfl))) _ _ _ _ rfl _ _ rfl rfl ?_; intro r n hr)
              have hput := Kd.R_putg (Kd.R_drewN HR1.out n) x r
              have HP := Lib.hid hput.1
              have HB2 := Lib.hid (below_set (pw_below_drewN HB.out n) hg (j := x.toNat) (v := .float .f64 r))
              clear hput
              go_roundw
              case measure => simp [intOf]; omega
              case rel =>
                refine ⟨x + 1, _, by omega, by omega, rfl, HP.out, by rw [List.length_set]; exact HL.out, ?_, HB2.out⟩
                intro j hj
                rw [List.getElem?_set]
                by_cases hj2 : x.toNat = j
                · subst hj2
                  rw [if_pos rfl, if_pos (by have := HL.out; omega), if_pos (by omega)]
                  show some (cd r) = _
                  rw [hr]
                  unfold shAt
                  rw [← HS.out, if_pos hS0, show ((x.toNat : Nat) : Int) = x by omega]
                · rw [if_neg hj2, HOB.out j hj]
                  by_cases hj3 : j < x.toNat
                  · rw [if_pos hj3, if_pos (by omega)]
                  · rw [if_neg hj3, if_neg (by omega)]
            · go_wp2_with fail
              go_roundw
              case measure => simp [intOf]; omega
              case rel =>
                refine ⟨x + 1, _, by omega, by omega, rfl, HR1.out, HL.out, ?_, HB.out⟩
                intro j hj
                rw [HOB.out j hj]
                have h9 : shAt xs j = cd 0 := by unfold shAt; rw [← HS.out, if_neg hS0]
                rw [h9]
                split <;> split <;> rfl
          · have hx9 : x.toNat = xs.length := by omega
            have HR1 := Lib.hid hR
            have HB := Lib.hid hB
            clear hR hB
            go_wp2_with fail
            go_ret2
            refine Ans.mk _ ob (by rw [HC.out]; rfl) HR1.out ?_ HB.out
            rw [HO.out]
            apply List.ext_getElem?
            intro j
            rw [List.getElem?_map, List.getElem?_map]
            by_cases hj : j < xs.length
            · rw [HOB.out j hj, if_pos (by omega), List.getElem?_range hj]; rfl
            · rw [List.getElem?_eq_none (by have := HL.out; omega), List.getElem?_eq_none (by simp; omega)]; rfl
set_option maxHeartbeats 4000000 in
set_option maxRecDepth 100000 in
theorem specShares (v : Value) (xs : List Int) (w : World) (h : Rd il w v xs) :
    Calls Try.prog 20 #[v] w fun e w' => Ans w w' e (shCode xs) (shOut xs) := by
  obtain ⟨A, c, rfl, hc, hr⟩ := h
  have HR := Lib.hid hr
  clear hr
  by_cases hm : 1000 < (xs.length : Int)
  · have hcode : shCode xs = 10 := by unfold shCode; rw [if_pos (by omega)]
    have hout : shOut xs = [] := by unfold shOut; rw [hcode]; rfl
    go_enter Try.func20, Try.ntmps20
    go_wp2_with fail
    go_ret2
    exact Ans.mk _ [] (by rw [hcode]; rfl) (R_lit0 fl 23 w) (by rw [hout]; rfl) ((Below.refl _ w).alloc (Nat.le_refl _) _)
  · go_enter Try.func20, Try.ntmps20
    go_wp2_with fail
    go_loopw [4, 5] (fun s i wr => ∃ x : Int, 0 ≤ x ∧ x ≤ (xs.length : Int) ∧ i = .int .i64 x ∧ s = .int .i64 (sumTo xs x.toNat) ∧ 0 ≤ sumTo xs x.toNat ∧ sumTo xs x.toNat ≤ x * 1000000000000 ∧ (∀ j : Nat, j < x.toNat → good (rdOf 0 xs (j : Int)) = true) ∧ w = wr) (fun _ i _ => xs.length - (intOf i).toNat)
    case atStart => exact ⟨0, Int.le_refl _, by omega, rfl, rfl, Int.le_refl _, by simp [sumTo], fun j hj => absurd hj (by simp), rfl⟩
    case round =>
      obtain ⟨x, hx0, hxn, rfl, rfl, hs0, hs1, hg, rfl⟩ := hrel
      have HG := Lib.hid hg
      clear hg
      by_cases hlt : x < (xs.length : Int)
      · obtain ⟨ad, eA, g0⟩ := at_scalar 0 HR.out x hx0 hlt
        subst eA
        obtain ⟨y, hy⟩ : ∃ y, y = rdOf 0 xs x := ⟨_, rfl⟩
        rw [← hy] at g0
        have HY := Lib.hid hy
        clear hy
        rcases hgy : good y with _ | _
        · have hall : xs.all good = false := not_good hx0 hlt (by rw [← HY.out]; exact hgy)
          have hcode : shCode xs = 9 := by unfold shCode; rw [if_neg (by omega), hall]; rfl
          have hout : shOut xs = [] := by unfold shOut; rw [hcode]; rfl
          have HC := Lib.hid hcode
          have HO := Lib.hid hout
          clear hcode hout hall
          unfold good at hgy
          by_cases h1 : y < 0
          · go_wp2_with fail
            go_ret2
            exact Ans.mk _ [] (by rw [HC.out]; rfl) (R_lit0 fl 23 w) (by rw [HO.out]; rfl) ((Below.refl _ w).alloc (Nat.le_refl _) _)
          · have h2 : 1000000000000 < y := by
              have h3 : (decide (0 ≤ y)) = true := decide_eq_true (by omega)
              rw [h3] at hgy
              simp at hgy
              exact hgy
            clear hgy
            go_wp2_with fail
            go_ret2
            exact Ans.mk _ [] (by rw [HC.out]; rfl) (R_lit0 fl 23 w) (by rw [HO.out]; rfl) ((Below.refl _ w).alloc (Nat.le_refl _) _)
        · have h1 : 0 ≤ y ∧ y ≤ 1000000000000 := by unfold good at hgy; simpa using hgy
          obtain ⟨h1, h2⟩ := h1
          have HGY := Lib.hid hgy
          clear hgy
          have hb : x * 1000000000000 ≤ 1000000000000000 := by omega
          go_wp2_with fail
          go_roundw
          case measure => simp [intOf]; omega
          case rel =>
            have e1 : (x + 1).toNat = x.toNat + 1 := by omega
            have e2 : sumTo xs (x.toNat + 1) = sumTo xs x.toNat + y := by
              show sumTo xs x.toNat + rdOf 0 xs ((x.toNat : Nat) : Int) = _
              rw [show ((x.toNat : Nat) : Int) = x by omega, ← HY.out]
            refine ⟨x + 1, by omega, by omega, rfl, by rw [e1, e2], by rw [e1, e2]; omega, by rw [e1, e2]; omega, ?_, by first | rfl | trivial⟩
            intro j hj
            by_cases hjx : j = x.toNat
            · rw [hjx, show ((x.toNat : Nat) : Int) = x by omega, ← HY.out]; exact HGY.out
            · exact HG.out j (by omega)
      · have hx : x = (xs.length : Int) := by omega
        have hx2 : x.toNat = xs.length := by omega
        have hall : xs.all good = true := all_good (fun j hj => HG.out j (by omega))
        have hcode : shCode xs = 0 := by unfold shCode; rw [if_neg (by omega), hall]; rfl
        have hout : shOut xs = (List.range xs.length).map (shAt xs) := by unfold shOut; rw [if_pos hcode]
        have HC := Lib.hid hcode
        have HO := Lib.hid hout
        clear hcode hout hall
        rw [hx2] at hs0 hs1 ⊢
        obtain ⟨S, hS⟩ : ∃ S, S = sumTo xs xs.length := ⟨_, rfl⟩
        rw [← hS] at hs0 hs1 ⊢
        have HS := Lib.hid hS
        clear hS
        go_wp2_with fail
        go_loopw [6, 7] (fun o i wr => ∃ x : Int, ∃ out : List Nat, 0 ≤ x ∧ x ≤ (xs.length : Int) ∧ i = .int .i64 x ∧ fl.R 23 wr w.heap.size (fun _ => True) o out ∧ out.map cd = (List.range x.toNat).map (shAt xs) ∧ Below w.heap.size w wr) (fun _ i _ => xs.length - (intOf i).toNat)
        case atStart => exact ⟨0, [], Int.le_refl _, by omega, rfl, R_lit0 fl 23 w, rfl, (Below.refl _ w).alloc (Nat.le_refl _) _⟩
        case round =>
          obtain ⟨x, out, hx0, hxn, rfl, hR, hout, hB⟩ := hrel
          have HOB := Lib.hid hout
          have hol : out.length = x.toNat := by have := congrArg List.length hout; simpa using this
          clear hout
          have HR1 := Lib.hid hR
          have HB := Lib.hid hB
          clear hR hB
          by_cases hlt : x < (xs.length : Int)
          · obtain ⟨ad, eA, g0⟩ := at_scalar 0 HR.out x hx0 hlt
            subst eA
            replace g0 := (HB.out.cell (World.block_lt_of_cell? w _ g0)).trans g0
            have hbase := HB.out.size
            by_cases hS0 : 0 < S
            · go_wp2_with (first | ((with_reducible refine gate_builtin (b := .append) (xs := #[.tmp 55, .tmp 57]) rfl ?_); at_builtin; refine Kd.R_append fl (w0 := w) w.heap.size rfl (.tmp 55) (.tmp 57) 22 23 (.float .f64 0) 8 rfl Try.underlying22 info23 rfl (by decide) (by decide) u6 out r [.float .f64 r] (fun _ => True) (fun _ => False) rfl rfl rfl (fun _ h => h.elim) (fun _ _ => trivial) (Kd.R_drewN HR1.out _) (pw_below_drewN HB.out _) hbase (by omega) ?_; intro v1 w1 hR1 hB1 hg1 hg2; clear hg1 hg2) | (refine wp_float _ rfl _ (by first | exact .inl rfl | exact .inr (.inl rfl) | exact .inr (.inr (.inl rfl)) | exact .inr (.inr (.inr rfl))) _ _ _ _ rfl _ _ rfl rfl ?_; intro r n hr))
              have HR2 := Lib.hid hR1
              have HB2 := Lib.hid hB1
              clear hR1 hB1
              go_wp2_with fail
              go_roundw
              case measure => simp [intOf]; omega
              case rel =>
                refine ⟨x + 1, _, by omega, by omega, rfl, HR2.out, ?_, HB2.out⟩
                rw [show (x + 1).toNat = x.toNat + 1 by omega, List.map_append, HOB.out, List.range_succ, List.map_append]
                have h9 : cd r = shAt xs x.toNat := by
                  rw [hr]
                  unfold shAt
                  rw [← HS.out, if_pos hS0, show ((x.toNat : Nat) : Int) = x by omega]
                simp [h9]
            · go_wp2_with (first | ((with_reducible refine gate_builtin (b := .append) (xs := #[.tmp 55, .tmp 57]) rfl ?_); at_builtin; refine Kd.R_append fl (w0 := w) w.heap.size rfl (.tmp 55) (.tmp 57) 22 23 (.float .f64 0) 8 rfl Try.underlying22 info23 rfl (by decide) (by decide) u6 out 0 [.float .f64 0] (fun _ => True) (fun _ => False) rfl rfl rfl (fun _ h => h.elim) (fun _ _ => trivial) HR1.out HB.out hbase (by omega) ?_; intro v1 w1 hR1 hB1 hg1 hg2; clear hg1 hg2))
              have HR2 := Lib.hid hR1
              have HB2 := Lib.hid hB1
              clear hR1 hB1
              go_wp2_with fail
              go_roundw
              case measure => simp [intOf]; omega
              case rel =>
                refine ⟨x + 1, _, by omega, by omega, rfl, HR2.out, ?_, HB2.out⟩
                rw [show (x + 1).toNat = x.toNat + 1 by omega, List.map_append, HOB.out, List.range_succ, List.map_append]
                have h9 : cd 0 = shAt xs x.toNat := by
                  unfold shAt
                  rw [← HS.out, if_neg hS0]
                simp [h9]
          · have hx9 : x.toNat = xs.length := by omega
            go_wp2_with fail
            go_ret2
            exact Ans.mk _ out (by rw [HC.out]; rfl) HR1.out (by rw [HO.out, HOB.out, hx9]) HB.out
end Go.Proofs.Ytjldnehlcplccaa.Flo
