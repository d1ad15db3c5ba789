/- What spec.SyncOK and impl.SyncOK answer: contracts over the translation. -/
import Derived.Test.YtlfhdjodcfifpaaPFnExactSyncOKx0
import Derived.Lib.Hide
import Derived.BigRegion
namespace Go.Proofs.Ytlfhdjodcfifpaa.PFnExactSyncOK
open Go.RowKit Go.Proofs.YtlfhdjodcfifpaaW.PrintWords Go.Proofs.YtlfhdjodcfifpaaW.PrintLast Go.Proofs.YtlfhdjodcfifpaaW.PrintMore
set_option linter.unusedSimpArgs false
set_option linter.unusedVariables false

/-- Do all numbers lie from lo to hi? -/
def inB (lo hi n : Int) : Bool := decide (lo ≤ n ∧ n ≤ hi)
def okL (lo hi : Int) (l : List Int) : Bool := l.all (inB lo hi)
def many (a0 a1 : Int) (n2 n3 n4 : Nat) (op : Int) : Int := if op ≤ 2 then a0 else if op ≤ 5 then (n2 : Int) else if op ≤ 7 then (n3 : Int) else if op ≤ 10 then (n4 : Int) else if op ≤ 14 then a1 else 1
def opB (a0 a1 : Int) (n2 n3 n4 : Nat) (x : S56) : Bool := decide (1 ≤ x.f0 ∧ x.f0 ≤ 15 ∧ 0 ≤ x.f1 ∧ x.f1 < many a0 a1 n2 n3 n4 x.f0 ∧ (x.f2 = 0 ∨ x.f0 = 8 ∨ x.f0 = 15))
def thB (a0 a1 : Int) (n2 n3 n4 : Nat) (t : List S56) : Bool := decide (t.length ≤ 20) && t.all (opB a0 a1 n2 n3 n4)
def headB (a0 a1 : Int) (n2 n3 n4 n5 : Nat) : Bool := decide (0 ≤ a0 ∧ a0 ≤ 6 ∧ 0 ≤ a1 ∧ a1 ≤ 4 ∧ n2 ≤ 4 ∧ n3 ≤ 4 ∧ n4 ≤ 4 ∧ 1 ≤ n5 ∧ n5 ≤ 4)
def syncB (a0 a1 : Int) (l2 l3 l4 : List Int) (l5 : List (List S56)) : Bool :=
  headB a0 a1 l2.length l3.length l4.length l5.length && (okL 0 (a0 - 1) l2 && (okL 0 9 l3 && (okL 1 9 l4 && l5.all (thB a0 a1 l2.length l3.length l4.length))))
def spec_SyncOK.f (a0_0 : Int) (a0_1 : Int) (l0_2 : List Int) (l0_3 : List Int) (l0_4 : List Int) (l0_5 : List (List (S56))) : Option (Bool) := some (syncB a0_0 a0_1 l0_2 l0_3 l0_4 l0_5)
def impl_SyncOK.f (a0_0 : Int) (a0_1 : Int) (l0_2 : List Int) (l0_3 : List Int) (l0_4 : List Int) (l0_5 : List (List (S56))) : Option (Bool) := some (syncB a0_0 a0_1 l0_2 l0_3 l0_4 l0_5)
theorem rd_at (l : List Int) (x : Int) (h0 : 0 ≤ x) (h : x < (l.length : Int)) : l.drop x.toNat = rd l x :: l.drop (x.toNat + 1) := by
  have hl : x.toNat < l.length := by omega
  rw [List.drop_eq_getElem_cons hl]
  unfold rd
  rw [List.getD_eq_getElem?_getD, List.getElem?_eq_getElem hl]
  rfl
theorem rd_atT (l : List (List S56)) (x : Int) (h0 : 0 ≤ x) (h : x < (l.length : Int)) : l.drop x.toNat = rd_L4 l x :: l.drop (x.toNat + 1) := by
  have hl : x.toNat < l.length := by omega
  rw [List.drop_eq_getElem_cons hl]
  unfold rd_L4
  rw [List.getD_eq_getElem?_getD, List.getElem?_eq_getElem hl]
  rfl
theorem rd_atS (l : List S56) (x : Int) (h0 : 0 ≤ x) (h : x < (l.length : Int)) : l.drop x.toNat = rd_T56 l x :: l.drop (x.toNat + 1) := by
  have hl : x.toNat < l.length := by omega
  rw [List.drop_eq_getElem_cons hl]
  unfold rd_T56
  rw [List.getD_eq_getElem?_getD, List.getElem?_eq_getElem hl]
  rfl
theorem okL_step {lo hi : Int} {l : List Int} {x : Int} (h0 : 0 ≤ x) (h : x < (l.length : Int)) : okL lo hi (l.drop x.toNat) = (inB lo hi (rd l x) && okL lo hi (l.drop (x.toNat + 1))) := by
  unfold okL
  rw [rd_at l x h0 h, List.all_cons]
/-- The six cells of a plan in its box. -/
def boxA (a0 a1 : Int) (A2 : Option Addr) (n2 c2 : Nat) (A3 : Option Addr) (n3 c3 : Nat) (A4 : Option Addr) (n4 c4 : Nat) (A5 : Option Addr) (n5 c5 : Nat) : Array Value := #[.int .i64 a0, .int .i64 a1, .slice A2 n2 c2, .slice A3 n3 c3, .slice A4 n4 c4, .slice A5 n5 c5]
theorem box_at (w : World) (cs : Array Value) (o : Nat) : (w.alloc (.cells cs 30)).cell? ⟨w.heap.size, o, none⟩ = cs[o]? := cell_of_row _ _ o _ 30 (0, 0) (heap_alloc_new w _)

/-! ### the program's small functions -/
theorem clos35 (a b r : Int) (B1 B2 : Nat) (w : World) (h1 : w.cell? ⟨B1, 0, none⟩ = some (.int .i64 a)) (h2 : w.cell? ⟨B2, 0, none⟩ = some (.int .i64 b)) :
    Calls Try.prog 35 #[.int .i64 r, .pointer (some ⟨B1, 0, none⟩), .pointer (some ⟨B2, 0, none⟩)] w fun e w' => e = .returned (.bool (!inB a b r)) ∧ w = w' := by
  by_cases q1 : r < a
  · have e : inB a b r = false := by unfold inB; rw [decide_eq_false_iff_not]; omega
    rw [e]
    clear e
    go_enter Try.func35, Try.ntmps35
    go_wp2
    go_ret
    exact ⟨rfl, rfl⟩
  · by_cases q2 : b < r
    · have e : inB a b r = false := by unfold inB; rw [decide_eq_false_iff_not]; omega
      rw [e]
      clear e
      go_enter Try.func35, Try.ntmps35
      go_wp2
      go_ret
      exact ⟨rfl, rfl⟩
    · have e : inB a b r = true := by unfold inB; rw [decide_eq_true_eq]; omega
      rw [e]
      clear e
      go_enter Try.func35, Try.ntmps35
      go_wp2
      go_ret
      exact ⟨rfl, rfl⟩
theorem clos34 (a b : Int) (w : World) : Calls Try.prog 34 #[.int .i64 a, .int .i64 b] w fun e w' => e = .returned (.func (.func 35) #[] #[.pointer (some ⟨w.heap.size, 0, none⟩), .pointer (some ⟨w.heap.size + 1, 0, none⟩)]) ∧ w' = (w.alloc (.cells #[.int .i64 a] 3)).alloc (.cells #[.int .i64 b] 3) := by
  have hmf : ∀ (fn : Fn) (first cap : Array Value) (w : World), (Instr.makeFunc fn first cap).run Try.prog w = .ok (.func fn first cap) w := fun _ _ _ _ => rfl
  go_enter Try.func34, Try.ntmps34
  go_wp2_with fail
  go_ret
  exact ⟨by simp, rfl⟩
/-- slices.IndexFunc, with the closure of a range. -/
theorem idx65 (lo hi : Int) (B1 B2 : Nat) (A0 : Option Addr) (c0 : Nat) (l : List Int) (w : World) (h1 : w.cell? ⟨B1, 0, none⟩ = some (.int .i64 lo)) (h2 : w.cell? ⟨B2, 0, none⟩ = some (.int .i64 hi)) (hr : Kd.C (Kd.int .i64) w A0 l.length l) (hl : l.length ≤ 4) :
    Calls Try.prog 65 #[.slice A0 l.length c0, .func (.func 35) #[] #[.pointer (some ⟨B1, 0, none⟩), .pointer (some ⟨B2, 0, none⟩)]] w fun e w' => (∃ j : Int, e = .returned (.int .i64 j) ∧ (decide (0 ≤ j) = !okL lo hi l) ∧ j ≤ 4 ∧ -1 ≤ j) ∧ w' = w := by
  have HR := Lib.hid hr
  clear hr
  go_enter Try.func65, Try.ntmps65
  go_wp2_with fail
  go_loop [8] (fun i => ∃ x : Int, 0 ≤ x ∧ x ≤ (l.length : Int) ∧ i = .int .i64 x ∧ okL lo hi l = okL lo hi (l.drop x.toNat)) (fun i => l.length - (intOf i).toNat)
  case atStart => exact ⟨0, Int.le_refl _, by omega, rfl, rfl⟩
  case round =>
    obtain ⟨x, hx0, hxn, rfl, hE⟩ := hrel
    have HE := Lib.hid hE
    clear hE
    by_cases hlt : x < (l.length : Int)
    · obtain ⟨ad, eA, g0⟩ := Kd.at_int HR.out x hx0 hlt
      subst eA
      have hst := Lib.hid (okL_step (lo := lo) (hi := hi) hx0 hlt)
      obtain ⟨y, hy⟩ : ∃ y, rd l x = y := ⟨_, rfl⟩
      rw [hy] at g0
      have HY := Lib.hid hy
      clear hy
      have c35 := clos35 lo hi y B1 B2 w h1 h2
      rcases hb : inB lo hi y with _ | _
      · rw [hb] at c35
        have c : Calls Try.prog 35 #[.int .i64 y, .pointer (some ⟨B1, 0, none⟩), .pointer (some ⟨B2, 0, none⟩)] w fun e w' => e = .returned (.bool true) ∧ w = w' := c35
        have HBB := Lib.hid hb
        clear c35 hb
        go_wp2_with (go_at_call 35; refine c.mono ?_; rintro e w9 ⟨rfl, rfl⟩)
        go_ret
        exact ⟨⟨x, rfl, by rw [HE.out, hst.out, HY.out, HBB.out]; simp [hx0], by omega, by omega⟩, rfl⟩
      · rw [hb] at c35
        have c : Calls Try.prog 35 #[.int .i64 y, .pointer (some ⟨B1, 0, none⟩), .pointer (some ⟨B2, 0, none⟩)] w fun e w' => e = .returned (.bool false) ∧ w = w' := c35
        have HBB := Lib.hid hb
        clear c35 hb
        go_wp2_with (go_at_call 35; refine c.mono ?_; rintro e w9 ⟨rfl, rfl⟩)
        go_round
        case rel => exact ⟨x + 1, by omega, by omega, rfl, by rw [HE.out, hst.out, HY.out, HBB.out, show (x + 1).toNat = x.toNat + 1 by omega]; rfl⟩
        case measure => simp [intOf]; omega
    · go_wp2_with fail
      go_ret
      exact ⟨⟨-1, rfl, by rw [HE.out, show x.toNat = l.length by omega, List.drop_length]; rfl, by omega, by omega⟩, rfl⟩
theorem contains36 (lo hi : Int) (B1 B2 : Nat) (A0 : Option Addr) (c0 : Nat) (l : List Int) (w : World) (h1 : w.cell? ⟨B1, 0, none⟩ = some (.int .i64 lo)) (h2 : w.cell? ⟨B2, 0, none⟩ = some (.int .i64 hi)) (hr : Kd.C (Kd.int .i64) w A0 l.length l) (hl : l.length ≤ 4) :
    Calls Try.prog 36 #[.slice A0 l.length c0, .func (.func 35) #[] #[.pointer (some ⟨B1, 0, none⟩), .pointer (some ⟨B2, 0, none⟩)]] w fun e w' => e = .returned (.bool (!okL lo hi l)) ∧ w' = w := by
  have c65 := idx65 lo hi B1 B2 A0 c0 l w h1 h2 hr hl
  obtain ⟨b, hb⟩ : ∃ b, (!okL lo hi l) = b := ⟨_, rfl⟩
  rw [hb] at c65 ⊢
  clear hb hr h1 h2
  go_enter Try.func36, Try.ntmps36
  go_wp2_with (go_at_call 65; refine c65.mono ?_; rintro e w9 ⟨⟨j, rfl, hj, hj1, hj2⟩, rfl⟩)
  go_ret
  exact ⟨by rw [← hj]; rfl, rfl⟩
/-- How many objects an operation may name. -/
theorem manyC (a0 a1 : Int) (A2 : Option Addr) (c2 : Nat) (l2 : List Int) (A3 : Option Addr) (c3 : Nat) (l3 : List Int) (A4 : Option Addr) (c4 : Nat) (l4 : List Int) (A5 : Option Addr) (c5 : Nat) (l5 : List (List (S56))) (op : Int) (w : World) :
    Calls Try.prog 31 #[.agg #[.int .i64 a0, .int .i64 a1, .slice A2 l2.length c2, .slice A3 l3.length c3, .slice A4 l4.length c4, .slice A5 l5.length c5], .int .i64 op] w fun e w' => e = .returned (.int .i64 (many a0 a1 l2.length l3.length l4.length op)) ∧ Below w.heap.size w w' := by
  by_cases q0 : op ≤ 2
  · have e : many a0 a1 l2.length l3.length l4.length op = a0 := by unfold many; rw [if_pos q0]
    rw [e]
    clear e
    have d0 : decide (op ≤ 2) = true := decide_eq_true q0
    go_enter Try.func31, Try.ntmps31
    go_wp2_with fail
    go_ret
    exact ⟨rfl, (Below.refl _ w).alloc (Nat.le_refl _) _⟩
  by_cases q1 : op ≤ 5
  · have e : many a0 a1 l2.length l3.length l4.length op = (l2.length : Int) := by unfold many; rw [if_neg q0, if_pos q1]
    rw [e]
    clear e
    have d0 : decide (op ≤ 2) = false := decide_eq_false q0
    have d1 : decide (op ≤ 5) = true := decide_eq_true q1
    go_enter Try.func31, Try.ntmps31
    go_wp2_with fail
    go_ret
    exact ⟨rfl, (Below.refl _ w).alloc (Nat.le_refl _) _⟩
  by_cases q2 : op ≤ 7
  · have e : many a0 a1 l2.length l3.length l4.length op = (l3.length : Int) := by unfold many; rw [if_neg q0, if_neg q1, if_pos q2]
    rw [e]
    clear e
    have d0 : decide (op ≤ 2) = false := decide_eq_false q0
    have d1 : decide (op ≤ 5) = false := decide_eq_false q1
    have d2 : decide (op ≤ 7) = true := decide_eq_true q2
    go_enter Try.func31, Try.ntmps31
    go_wp2_with fail
    go_ret
    exact ⟨rfl, (Below.refl _ w).alloc (Nat.le_refl _) _⟩
  by_cases q3 : op ≤ 10
  · have e : many a0 a1 l2.length l3.length l4.length op = (l4.length : Int) := by unfold many; rw [if_neg q0, if_neg q1, if_neg q2, if_pos q3]
    rw [e]
    clear e
    have d0 : decide (op ≤ 2) = false := decide_eq_false q0
    have d1 : decide (op ≤ 5) = false := decide_eq_false q1
    have d2 : decide (op ≤ 7) = false := decide_eq_false q2
    have d3 : decide (op ≤ 10) = true := decide_eq_true q3
    go_enter Try.func31, Try.ntmps31
    go_wp2_with fail
    go_ret
    exact ⟨rfl, (Below.refl _ w).alloc (Nat.le_refl _) _⟩
  by_cases q4 : op ≤ 14
  · have e : many a0 a1 l2.length l3.length l4.length op = a1 := by unfold many; rw [if_neg q0, if_neg q1, if_neg q2, if_neg q3, if_pos q4]
    rw [e]
    clear e
    have d0 : decide (op ≤ 2) = false := decide_eq_false q0
    have d1 : decide (op ≤ 5) = false := decide_eq_false q1
    have d2 : decide (op ≤ 7) = false := decide_eq_false q2
    have d3 : decide (op ≤ 10) = false := decide_eq_false q3
    have d4 : decide (op ≤ 14) = true := decide_eq_true q4
    go_enter Try.func31, Try.ntmps31
    go_wp2_with fail
    go_ret
    exact ⟨rfl, (Below.refl _ w).alloc (Nat.le_refl _) _⟩
  have e : many a0 a1 l2.length l3.length l4.length op = 1 := by unfold many; rw [if_neg q0, if_neg q1, if_neg q2, if_neg q3, if_neg q4]
  rw [e]
  clear e
  have d0 : decide (op ≤ 2) = false := decide_eq_false q0
  have d1 : decide (op ≤ 5) = false := decide_eq_false q1
  have d2 : decide (op ≤ 7) = false := decide_eq_false q2
  have d3 : decide (op ≤ 10) = false := decide_eq_false q3
  have d4 : decide (op ≤ 14) = false := decide_eq_false q4
  go_enter Try.func31, Try.ntmps31
  go_wp2_with fail
  go_ret
  exact ⟨rfl, (Below.refl _ w).alloc (Nat.le_refl _) _⟩
end Go.Proofs.Ytlfhdjodcfifpaa.PFnExactSyncOK
