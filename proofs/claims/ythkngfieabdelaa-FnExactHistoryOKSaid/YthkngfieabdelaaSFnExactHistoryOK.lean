/- What impl.HistoryOK answers: a contract over the translation. -/
import Derived.Test.YthkngfieabdelaaPFnExactHistoryOKx0
import Derived.Test.YthkngfieabdelaaIMap
import Derived.Lib.Hide
namespace Go.Proofs.Ythkngfieabdelaa.PFnExactHistoryOK
open Go.RowKit Go.Proofs.YthkngfieabdelaaW.PrintWords Go.Proofs.YthkngfieabdelaaW.PrintLast Go.Proofs.YthkngfieabdelaaW.PrintMore Go.Proofs.Ythkngfieabdelaa.IM
set_option linter.unusedSimpArgs false
set_option linter.unusedVariables false

def encC (c : S77) : Value := .agg #[.int .i64 c.f0, .int .i64 c.f1, .int .i64 c.f2, .int .i64 c.f3, .int .i64 c.f4, .int .i64 c.f5]
def badC (c : S77) : Bool := decide (c.f0 < 0) || decide (c.f0 > 3) || decide (c.f4 < 0) || (decide (c.f5 < c.f4) && (c.f5 != -1 || c.f3 != 0))
def lastOf : List S77 → Int → Option S77
  | [], _ => none
  | c :: l, t => match lastOf l t with
    | some d => some d
    | none => if c.f0 = t then some c else none
def clashC (d c : S77) : Bool := d.f5 == -1 || decide (c.f4 < d.f5)
def okFrom : List S77 → List S77 → Bool
  | _, [] => true
  | prev, c :: cs => if badC c then false else match lastOf prev c.f0 with
    | some d => if clashC d c then false else okFrom (prev ++ [c]) cs
    | none => okFrom (prev ++ [c]) cs
def hOK (l : List S77) : Bool := if l.length > 10 then false else okFrom [] l
def impl_HistoryOK.f (l0 : List (S77)) : Option (Bool) := some (hOK l0)

theorem lastOf_snoc (l : List S77) (c : S77) (t : Int) : lastOf (l ++ [c]) t = if c.f0 = t then some c else lastOf l t := by
  induction l with
  | nil => simp [lastOf]
  | cons x l ih =>
    simp only [List.cons_append, lastOf, ih]
    by_cases h : c.f0 = t
    · simp [h]
    · simp [h]

def Holds (f : Int → Option Value) (l : List S77) : Prop := ∀ t, f t = (lastOf l t).map encC
theorem Holds.snoc {f : Int → Option Value} {l : List S77} (h : Holds f l) (c : S77) : Holds (upd f c.f0 (encC c)) (l ++ [c]) := by
  intro t
  rw [lastOf_snoc]
  unfold upd
  by_cases e : t = c.f0
  · subst e; simp
  · rw [if_neg e, if_neg (fun q => e q.symm)]; exact h t

theorem okFrom_cons (prev : List S77) (c : S77) (cs : List S77) : okFrom prev (c :: cs) = if badC c then false else match lastOf prev c.f0 with
    | some d => if clashC d c then false else okFrom (prev ++ [c]) cs
    | none => okFrom (prev ++ [c]) cs := by rw [okFrom]

theorem drop_at (l : List S77) (x : Int) (h0 : 0 ≤ x) (h : x < (l.length : Int)) : l.drop x.toNat = rd_T77 l x :: l.drop (x.toNat + 1) := by
  have hl : x.toNat < l.length := by omega
  rw [List.drop_eq_getElem_cons hl]
  unfold rd_T77
  rw [List.getD_eq_getElem?_getD, List.getElem?_eq_getElem hl]
  rfl
theorem take_at (l : List S77) (x : Int) (h0 : 0 ≤ x) (h : x < (l.length : Int)) : l.take (x.toNat + 1) = l.take x.toNat ++ [rd_T77 l x] := by
  have hl : x.toNat < l.length := by omega
  rw [List.take_succ_eq_append_getElem hl]
  unfold rd_T77
  rw [List.getD_eq_getElem?_getD, List.getElem?_eq_getElem hl]
  rfl

theorem zero77 (w : World) : (zeroValue 77).run Try.prog w = .ok (.agg #[.int .i64 0, .int .i64 0, .int .i64 0, .int .i64 0, .int .i64 0, .int .i64 0]) w := by kernel_rfl

set_option maxHeartbeats 4000000 in
set_option maxRecDepth 100000 in
theorem hOK_main (A0 : Option Addr) (c0 : Nat) (l0 : List (S77)) (w : World) (hr0 : Kd.C k77 w A0 l0.length l0) (hc0 : l0.length ≤ c0) (hlen : l0.length ≤ 10) :
    Calls Try.prog 27 #[.slice A0 l0.length c0] w fun e w' => e = .returned (.bool (okFrom [] l0)) ∧ Below w.heap.size w w' := by
  have hmm := @run_makeMap Try.prog
  have HR := Lib.hid hr0; clear hr0
  have hle : (l0.length : Int) ≤ 10 := by omega
  have h10 : decide ((10 : Int) < (l0.length : Int)) = false := by simp; omega
  go_enter Try.func27, Try.ntmps27
  go_wp2_with fail
  go_loopw [14] (fun i wr => ∃ x : Int, 0 ≤ x ∧ x ≤ (l0.length : Int) ∧ i = .int .i64 x ∧ ∃ f, MapIs wr w.heap.size x.toNat f ∧ Holds f (l0.take x.toNat) ∧ Below w.heap.size w wr ∧ okFrom [] l0 = okFrom (l0.take x.toNat) (l0.drop x.toNat)) (fun i _ => l0.length - (intOf i).toNat)
  case atStart => exact ⟨0, Int.le_refl _, by omega, rfl, _, MapIs.new w, by intro t; rfl, (Below.refl _ w).alloc (Nat.le_refl _) _, rfl⟩
  case round =>
    obtain ⟨x, hx0, hxn, rfl, f, hM, hH, hB, hE⟩ := hrel
    have HM := Lib.hid hM; have HH := Lib.hid hH; have HB := Lib.hid hB; have HE := Lib.hid hE
    clear hM hH hB hE
    by_cases hlt : x < (l0.length : Int)
    · obtain ⟨ad, eA, g0, g1, g2, g3, g4, g5⟩ := at_T77 HR.out x hx0 hlt
      subst eA
      replace g0 := (HB.out.cell (World.block_lt_of_cell? w _ g0)).trans g0
      replace g1 := (HB.out.cell (World.block_lt_of_cell? w _ g1)).trans g1
      replace g2 := (HB.out.cell (World.block_lt_of_cell? w _ g2)).trans g2
      replace g3 := (HB.out.cell (World.block_lt_of_cell? w _ g3)).trans g3
      replace g4 := (HB.out.cell (World.block_lt_of_cell? w _ g4)).trans g4
      replace g5 := (HB.out.cell (World.block_lt_of_cell? w _ g5)).trans g5
      obtain ⟨c, hc⟩ : ∃ c, c = rd_T77 l0 x := ⟨_, rfl⟩
      rw [← hc] at g0 g1 g2 g3 g4 g5
      have hnx : okFrom [] l0 = if badC c then false else match lastOf (l0.take x.toNat) c.f0 with
          | some d => if clashC d c then false else okFrom (l0.take x.toNat ++ [c]) (l0.drop (x.toNat + 1))
          | none => okFrom (l0.take x.toNat ++ [c]) (l0.drop (x.toNat + 1)) := by
        rw [HE.out, drop_at l0 x hx0 hlt, ← hc, okFrom_cons]
      have htk : l0.take (x.toNat + 1) = l0.take x.toNat ++ [c] := by rw [hc]; exact take_at l0 x hx0 hlt
      have hbad : badC c = true → okFrom [] l0 = false := fun h => by rw [hnx, if_pos h]
      have HBad := Lib.hid hbad; clear hbad
      have HN := Lib.hid hnx; have HT := Lib.hid htk; clear hnx htk hc
      obtain ⟨c0', c1', c2', c3', c4', c5'⟩ := c
      have hB0 : w.heap.size ≤ wr.heap.size := HB.out.size
      have e3 : (c5' = -1 ∧ c3' = 0) ∨ (c5' = -1 ∧ (c3' != 0) = true ∧ ¬ c3' = 0) ∨ ((c5' != -1) = true ∧ ¬ c5' = -1) := by
        by_cases h5 : c5' = -1
        · by_cases h : c3' = 0
          · exact .inl ⟨h5, h⟩
          · exact .inr (.inl ⟨h5, by simp [h], h⟩)
        · exact .inr (.inr ⟨by simp [h5], h5⟩)
      cases hl : lastOf (l0.take x.toNat) c0' with
      | none =>
        have hf : f c0' = none := by rw [HH.out, hl]; rfl
        have hgo : badC ⟨c0', c1', c2', c3', c4', c5'⟩ = false → True → okFrom [] l0 = okFrom (l0.take x.toNat ++ [⟨c0', c1', c2', c3', c4', c5'⟩]) (l0.drop (x.toNat + 1)) := fun h _ => by rw [HN.out, h]; simp only [hl]; rfl
        have HGo := Lib.hid hgo; clear hgo hl
        rcases e3 with ⟨rfl, rfl⟩ | ⟨rfl, e3, e3n⟩ | ⟨e5, e5n⟩
        all_goals
         go_wp2_with (first | (at_lookup; refine wp_lookup_ok _ rfl _ _ 80 rfl 3 77 Try.underlying80 Try.underlying3 (zero77 _) w.heap.size x.toNat f rfl (HM.out.alloc _) c0' rfl ?_) | (at_mapUpdate; refine wp_update _ rfl _ _ _ 80 rfl 3 77 Try.underlying80 Try.underlying3 w.heap.size x.toNat f rfl ((HM.out.alloc _).alloc _) c0' _ rfl rfl ?_; intro w1 hM1 hg1))
        all_goals first
          | (go_ret
             refine ⟨?_, HB.out.alloc hB0 _⟩
             rw [HBad.out (by simp [badC]; omega)]
             rfl)
          | skip
        all_goals
          go_roundw
          case rel =>
            rw [show x.toNat + 1 = (x + 1).toNat by omega] at hM1
            refine ⟨x + 1, by omega, by omega, rfl, _, hM1, ?_, ((HB.out.alloc hB0 _).alloc (by simp; omega) _).grown hg1 (by simp; omega) (by intro k hk; cases hk; exact Nat.le_refl _), ?_⟩
            · rw [show (x + 1).toNat = x.toNat + 1 by omega, HT.out]; exact HH.out.snoc ⟨_, _, _, _, _, _⟩
            · rw [show (x + 1).toNat = x.toNat + 1 by omega, HT.out]; exact HGo.out (by simp [badC]; omega) trivial
          case measure => simp [intOf]; omega
      | some d =>
        obtain ⟨d0, d1, d2, d3, d4, d5⟩ := d
        have hf : f c0' = some (.agg #[.int .i64 d0, .int .i64 d1, .int .i64 d2, .int .i64 d3, .int .i64 d4, .int .i64 d5]) := by rw [HH.out, hl]; rfl
        have hgo : badC ⟨c0', c1', c2', c3', c4', c5'⟩ = false → clashC ⟨d0, d1, d2, d3, d4, d5⟩ ⟨c0', c1', c2', c3', c4', c5'⟩ = false → okFrom [] l0 = okFrom (l0.take x.toNat ++ [⟨c0', c1', c2', c3', c4', c5'⟩]) (l0.drop (x.toNat + 1)) := fun h h2 => by rw [HN.out, h]; simp only [hl, h2]; rfl
        have hcl : clashC ⟨d0, d1, d2, d3, d4, d5⟩ ⟨c0', c1', c2', c3', c4', c5'⟩ = true → okFrom [] l0 = false := fun h2 => by
          cases hb : badC ⟨c0', c1', c2', c3', c4', c5'⟩ with
          | true => exact HBad.out hb
          | false => rw [HN.out, hb]; simp only [hl, h2]; rfl
        have HGo := Lib.hid hgo; have HCl := Lib.hid hcl; clear hgo hcl hl
        have e6 : d5 = -1 ∨ ((d5 == -1) = false ∧ ¬ d5 = -1) := by
          by_cases h : d5 = -1
          · exact .inl h
          · exact .inr ⟨by simp [h], h⟩
        rcases e3 with ⟨rfl, rfl⟩ | ⟨rfl, e3, e3n⟩ | ⟨e5, e5n⟩ <;> rcases e6 with rfl | ⟨e6, e6n⟩
        all_goals
         go_wp2_with (first | (at_lookup; refine wp_lookup_ok _ rfl _ _ 80 rfl 3 77 Try.underlying80 Try.underlying3 (zero77 _) w.heap.size x.toNat f rfl (HM.out.alloc _) c0' rfl ?_) | (at_mapUpdate; refine wp_update _ rfl _ _ _ 80 rfl 3 77 Try.underlying80 Try.underlying3 w.heap.size x.toNat f rfl ((HM.out.alloc _).alloc _) c0' _ rfl rfl ?_; intro w1 hM1 hg1))
        all_goals first
          | (go_ret
             refine ⟨?_, HB.out.alloc hB0 _⟩
             rw [HBad.out (by simp [badC]; omega)]
             rfl)
          | skip
        all_goals first
          | (go_ret
             refine ⟨?_, (HB.out.alloc hB0 _).alloc (by simp; omega) _⟩
             rw [HCl.out (by first | (simp [clashC]; done) | (simp [clashC]; omega))]
             rfl)
          | skip
        all_goals
          go_roundw
          case rel =>
            rw [show x.toNat + 1 = (x + 1).toNat by omega] at hM1
            refine ⟨x + 1, by omega, by omega, rfl, _, hM1, ?_, ((HB.out.alloc hB0 _).alloc (by simp; omega) _).grown hg1 (by simp; omega) (by intro k hk; cases hk; exact Nat.le_refl _), ?_⟩
            · rw [show (x + 1).toNat = x.toNat + 1 by omega, HT.out]; exact HH.out.snoc ⟨_, _, _, _, _, _⟩
            · rw [show (x + 1).toNat = x.toNat + 1 by omega, HT.out]; exact HGo.out (by simp [badC]; omega) (by simp [clashC]; omega)
          case measure => simp [intOf]; omega
    · have he : okFrom [] l0 = true := by rw [HE.out, List.drop_eq_nil_of_le (by omega), okFrom]
      have HX := Lib.hid he; clear he
      go_wp2_with fail
      go_ret
      exact ⟨by rw [HX.out]; rfl, HB.out⟩

theorem hOK_long (A0 : Option Addr) (c0 : Nat) (l0 : List (S77)) (w : World) (hlen : 10 < l0.length) :
    Calls Try.prog 27 #[.slice A0 l0.length c0] w fun e w' => e = .returned (.bool false) ∧ Below w.heap.size w w' := by
  have hle : (10 : Int) < (l0.length : Int) := by omega
  go_enter Try.func27, Try.ntmps27
  go_wp2_with fail
  go_ret
  exact ⟨rfl, Below.refl _ _⟩

theorem impl_HistoryOK.calls (A0 : Option Addr) (c0 : Nat) (l0 : List (S77)) (r : Bool) (w : World) (hr0 : Kd.C k77 w A0 l0.length l0) (hc0 : l0.length ≤ c0) (h : impl_HistoryOK.f l0 = some r) :
    Calls Try.prog 27 #[.slice A0 l0.length c0] w fun e w' => e = .returned (.bool r) ∧ Below w.heap.size w w' := by
  obtain rfl := Option.some.inj h
  by_cases hl : l0.length > 10
  · have e : hOK l0 = false := by unfold hOK; rw [if_pos hl]
    rw [e]
    exact hOK_long A0 c0 l0 w hl
  · have e : hOK l0 = okFrom [] l0 := by unfold hOK; rw [if_neg hl]
    rw [e]
    exact hOK_main A0 c0 l0 w hr0 hc0 (by omega)
end Go.Proofs.Ythkngfieabdelaa.PFnExactHistoryOK
