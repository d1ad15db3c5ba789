/- Floats: laws.sameFloat and its kin, walked. -/
import Derived.Test.YtjldnehlcplccaaFlo
import Derived.Lib.Hide
namespace Go.Proofs.Ytjldnehlcplccaa.Flo
open Go.RowKit Go.Proofs.YtjldnehlcplccaaW.PrintWords Go.Proofs.YtjldnehlcplccaaW.PrintLast Go.Proofs.YtjldnehlcplccaaW.PrintMore
open Ieee
set_option linter.unusedSimpArgs false
set_option linter.unusedVariables false

theorem order_self (d : Datum) (h : ∀ s f, d ≠ .nan s f) : d.order d = some .eq := by
  cases d with
  | nan s f => exact absurd rfl (h s f)
  | infinity s => simp [Datum.order]
  | number s m i => simp [Datum.order]

set_option maxHeartbeats 1000000 in
theorem sameFloat_true (a b : Nat) (w : World) (h : cd a = cd b) :
    Calls Try.prog 30 #[.float .f64 a, .float .f64 b] w fun e w' => e = .returned (.bool true) ∧ ∃ n, w' = w.drewN n := by
  have oaa : FloatKind.f64.format.order a a = (cd a).order (cd a) := order_cd a a
  have obb : FloatKind.f64.format.order b b = (cd a).order (cd a) := by rw [h]; exact order_cd b b
  have oab : FloatKind.f64.format.order a b = (cd a).order (cd a) := (order_cd a b).trans (by rw [← h])
  rcases hn : (cd a).isNaN with _ | _
  · have hs : (cd a).order (cd a) = some .eq := order_self _ (fun s f e => by rw [e] at hn; exact absurd hn (by simp [Datum.isNaN]))
    rw [hs] at oaa obb oab
    have oz : FloatKind.f64.format.order b 0 = FloatKind.f64.format.order a 0 := by rw [order_cd, order_cd, h]
    rcases hz : (FloatKind.f64.format.order a 0 == some .eq) with _ | _
    · have hz2 : (FloatKind.f64.format.order b 0 == some .eq) = false := by rw [oz]; exact hz
      go_enter Try.func30, Try.ntmps30
      go_wp2_with fail
      go_ret
      exact ⟨rfl, 0, rfl⟩
    · have hz2 : (FloatKind.f64.format.order b 0 == some .eq) = true := by rw [oz]; exact hz
      go_enter Try.func30, Try.ntmps30
      go_wp2_with (refine wp_float _ rfl _ (by first | exact .inl rfl | exact .inr (.inl rfl) | exact .inr (.inr (.inl rfl)) | exact .inr (.inr (.inr rfl))) _ _ _ _ rfl _ _ rfl rfl ?_; intro r n hr)
      go_ret
      rename_i r1 n1 hr1
      refine ⟨?_, _, rfl⟩
      rw [order_cd, order_cd, hr, hr1, h]
      simp
  · have hs : (cd a).order (cd a) = none := by
      cases hd : cd a with
      | nan s f => rfl
      | infinity s => rw [hd] at hn; exact absurd hn (by simp [Datum.isNaN])
      | number s m i => rw [hd] at hn; exact absurd hn (by simp [Datum.isNaN])
    rw [hs] at oaa obb oab
    go_enter Try.func30, Try.ntmps30
    go_wp2_with fail
    go_ret
    exact ⟨rfl, 0, rfl⟩

@[local go_sem] theorem run_store_float {P : Program} {w : World} (a : Addr) (m : Mode) (k : FloatKind) (b : Nat) : (store a (.float k b) m).run P w = stored P w a (.float k b) m := run_store P w a _ m rfl
abbrev fl : Kd Nat := Kd.scalar (Value.float .f64) (fun _ => rfl)
abbrev il : Kd Int := Kd.scalar (Value.int .i64) (fun _ => rfl)
def Rd {α : Type} (d : Kd α) (w : World) (v : Value) (xs : List α) : Prop := ∃ A c, v = .slice A xs.length c ∧ xs.length ≤ c ∧ d.C w A xs.length xs
theorem Rd.below {α : Type} {d : Kd α} {w w1 : World} {v : Value} {xs : List α} (h : Rd d w v xs) (hb : Below w.heap.size w w1) : Rd d w1 v xs := by
  obtain ⟨A, c, e, hc, hr⟩ := h
  exact ⟨A, c, e, hc, Kd.C_below hr hb⟩
theorem Rd.of {α : Type} {d : Kd α} {e : Nat} {w : World} {base : Nat} {ok : Nat → Prop} {v : Value} {xs : List α} (h : d.R e w base ok v xs) : Rd d w v xs := Kd.R_reads h
theorem at_scalar {α : Type} {enc : α → Value} {h1 : ∀ x, (enc x).oneCell' = true} {w : World} {A : Option Addr} {n : Nat} {xs : List α} (d : α) (h : (Kd.scalar enc h1).C w A n xs) (i : Int) (h0 : 0 ≤ i) (hi : i < n) :
    ∃ ad, A = some ad ∧ w.cell? (ad.add i.toNat) = some (enc (rdOf d xs i)) := ReadsOf.at_ (Kd.reads_of_C (enc := enc) (d := d) (h1 := h1) h) i h0 hi
theorem info23 : (Try.prog.info? 23).map (fun i => (i.zero, i.size, i.bytes)) = some (some (.float .f64 0), 1, 8) := by kernel_rfl
theorem info3 : (Try.prog.info? 3).map (fun i => (i.zero, i.size, i.bytes)) = some (some (.int .i64 0), 1, 8) := by kernel_rfl
theorem rdOf_get {α : Type} (d : α) (xs : List α) (i : Int) (h0 : 0 ≤ i) (hi : i < xs.length) : xs[i.toNat]? = some (rdOf d xs i) := by
  have hl : i.toNat < xs.length := by omega
  unfold rdOf
  simp [hl, h0, hi]
def part {α : Type} (z : α) (xs : List α) (k : Nat) : List α := xs.take k ++ List.replicate (xs.length - k) z
theorem part_len {α : Type} (z : α) (xs : List α) (k : Nat) (h : k ≤ xs.length) : (part z xs k).length = xs.length := by simp [part]; omega
theorem part_get {α : Type} (z : α) (xs : List α) (k j : Nat) (h : k ≤ xs.length) : (part z xs k)[j]? = if j < k then xs[j]? else if j < xs.length then some z else none := by
  have hm : (xs.take k).length = k := by simp; omega
  unfold part
  rw [List.getElem?_append, hm, List.getElem?_take, List.getElem?_replicate]
  by_cases h1 : j < k
  · simp [h1]
  · rw [if_neg h1, if_neg h1]
    by_cases h2 : j < xs.length
    · rw [if_pos (by omega), if_pos h2]
    · rw [if_neg (by omega), if_neg h2]
theorem part_set {α : Type} (z : α) (xs : List α) (k : Nat) (x : α) (h : xs[k]? = some x) : (part z xs k).set k x = part z xs (k + 1) := by
  obtain ⟨hl, hx⟩ := List.getElem?_eq_some_iff.1 h
  have h1 := part_len z xs k (by omega)
  apply List.ext_getElem?
  intro j
  rw [List.getElem?_set, part_get z xs k j (by omega), part_get z xs (k + 1) j (by omega)]
  by_cases hj : k = j
  · subst hj
    rw [if_pos rfl, if_pos (by omega), if_pos (by omega), h]
  · rw [if_neg hj]
    by_cases h2 : j < k
    · rw [if_pos h2, if_pos (by omega)]
    · rw [if_neg h2, if_neg (show ¬ j < k + 1 by omega)]

set_option maxHeartbeats 1000000 in
theorem toF (v : Value) (xs : List Nat) (w : World) (h : Rd fl w v xs) (hl : xs.length ≤ 1048576) :
    Calls Try.prog 10 #[v] w fun e w' => ∃ v1, e = .returned v1 ∧ fl.R 23 w' w.heap.size (fun _ => True) v1 xs ∧ Below w.heap.size w w' := by
  obtain ⟨A, c, rfl, hc, hr⟩ := h
  have HR := Lib.hid hr
  clear hr
  go_enter Try.func10, Try.ntmps10
  go_wp2_with (refine Kd.R_make fl (w0 := w) w.heap.size 23 rfl (N := 7) rfl 22 _ _ rfl (xs.length : Int) rfl rfl Try.underlying22 (.float .f64 0) 8 info23 rfl (by decide) (by omega) 0 (ok := fun _ => True) (okp := fun _ => True) rfl (fun _ hk => hk) trivial (by omega) (by omega) (Below.refl _ _) (Nat.le_refl _) ?_; intro v1 w1 hR hB hg1 hg2; clear hg1 hg2)
  have HR1 := Lib.hid hR
  have HB := Lib.hid hB
  clear hR hB
  go_loopw [4] (fun i wr => ∃ x : Int, 0 ≤ x ∧ x ≤ (xs.length : Int) ∧ i = .int .i64 x ∧ fl.R 23 wr w.heap.size (fun _ => True) v1 (part 0 xs x.toNat) ∧ Below w.heap.size w wr) (fun i _ => xs.length - (intOf i).toNat)
  case atStart => exact ⟨0, Int.le_refl _, by omega, rfl, by simpa [part] using HR1.out, HB.out⟩
  case round =>
    clear HR1 HB
    obtain ⟨x, hx0, hxn, rfl, hR, hB⟩ := hrel
    by_cases hlt : x < (xs.length : Int)
    · obtain ⟨ad, eA, g0⟩ := at_scalar 0 HR.out x hx0 hlt
      subst eA
      replace g0 := (hB.cell (World.block_lt_of_cell? w _ g0)).trans g0
      have hpl := part_len 0 xs x.toNat (by omega)
      obtain ⟨g, cap, ev, hg, hg2, hcs⟩ := Kd.R_form hR (by omega)
      clear hcs hg2
      rw [hpl] at ev
      subst ev
      obtain ⟨hcx, hfx⟩ := Kd.R_celln 0 hR x hx0 hlt
      have hput := Kd.R_putg hR x (rdOf 0 xs x)
      rw [part_set 0 xs x.toNat _ (rdOf_get 0 xs x hx0 hlt)] at hput
      have HP := Lib.hid hput.1
      have HB := Lib.hid (below_set hB hg (j := x.toNat) (v := .float .f64 (rdOf 0 xs x)))
      clear hput hR hB
      go_wp2_with (refine store_event (t := 23) (p := 20) (v := ?vo) (w1 := wr.setCell ⟨g, x.toNat, none⟩ (.float .f64 (rdOf 0 xs x))) ?hg ?ho ?hn ?hr ?_; (case ho => rfl); (case hg => rfl); (case hn => rfl); (case hr => first | (go_simp; done) | (go_simp; rfl)); intro w8 hw; subst hw)
      go_roundw
      case measure => simp [intOf]; omega
      case rel => exact ⟨x + 1, by omega, by omega, rfl, by rw [show (x + 1).toNat = x.toNat + 1 by omega]; exact HP.out, HB.out⟩
    · have hR1 : fl.R 23 wr w.heap.size (fun _ => True) v1 xs := by
        have e : part 0 xs x.toNat = xs := by rw [show x.toNat = xs.length by omega]; simp [part]
        rw [e] at hR
        exact hR
      have HP := Lib.hid hR1
      have HB := Lib.hid hB
      clear hR hB hR1
      go_wp2_with fail
      go_ret
      exact ⟨v1, rfl, HP.out, HB.out⟩

def mk {α : Type} (f : Nat → α) (xs : List α) (x : Nat) : List α := (List.range x).map f ++ xs.drop x
theorem mk_len {α : Type} (f : Nat → α) (xs : List α) (x : Nat) (h : x ≤ xs.length) : (mk f xs x).length = xs.length := by simp [mk]; omega
theorem mk_set {α : Type} (f : Nat → α) (xs : List α) (x : Nat) (h : x < xs.length) : (mk f xs x).set x (f x) = mk f xs (x + 1) := by
  unfold mk
  rw [List.set_append_right _ _ (by simp), List.range_succ, List.map_append, List.append_assoc, List.drop_eq_getElem_cons h]
  simp only [List.length_map, List.length_range, Nat.sub_self, List.set_cons_zero, List.map_cons, List.map_nil, List.cons_append, List.nil_append]

set_option maxHeartbeats 2000000 in
set_option maxRecDepth 100000 in
theorem markF (v : Value) (xs : List Nat) (w0 w : World) (base : Nat) (ok : Nat → Prop) (k : Int) (h : fl.R 23 w base ok v xs) (hB : Below base w0 w) (hl : xs.length ≤ 1048576) (hk0 : 0 ≤ k) (hk : k ≤ 1099511627776) :
    Calls Try.prog 13 #[v, .int .i64 k] w fun e w' => e = .returned (.int .i64 (k + xs.length)) ∧ fl.R 23 w' base ok v (mk (fun i : Nat => floatOfInt .f64 (k + (i : Int))) xs xs.length) ∧ Below base w0 w' ∧ Kept w w' (fun b => v.ownBlock = some b) := by
  obtain ⟨A, c, rfl, hc, hr⟩ := Kd.R_reads h
  clear hr
  have HR1 := Lib.hid h
  have HB := Lib.hid hB
  clear h hB
  go_enter Try.func13, Try.ntmps13
  go_wp2_with fail
  go_loopw [1, 5] (fun kv i wr => ∃ x : Int, 0 ≤ x ∧ x ≤ (xs.length : Int) ∧ kv = .int .i64 (k + x) ∧ i = .int .i64 x ∧ fl.R 23 wr base ok (.slice A xs.length c) (mk (fun i : Nat => floatOfInt .f64 (k + (i : Int))) xs x.toNat) ∧ Below base w0 wr ∧ Kept w wr (fun b => (Value.slice A xs.length c).ownBlock = some b)) (fun _ i _ => xs.length - (intOf i).toNat)
  case atStart => exact ⟨0, Int.le_refl _, by omega, by simp, rfl, by simpa [mk] using HR1.out, HB.out, Kept.refl _ _⟩
  case round =>
    clear HR1 HB
    obtain ⟨x, hx0, hxn, rfl, rfl, hR, hB, hK⟩ := hrel
    by_cases hlt : x < (xs.length : Int)
    · have hml := mk_len (fun i : Nat => floatOfInt .f64 (k + (i : Int))) xs x.toNat (by omega)
      obtain ⟨g, cap, ev, hg, hg2, hcs⟩ := Kd.R_form hR (by omega)
      clear hcs
      injection ev with e1 e2 e3
      subst e1; subst e3
      clear e2 hml
      obtain ⟨hcx, hfx⟩ := Kd.R_celln 0 hR x hx0 hlt
      have hput := Kd.R_putg hR x (floatOfInt .f64 (k + x))
      have hset := mk_set (fun i : Nat => floatOfInt .f64 (k + (i : Int))) xs x.toNat (by omega)
      rw [show ((x.toNat : Nat) : Int) = x by omega] at hset
      rw [hset] at hput
      have HP := Lib.hid hput.1
      have HB := Lib.hid (hB.setCell (p := ⟨g, x.toNat, none⟩) hg (.float .f64 (floatOfInt .f64 (k + x))))
      have HK := Lib.hid (hK.setCell (p := ⟨g, x.toNat, none⟩) (.inl rfl) (.float .f64 (floatOfInt .f64 (k + x))))
      clear hput hR hB hK hset
      go_wp2_with fail
      go_roundw
      case measure => simp [intOf]; omega
      case rel => exact ⟨x + 1, by omega, by omega, by first | rfl | (rw [Int.add_assoc]), rfl, by rw [show (x + 1).toNat = x.toNat + 1 by omega]; exact HP.out, HB.out, HK.out⟩
    · have hx : x.toNat = xs.length := by omega
      have hx2 : x = (xs.length : Int) := by omega
      rw [hx] at hR
      have HP := Lib.hid hR
      have HB := Lib.hid hB
      have HK := Lib.hid hK
      clear hR hB hK
      go_wp2_with fail
      go_ret
      exact ⟨by first | rfl | rw [hx2], HP.out, HB.out, HK.out⟩

theorem read_word (neg : Bool) (r : Nat) (h : r ≤ double.infRung) : ∀ s f, one (double.read (double.word neg r)) ≠ .nan s f := by
  have hs : double.signWeight = 9223372036854775808 := rfl
  have hi : double.infRung = 9218868437227405312 := rfl
  have hm : double.word neg r % double.signWeight = r := by
    unfold Format.word
    rw [hs]
    rw [hi] at h
    split <;> omega
  unfold Format.read
  simp only [hm]
  intro s f
  split
  · simp [one]
  · split
    · simp [one]
    · rw [if_pos (by omega)]
      simp [one]
theorem cd_int (n : Int) : ∀ s f, cd (floatOfInt .f64 n) ≠ .nan s f := by
  unfold floatOfInt FloatKind.nearest FloatKind.encode Format.write cd
  simp only [FloatKind.format]
  unfold Format.nearest
  dsimp only
  split
  · exact read_word _ _ (Nat.zero_le _)
  · exact read_word _ _ (Nat.min_le_right _ _)

set_option maxHeartbeats 1000000 in
theorem heldF (v : Value) (xs : List Nat) (w : World) (k : Int) (h : Rd fl w v xs) (hv : ∀ i : Nat, i < xs.length → xs[i]? = some (floatOfInt .f64 (k + i))) (hl : xs.length ≤ 1048576) (hk0 : 0 ≤ k) (hk : k ≤ 1099511627776) :
    Calls Try.prog 14 #[v, .int .i64 k] w fun e w' => e = .returned (.int .i64 (k + xs.length)) ∧ ∃ n, w' = w.drewN n := by
  obtain ⟨A, c, rfl, hc, hr⟩ := h
  have HR := Lib.hid hr
  clear hr
  go_enter Try.func14, Try.ntmps14
  go_wp2_with fail
  go_loopw [1, 5] (fun kv i wr => ∃ x : Int, 0 ≤ x ∧ x ≤ (xs.length : Int) ∧ kv = .int .i64 (k + x) ∧ i = .int .i64 x ∧ ∃ n, wr = w.drewN n) (fun _ i _ => xs.length - (intOf i).toNat)
  case atStart => exact ⟨0, Int.le_refl _, by omega, by simp, rfl, 0, rfl⟩
  case round =>
    obtain ⟨x, hx0, hxn, rfl, rfl, n0, rfl⟩ := hrel
    by_cases hlt : x < (xs.length : Int)
    · obtain ⟨ad, eA, g0⟩ := at_scalar 0 HR.out x hx0 hlt
      subst eA
      have hx1 : rdOf 0 xs x = floatOfInt .f64 (k + x) := by
        have h1 := rdOf_get 0 xs x hx0 hlt
        rw [hv x.toNat (by omega)] at h1
        rw [show ((x.toNat : Nat) : Int) = x by omega] at h1
        exact (Option.some.inj h1).symm
      rw [hx1] at g0
      have hord : FloatKind.f64.format.order (floatOfInt .f64 (k + x)) (floatOfInt .f64 (k + x)) = some .eq := by
        rw [order_cd]; exact order_self _ (cd_int _)
      clear hx1
      go_wp2_with fail
      go_roundw
      case measure => simp [intOf]; omega
      case rel => exact ⟨x + 1, by omega, by omega, by first | rfl | (rw [Int.add_assoc]), rfl, _, rfl⟩
    · have hx2 : x = (xs.length : Int) := by omega
      go_wp2_with fail
      go_ret
      exact ⟨by first | rfl | rw [hx2], _, rfl⟩

set_option maxHeartbeats 1000000 in
theorem eqF (va vb : Value) (xs ys : List Nat) (w : World) (ha : Rd fl w va xs) (hb : Rd fl w vb ys) (he : xs.map cd = ys.map cd) (hl : xs.length ≤ 1048576) :
    Calls Try.prog 12 #[va, vb] w fun e w' => e = .returned (.bool true) ∧ ∃ n, w' = w.drewN n := by
  obtain ⟨A, c, rfl, hc, hr⟩ := ha
  obtain ⟨B, d, rfl, hd, hs⟩ := hb
  have HR := Lib.hid hr
  have HS := Lib.hid hs
  clear hr hs
  have hlen : xs.length = ys.length := by have := congrArg List.length he; simpa using this
  go_enter Try.func12, Try.ntmps12
  go_wp2_with fail
  go_loopw [5] (fun i wr => ∃ x : Int, 0 ≤ x ∧ x ≤ (xs.length : Int) ∧ i = .int .i64 x ∧ ∃ n, wr = w.drewN n) (fun i _ => xs.length - (intOf i).toNat)
  case atStart => exact ⟨0, Int.le_refl _, by omega, rfl, 0, rfl⟩
  case round =>
    obtain ⟨x, hx0, hxn, rfl, n0, rfl⟩ := hrel
    by_cases hlt : x < (xs.length : Int)
    · obtain ⟨ad, eA, g0⟩ := at_scalar 0 HR.out x hx0 hlt
      subst eA
      have hlt2 : x < (ys.length : Int) := by omega
      obtain ⟨ad2, eB, g1⟩ := at_scalar 0 HS.out x hx0 hlt2
      subst eB
      have hcc : cd (rdOf 0 xs x) = cd (rdOf 0 ys x) := by
        have h1 := congrArg (fun l => l[x.toNat]?) he
        simp only [List.getElem?_map, rdOf_get 0 xs x hx0 hlt, rdOf_get 0 ys x hx0 hlt2, Option.map_some, Option.some.injEq] at h1
        exact h1
      replace g0 : (w.drewN n0).cell? _ = _ := g0
      replace g1 : (w.drewN n0).cell? _ = _ := g1
      obtain ⟨W, hW⟩ : ∃ W, W = w.drewN n0 := ⟨_, rfl⟩
      rw [← hW] at g0 g1 ⊢
      have HW := Lib.hid hW
      clear hW
      go_wp2_with fail
      go_quiet (first | (go_at_call 30; refine Calls.quiet_of (sameFloat_true _ _ _ hcc)))
      go_wp2_with fail
      go_roundw
      case measure => simp [intOf]; omega
      case rel => exact ⟨x + 1, by omega, by omega, rfl, n0 + nq, by rw [HW.out, World.drewN_drewN]⟩
    · skip
      go_wp2_with fail
      go_ret
      exact ⟨rfl, _, rfl⟩
end Go.Proofs.Ytjldnehlcplccaa.Flo
