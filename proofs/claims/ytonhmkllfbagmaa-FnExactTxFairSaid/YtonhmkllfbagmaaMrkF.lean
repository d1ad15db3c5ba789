/- Work that is marked: only blocks between two bounds are written, the rows' heads stay. -/
import Derived.Test.YtonhmkllfbagmaaPFnExactTxFairx0
import Derived.Lib.Hide
namespace Go.Proofs.Ytonhmkllfbagmaa.PFnExactTxFair
open Go.RowKit Go.Proofs.YtonhmkllfbagmaaW.PrintWords Go.Proofs.YtonhmkllfbagmaaW.PrintLast Go.Proofs.YtonhmkllfbagmaaW.PrintMore
set_option linter.unusedSimpArgs false
set_option linter.unusedVariables false

/-- Between lo and hi only cells of operations (type 63) are turned, and none comes or goes. -/
def Inv (lo hi : Nat) (w0 w : World) : Prop := Below lo w0 w ∧ w0.heap.size ≤ w.heap.size ∧ (∀ b, b < w0.heap.size → hi ≤ b → w.heap[b]? = w0.heap[b]?) ∧
  (∀ (b : Nat) (cs : Array Value) (t : TypeId), w0.heap[b]? = some (Obj.cells cs t (0, 0)) → ∃ cs' : Array Value, w.heap[b]? = some (Obj.cells cs' t (0, 0)) ∧ cs'.size = cs.size ∧ (t ≠ 63 → cs' = cs))
theorem Inv.refl (lo hi : Nat) (w : World) (h : lo ≤ w.heap.size) : Inv lo hi w w := ⟨(Below.refl w.heap.size w).mono h, Nat.le_refl _, fun _ _ _ => rfl, fun b cs t h => ⟨cs, h, rfl, fun _ => rfl⟩⟩
theorem Inv.set {lo hi : Nat} {w0 w : World} (h : Inv lo hi w0 w) {g : Nat} {cs0 : Array Value} (h0 : w0.heap[g]? = some (.cells cs0 63 (0, 0))) (hl : lo ≤ g) (hh : g < hi) (o : Nat) (v : Value) : Inv lo hi w0 (w.setCell ⟨g, o, none⟩ v) := by
  refine ⟨h.1.setCell (p := ⟨g, o, none⟩) hl v, by rw [World.size_setCell]; exact h.2.1, fun b hb hb2 => ?_, fun b cs t hb => ?_⟩
  · rw [heap_setCell_other _ _ _ _ (by show b ≠ g; omega)]; exact h.2.2.1 b hb hb2
  · by_cases e : b = g
    · subst e
      rw [h0] at hb
      injection hb with hb
      injection hb with e1 e2 e3
      subst e1; subst e2
      obtain ⟨cs', h1, h2, h3⟩ := h.2.2.2 b cs0 63 h0
      exact ⟨_, heap_setCell_same w b o cs' 63 v h1, by simp [h2], fun hne => absurd rfl hne⟩
    · rw [heap_setCell_other _ _ _ _ (by show b ≠ g; exact e)]; exact h.2.2.2 b cs t hb
theorem Inv.has {lo hi : Nat} {w0 w : World} (h : Inv lo hi w0 w) {g : Nat} {cs0 : Array Value} (h0 : w0.heap[g]? = some (.cells cs0 63 (0, 0))) (o : Nat) (ho : o < cs0.size) : ∃ u, w.cell? ⟨g, o, none⟩ = some u := by
  obtain ⟨cs', h1, h2, _⟩ := h.2.2.2 g cs0 63 h0
  have hz : o < cs'.size := by omega
  exact ⟨cs'[o], by rw [cell_of_row _ _ o _ 63 (0, 0) h1]; simp [hz]⟩
theorem Inv.head {lo hi : Nat} {w0 w : World} (h : Inv lo hi w0 w) {g t : Nat} {cs0 : Array Value} (h0 : w0.heap[g]? = some (.cells cs0 t (0, 0))) (ht : t ≠ 63) (o : Nat) : w.cell? ⟨g, o, none⟩ = w0.cell? ⟨g, o, none⟩ := by
  obtain ⟨cs', h1, _, h3⟩ := h.2.2.2 g cs0 t h0
  rw [cell_of_row _ _ o _ t (0, 0) h1, cell_of_row _ _ o _ t (0, 0) h0, h3 ht]
theorem Inv.thaw {lo hi : Nat} {w0 w : World} (h : Inv lo hi w0 w) {g : Nat} {cs0 : Array Value} (h0 : w0.heap[g]? = some (.cells cs0 63 (0, 0))) (o : Nat) : w.frozen? ⟨g, o, none⟩ = false := by
  obtain ⟨cs', h1, _, _⟩ := h.2.2.2 g cs0 63 h0
  simp [World.frozen?, h1]
/-- A row of operations, as its head and its block tell it. -/
theorem ops_form {w : World} {lo hi : Nat} {v : Value} {xs : List S63} (h : Kd.R k63 63 w lo (fun b => lo ≤ b ∧ b < hi) v xs) : ∃ A c, v = .slice A xs.length c ∧ xs.length ≤ c ∧ (0 < xs.length → ∃ g cs, A = some ⟨g, 0, none⟩ ∧ lo ≤ g ∧ g < hi ∧ w.heap[g]? = some (.cells cs 63 (0, 0)) ∧ 3 * xs.length ≤ cs.size) := by
  obtain ⟨A, c, rfl, hc, hC⟩ := Kd.R_reads h
  refine ⟨A, c, rfl, hc, fun hp => ?_⟩
  obtain ⟨g, cap, ev, hg, hgl, cs, hcs⟩ := Kd.R_form h hp
  injection ev with e1 e2 e3
  subst e1
  refine ⟨g, cs, rfl, hg, (h.1 g rfl).2, hcs, ?_⟩
  obtain ⟨ad, eA, _, _, h3⟩ := at_T63 hC ((xs.length : Int) - 1) (by omega) (by omega)
  obtain rfl := Option.some.inj eA
  rw [add_plain] at h3
  have h4 := cell_of_row w g ((((xs.length : Int) - 1).toNat * 3) + 2) cs 63 (0, 0) hcs
  have h5 : ((((xs.length : Int) - 1).toNat * 3) + 2) < cs.size := by
    rcases Nat.lt_or_ge ((((xs.length : Int) - 1).toNat * 3) + 2) cs.size with q | q
    · exact q
    · rw [Array.getElem?_eq_none q] at h4
      rw [h4] at h3
      cases h3
  omega

@[local go_sem] theorem cell_set_off {w : World} {b o o' : Nat} {v : Value} (h : o ≠ o') : (w.setCell ⟨b, o, none⟩ v).cell? ⟨b, o', none⟩ = w.cell? ⟨b, o', none⟩ := World.cell?_setCell_other _ _ _ _ (by simp [h])
@[local go_sem] theorem frozen_set {w : World} {a c : Addr} {v : Value} : (w.setCell a v).frozen? c = w.frozen? c := World.frozen?_setCell _ _ _ _
set_option maxHeartbeats 2000000 in
set_option maxRecDepth 100000 in
theorem markOpsC (lo hi : Nat) (w0 w : World) (v : Value) (xs : List S63) (k : Int) (h : Kd.R k63 63 w0 lo (fun b => lo ≤ b ∧ b < hi) v xs) (hI : Inv lo hi w0 w) (hk0 : 0 ≤ k) (hk : k ≤ 4611686018427387904) (hl : xs.length ≤ 1048576) :
    Calls Try.prog 73 #[v, .int .i64 k] w fun e w' => e = .returned (.int .i64 (k + 3 * (xs.length : Int))) ∧ Inv lo hi w0 w' := by
  obtain ⟨A, c, rfl, hc, hf⟩ := ops_form h
  have HF := Lib.hid hf
  have HI := Lib.hid hI
  clear hf hI h
  go_enter Try.func73, Try.ntmps73
  go_wp2_with fail
  go_loopw [1, 5] (fun kv i wr => ∃ x : Int, 0 ≤ x ∧ x ≤ (xs.length : Int) ∧ kv = .int .i64 (k + 3 * x) ∧ i = .int .i64 x ∧ Inv lo hi w0 wr) (fun _ i _ => xs.length - (intOf i).toNat)
  case atStart => exact ⟨0, Int.le_refl _, by omega, by simp, rfl, HI.out⟩
  case round =>
    clear HI
    obtain ⟨x, hx0, hxn, rfl, rfl, hI⟩ := hrel
    have HI := Lib.hid hI
    clear hI
    by_cases hlt : x < (xs.length : Int)
    · obtain ⟨g, cs, rfl, hg1, hg2, hcs, hsz⟩ := HF.out (by omega)
      obtain ⟨u0, c0⟩ := HI.out.has hcs (x.toNat * 3) (by omega)
      obtain ⟨u1, c1⟩ := HI.out.has hcs (x.toNat * 3 + 1) (by omega)
      obtain ⟨u2, c2⟩ := HI.out.has hcs (x.toNat * 3 + 2) (by omega)
      have f0 := HI.out.thaw hcs (x.toNat * 3)
      have f1 := HI.out.thaw hcs (x.toNat * 3 + 1)
      have f2 := HI.out.thaw hcs (x.toNat * 3 + 2)
      have HS := Lib.hid (((HI.out.set hcs hg1 hg2 (x.toNat * 3) (.int .i64 (k + 3 * x))).set hcs hg1 hg2 (x.toNat * 3 + 1) (.int .i64 (k + 3 * x + 1))).set hcs hg1 hg2 (x.toNat * 3 + 2) (.int .i64 (k + 3 * x + 1 + 1)))
      have HC := Lib.hid hcs
      clear hcs
      have p0 := eq_true hx0
      have p1 := eq_true hlt
      go_wp2_with fail
      go_roundw
      case measure => simp [intOf]; omega
      case rel => exact ⟨x + 1, by omega, by omega, by rw [show k + 3 * x + 1 + 1 + 1 = k + 3 * (x + 1) by omega], rfl, HS.out⟩
    · have hx2 : x = (xs.length : Int) := by omega
      go_wp2_with fail
      go_ret
      exact ⟨by first | rfl | rw [hx2], HI.out⟩
/-- A row of rows, at an element: its head stands in the world that was marked, too. -/
theorem rows_at {α : Type} {e : Nat} {d : Kd α} {E : Nat} {w0 w : World} {lo hi : Nat} {A : Option Addr} {n c : Nat} {xs : List (List α)} (hR : Kd.R (Kd.slice e d) E w0 lo (fun b => lo ≤ b ∧ b < hi) (.slice A n c) xs) (hn : xs.length = n) (hI : Inv lo hi w0 w) (hE : E ≠ 63) (x : Int) (hx0 : 0 ≤ x) (hx : x < (xs.length : Int)) :
    ∃ ad v, A = some ad ∧ w.cell? (ad.add x.toNat) = some v ∧ d.R e w0 lo (fun b => lo ≤ b ∧ b < hi) v (xs.getD x.toNat []) := by
  obtain ⟨g, cap, ev, hg, hgl, cs, hcs⟩ := Kd.R_form hR (by omega)
  injection ev with e1 e2 e3
  subst e1
  obtain ⟨cc, hcl, hM, hcell⟩ := Kd.R_get hR [] x hx0 (by omega)
  obtain ⟨v, rfl, hin⟩ := hM
  have h1 := hcell 0 v rfl
  rw [show x.toNat * (Kd.slice e d).sz + 0 = x.toNat by show x.toNat * 1 + 0 = x.toNat; omega] at h1
  refine ⟨⟨g, 0, none⟩, v, rfl, ?_, Kd.R_mono hin (fun k hk => hk.1)⟩
  rw [add_plain] at h1 ⊢
  rw [hI.head hcs hE]
  exact h1
theorem rows_form {α : Type} {d : Kd α} {E : Nat} {w0 : World} {base : Nat} {ok : Nat → Prop} {v : Value} {xs : List α} (hR : d.R E w0 base ok v xs) : ∃ A c, v = .slice A xs.length c ∧ xs.length ≤ c := by
  obtain ⟨A, c, rfl, hc, _⟩ := Kd.R_reads hR
  exact ⟨A, c, rfl, hc⟩
set_option maxHeartbeats 2000000 in
set_option maxRecDepth 100000 in
theorem markSSC (lo hi : Nat) (w0 w : World) (v : Value) (xs : List (List S63)) (k : Int) (h : Kd.R (Kd.slice 63 k63) 61 w0 lo (fun b => lo ≤ b ∧ b < hi) v xs) (hI : Inv lo hi w0 w) (hk0 : 0 ≤ k) (hk : k ≤ 4611686018427387904 - 3145728 * (xs.length : Int)) (hl : xs.length ≤ 1048576) (hi1 : ∀ y ∈ xs, y.length ≤ 1048576) :
    Calls Try.prog 55 #[v, .int .i64 k] w fun e w' => (∃ r : Int, e = .returned (.int .i64 r) ∧ k ≤ r ∧ r ≤ k + 3145728 * (xs.length : Int)) ∧ Inv lo hi w0 w' := by
  obtain ⟨A, c, rfl, hc⟩ := rows_form h
  have HR := Lib.hid h
  have HI := Lib.hid hI
  clear h hI
  go_enter Try.func55, Try.ntmps55
  go_wp2_with fail
  go_loopw [1, 5] (fun kv i wr => ∃ x r : Int, 0 ≤ x ∧ x ≤ (xs.length : Int) ∧ kv = .int .i64 r ∧ k ≤ r ∧ r ≤ k + 3145728 * x ∧ i = .int .i64 x ∧ Inv lo hi w0 wr) (fun _ i _ => xs.length - (intOf i).toNat)
  case atStart => exact ⟨0, k, Int.le_refl _, by omega, rfl, Int.le_refl _, by omega, rfl, HI.out⟩
  case round =>
    clear HI
    obtain ⟨x, r, hx0, hxn, rfl, hr1, hr2, rfl, hI⟩ := hrel
    have HI := Lib.hid hI
    clear hI
    by_cases hlt : x < (xs.length : Int)
    · obtain ⟨ad, u, rfl, g0, hin⟩ := rows_at HR.out rfl HI.out (by decide) x hx0 hlt
      have hlx : (xs.getD x.toNat []).length ≤ 1048576 := by
        have hh : x.toNat < xs.length := by omega
        rw [List.getD_eq_getElem?_getD, List.getElem?_eq_getElem hh]
        exact hi1 _ (List.getElem_mem hh)
      obtain ⟨t, ht⟩ : ∃ t, xs.getD x.toNat [] = t := ⟨_, rfl⟩
      rw [ht] at hin hlx
      clear ht
      have HIN := Lib.hid hin
      clear hin
      have p0 := eq_true hx0
      have p1 := eq_true hlt
      go_wp2_with (go_at_call 73; refine (markOpsC lo hi w0 _ u t r HIN.out HI.out (by omega) (by omega) hlx).mono ?_; rintro e w1 ⟨rfl, hI1⟩)
      have HI1 := Lib.hid hI1
      clear hI1
      go_roundw
      case measure => simp [intOf]; omega
      case rel => exact ⟨x + 1, r + 3 * (t.length : Int), by omega, by omega, rfl, by omega, by omega, rfl, HI1.out⟩
    · have hx2 : x = (xs.length : Int) := by omega
      go_wp2_with fail
      go_ret
      exact ⟨⟨r, rfl, hr1, by omega⟩, HI.out⟩
set_option maxHeartbeats 2000000 in
set_option maxRecDepth 100000 in
theorem markSSSC (lo hi : Nat) (w0 w : World) (v : Value) (xs : List (List (List S63))) (k : Int) (h : Kd.R (Kd.slice 61 (Kd.slice 63 k63)) 54 w0 lo (fun b => lo ≤ b ∧ b < hi) v xs) (hI : Inv lo hi w0 w) (hk0 : 0 ≤ k) (hk : k ≤ 1099511627776) (hl : xs.length ≤ 1048576) (hi1 : ∀ y ∈ xs, y.length ≤ 1048576 ∧ ∀ z ∈ y, z.length ≤ 1048576) :
    Calls Try.prog 37 #[v, .int .i64 k] w fun e w' => (∃ r : Int, e = .returned (.int .i64 r) ∧ k ≤ r ∧ r ≤ k + 3298534883328 * (xs.length : Int)) ∧ Inv lo hi w0 w' := by
  obtain ⟨A, c, rfl, hc⟩ := rows_form h
  have HR := Lib.hid h
  have HI := Lib.hid hI
  clear h hI
  go_enter Try.func37, Try.ntmps37
  go_wp2_with fail
  go_loopw [1, 5] (fun kv i wr => ∃ x r : Int, 0 ≤ x ∧ x ≤ (xs.length : Int) ∧ kv = .int .i64 r ∧ k ≤ r ∧ r ≤ k + 3298534883328 * x ∧ i = .int .i64 x ∧ Inv lo hi w0 wr) (fun _ i _ => xs.length - (intOf i).toNat)
  case atStart => exact ⟨0, k, Int.le_refl _, by omega, rfl, Int.le_refl _, by omega, rfl, HI.out⟩
  case round =>
    clear HI
    obtain ⟨x, r, hx0, hxn, rfl, hr1, hr2, rfl, hI⟩ := hrel
    have HI := Lib.hid hI
    clear hI
    by_cases hlt : x < (xs.length : Int)
    · obtain ⟨ad, u, rfl, g0, hin⟩ := rows_at HR.out rfl HI.out (by decide) x hx0 hlt
      have hlx : (xs.getD x.toNat []).length ≤ 1048576 ∧ ∀ z ∈ (xs.getD x.toNat []), z.length ≤ 1048576 := by
        have hh : x.toNat < xs.length := by omega
        rw [List.getD_eq_getElem?_getD, List.getElem?_eq_getElem hh]
        exact hi1 _ (List.getElem_mem hh)
      obtain ⟨t, ht⟩ : ∃ t, xs.getD x.toNat [] = t := ⟨_, rfl⟩
      rw [ht] at hin hlx
      clear ht
      have HIN := Lib.hid hin
      have HLX := Lib.hid hlx.2
      have hlt1 := hlx.1
      clear hin hlx
      have p0 := eq_true hx0
      have p1 := eq_true hlt
      go_wp2_with (go_at_call 55; refine (markSSC lo hi w0 _ u t r HIN.out HI.out (by omega) (by omega) hlt1 HLX.out).mono ?_; rintro e w1 ⟨⟨r1, rfl, hr3, hr4⟩, hI1⟩)
      have HI1 := Lib.hid hI1
      clear hI1
      go_roundw
      case measure => simp [intOf]; omega
      case rel => exact ⟨x + 1, r1, by omega, by omega, rfl, by omega, by omega, rfl, HI1.out⟩
    · have hx2 : x = (xs.length : Int) := by omega
      go_wp2_with fail
      go_ret
      exact ⟨⟨r, rfl, hr1, by omega⟩, HI.out⟩
theorem Inv.kept {lo hi : Nat} {w0 w : World} (h : Inv lo hi w0 w) : Kept w0 w (fun b => lo ≤ b ∧ b < hi) := by
  refine ⟨h.2.1, fun i hi1 hn => ?_⟩
  by_cases q : i < lo
  · exact h.1.block i q
  · exact h.2.2.1 i hi1 (by omega)
theorem Inv.alloc {lo hi : Nat} {w0 w : World} (h : Inv lo hi w0 w) (hlo : lo ≤ w0.heap.size) (o : Obj) : Inv lo hi w0 (w.alloc o) := by
  have hz : ∀ b, b < w.heap.size → (w.alloc o).heap[b]? = w.heap[b]? := fun b hb => Below.heap_alloc w o b hb
  refine ⟨h.1.alloc (Nat.le_trans hlo h.2.1) o, Nat.le_trans h.2.1 (by simp), fun b hb hb2 => ?_, fun b cs t hb => ?_⟩
  · rw [hz b (Nat.lt_of_lt_of_le hb h.2.1)]; exact h.2.2.1 b hb hb2
  · have hlt : b < w0.heap.size := by
      rcases Nat.lt_or_ge b w0.heap.size with q | q
      · exact q
      · rw [Array.getElem?_eq_none q] at hb; cases hb
    rw [hz b (Nat.lt_of_lt_of_le hlt h.2.1)]
    exact h.2.2.2 b cs t hb
end Go.Proofs.Ytonhmkllfbagmaa.PFnExactTxFair
