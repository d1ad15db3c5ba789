/- Transactions: the reference's begin. -/
import Derived.Test.YtonhmkllfbagmaaRunE
namespace Go.Proofs.Ytonhmkllfbagmaa.Tx
open Go.RowKit Go.Proofs.YtonhmkllfbagmaaW.PrintWords Go.Proofs.YtonhmkllfbagmaaW.PrintLast Go.Proofs.YtonhmkllfbagmaaW.PrintMore Go.Proofs.Ytonhmkllfbagmaa.PFnExactTxFair
set_option linter.unusedVariables false
set_option linter.unusedSimpArgs false
theorem fn_int {w : World} {base : Nat} {ok : Nat → Prop} {v : Value} {xs : List Int} (h : (Kd.int .i64).R 3 w base ok v xs) (hn : 0 < xs.length) : ∃ g c, v = .slice (some ⟨g, 0, none⟩) xs.length c ∧ xs.length ≤ c ∧ ok g ∧ base ≤ g ∧ Fn w g 3 xs.length (fun k => .int .i64 (xs.getD k 0)) := by
  obtain ⟨inner, hlen, hs⟩ := Kd.R_own h
  rcases hs with ⟨_, h0⟩ | ⟨g, cap, cur, rfl, hb, hg, hc, hm, hsz, ht⟩
  · omega
  · refine ⟨g, cap, rfl, hc, h.1 g rfl, hb, cur, hg, by rw [hsz]; show xs.length ≤ cap * 1; omega, fun k hk => ?_⟩
    obtain ⟨A, c, e, hl, hC⟩ := Kd.R_reads h
    injection e with e1 e2 e3
    subst e1
    obtain ⟨ad, e4, hcell⟩ := Kd.at_int hC (k : Int) (by omega) (by omega)
    injection e4 with e4
    subst e4
    have h1 := blk_cell hg k
    have h2 : w.cell? ⟨g, k, none⟩ = some (.int .i64 (rd xs (k : Int))) := by
      have e5 : (⟨g, 0, none⟩ : Addr).add ((k : Int)).toNat = ⟨g, k, none⟩ := by
        simp [Addr.add]
        intro hk
        rw [hk]
      rw [e5] at hcell
      exact hcell
    rw [← h1, h2]
    rfl
theorem fn_bool {w : World} {base : Nat} {ok : Nat → Prop} {v : Value} {xs : List Bool} (h : Kd.bool.R 4 w base ok v xs) (hn : 0 < xs.length) : ∃ g c, v = .slice (some ⟨g, 0, none⟩) xs.length c ∧ xs.length ≤ c ∧ ok g ∧ base ≤ g ∧ Fn w g 4 xs.length (fun k => .bool (xs.getD k false)) := by
  obtain ⟨inner, hlen, hs⟩ := Kd.R_own h
  rcases hs with ⟨_, h0⟩ | ⟨g, cap, cur, rfl, hb, hg, hc, hm, hsz, ht⟩
  · omega
  · refine ⟨g, cap, rfl, hc, h.1 g rfl, hb, cur, hg, by rw [hsz]; show xs.length ≤ cap * 1; omega, fun k hk => ?_⟩
    obtain ⟨A, c, e, hl, hC⟩ := Kd.R_reads h
    injection e with e1 e2 e3
    subst e1
    obtain ⟨ad, e4, hcell⟩ := Kd.at_bool hC (k : Int) (by omega) (by omega)
    injection e4 with e4
    subst e4
    have h1 := blk_cell hg k
    have h2 : w.cell? ⟨g, k, none⟩ = some (.bool (rdOf false xs (k : Int))) := by
      have e5 : (⟨g, 0, none⟩ : Addr).add ((k : Int)).toNat = ⟨g, k, none⟩ := by
        simp [Addr.add]
        intro hk
        rw [hk]
      rw [e5] at hcell
      exact hcell
    rw [← h1, h2]
    rfl
/-- The local copy of a try, while it begins. -/
def lRow (S : St) (i : Nat) (st wt : Int) (V V8 V9 : Value) : Nat → Value
  | 0 => .int .i64 (S.tx i)
  | 1 => .int .i64 (S.try_ i)
  | 2 => .bool true
  | 3 => .bool true
  | 4 => .int .i64 0
  | 5 => .int .i64 st
  | 6 => .int .i64 wt
  | 7 => V
  | 8 => V8
  | _ => V9
/-- Where the blocks are behind a begin. -/
def blkB (D : Dyn) (i b7 b8 b9 : Nat) : Ix → Nat
  | .r l => if l = i then b7 else D.blk (.r l)
  | .w l => if l = i then b8 else D.blk (.w l)
  | .k l => if l = i then b9 else D.blk (.k l)
  | j => D.blk j
def dynB (P : Par) (D : Dyn) (i b7 b8 b9 c7 c8 c9 : Nat) : Dyn :=
  { D with blk := blkB D i b7 b8 b9, x7 := up D.x7 i (some ⟨b7, 0, none⟩, P.nc, c7), x8 := up D.x8 i (some ⟨b8, 0, none⟩, P.nc, c8), x9 := up D.x9 i (some ⟨b9, 0, none⟩, P.nc, c9) }
theorem okB {P : Par} {D : Dyn} {S : St} {i b7 b8 b9 : Nat} (j : Ix) (h : okS P (begin_ S i) j) : (okS P S j ∧ blkB D i b7 b8 b9 j = D.blk j ∧ (j ≠ .r i ∧ j ≠ .w i ∧ j ≠ .k i)) ∨ (j = .r i ∧ blkB D i b7 b8 b9 j = b7) ∨ (j = .w i ∧ blkB D i b7 b8 b9 j = b8) ∨ (j = .k i ∧ blkB D i b7 b8 b9 j = b9) := by
  cases j with
  | r l =>
    by_cases e : l = i
    · subst e; exact .inr (.inl ⟨rfl, if_pos rfl⟩)
    · refine .inl ⟨⟨h.1, ?_⟩, if_neg e, ⟨fun hh => e (by injection hh), fun hh => (by cases hh), fun hh => (by cases hh)⟩⟩
      have := h.2
      simp only [begin_, up_ne _ _ _ _ e] at this
      exact this
  | w l =>
    by_cases e : l = i
    · subst e; exact .inr (.inr (.inl ⟨rfl, if_pos rfl⟩))
    · refine .inl ⟨⟨h.1, ?_⟩, if_neg e, ⟨fun hh => (by cases hh), fun hh => e (by injection hh), fun hh => (by cases hh)⟩⟩
      have := h.2
      simp only [begin_, up_ne _ _ _ _ e] at this
      exact this
  | k l =>
    by_cases e : l = i
    · subst e; exact .inr (.inr (.inr ⟨rfl, if_pos rfl⟩))
    · refine .inl ⟨⟨h.1, ?_⟩, if_neg e, ⟨fun hh => (by cases hh), fun hh => (by cases hh), fun hh => e (by injection hh)⟩⟩
      have := h.2
      simp only [begin_, up_ne _ _ _ _ e] at this
      exact this
  | _ => exact .inl ⟨trivial, rfl, ⟨fun hh => (by cases hh), fun hh => (by cases hh), fun hh => (by cases hh)⟩⟩
set_option maxHeartbeats 4000000 in
theorem Run.begun {P : Par} {w0 w E : World} {D : Dyn} {S : St} (h : Run P w0 w D S) (hb : Below w.heap.size w E) (i : Nat) (hi : i < P.n) (b7 b8 b9 c7 c8 c9 : Nat) (hc7 : P.nc ≤ c7) (hc8 : P.nc ≤ c8) (hc9 : P.nc ≤ c9) (h7 : w.heap.size ≤ b7) (h8 : w.heap.size ≤ b8) (h9 : w.heap.size ≤ b9) (n78 : b7 ≠ b8) (n79 : b7 ≠ b9) (n89 : b8 ≠ b9)
    (f7 : Fn E b7 3 P.nc (fun _ => .int .i64 (-1))) (f8 : Fn E b8 4 P.nc (fun _ => .bool false)) (f9 : Fn E b9 3 P.nc (fun _ => .int .i64 0)) :
    Run P w0 (Tx.st10 E (D.blk .t) i (lRow S i (if S.started i = true then S.start i else S.goes) (if S.started i = true then S.weight i else 0) (.slice (some ⟨b7, 0, none⟩) P.nc c7) (.slice (some ⟨b8, 0, none⟩) P.nc c8) (.slice (some ⟨b9, 0, none⟩) P.nc c9)) 10) (dynB P D i b7 b8 b9 c7 c8 c9) (begin_ S i) := by
  have hE := h.step hb
  have hL := st10_lay hE.lay i hi (lRow S i (if S.started i = true then S.start i else S.goes) (if S.started i = true then S.weight i else 0) (.slice (some ⟨b7, 0, none⟩) P.nc c7) (.slice (some ⟨b8, 0, none⟩) P.nc c8) (.slice (some ⟨b9, 0, none⟩) P.nc c9)) 10 (Nat.le_refl _)
  have hbase := h.below.size
  have hlt : ∀ j, okS P S j → D.blk j < w.heap.size := fun j hj => h.lt j hj
  have ht := hlt .t trivial
  have mv : ∀ b, w.heap.size ≤ b → ∀ t n f, Fn E b t n f → Fn (Tx.st10 E (D.blk .t) i (lRow S i (if S.started i = true then S.start i else S.goes) (if S.started i = true then S.weight i else 0) (.slice (some ⟨b7, 0, none⟩) P.nc c7) (.slice (some ⟨b8, 0, none⟩) P.nc c8) (.slice (some ⟨b9, 0, none⟩) P.nc c9)) 10) b t n f := fun b hb t n f hf => hf.move (st10_far E _ i _ b (by omega) 10)
  refine ⟨⟨?_, ?_, ?_⟩, ?_, ?_, st10_below _ hE.below (h.lay.ge .t trivial) 10⟩
  · intro j hj
    rcases okB (D := D) (b7 := b7) (b8 := b8) (b9 := b9) j hj with ⟨ho, hbl, hno⟩ | ⟨rfl, hbl⟩ | ⟨rfl, hbl⟩ | ⟨rfl, hbl⟩
    · show Fn _ (blkB D i b7 b8 b9 j) _ _ _
      rw [hbl]
      refine (hL.at_ j ho).ext fun m hm => ?_
      obtain ⟨n1, n2, n3⟩ := hno
      cases j with
      | t =>
        show tRow (dynB P D i b7 b8 b9 c7 c8 c9) (begin_ S i) (m / 10) (m % 10) = rowI P D S i _ 10 .t m
        unfold rowI
        by_cases c : m / 10 = i
        · rw [if_pos ⟨rfl, c, by omega⟩, c]
          have hm10 : m % 10 < 10 := by omega
          generalize m % 10 = q at hm10
          match q with
          | 0 | 1 => rfl
          | 2 => show Value.bool (up S.begun i true i) = _; rw [up_self]; rfl
          | 3 => show Value.bool (up S.started i true i) = _; rw [up_self]; rfl
          | 4 => show Value.int .i64 (up S.at_ i 0 i) = _; rw [up_self]; rfl
          | 5 => show Value.int .i64 (up S.start i _ i) = _; rw [up_self]; rfl
          | 6 => show Value.int .i64 (up S.weight i _ i) = _; rw [up_self]; rfl
          | 7 | 8 | 9 => simp only [tRow, dynB, up_self]; rfl
          | q + 10 => omega
        · rw [if_neg (fun hh => c hh.2.1)]
          show tRow (dynB P D i b7 b8 b9 c7 c8 c9) (begin_ S i) (m / 10) (m % 10) = tRow D S (m / 10) (m % 10)
          have hm10 : m % 10 < 10 := by omega
          generalize m % 10 = q at hm10
          match q with
          | 0 | 1 | 2 | 3 | 4 | 5 | 6 | 7 | 8 | 9 => simp only [tRow, dynB, begin_, up_ne _ _ _ _ c]
          | q + 10 => omega
      | g =>
        show gRow P (dynB P D i b7 b8 b9 c7 c8 c9) (begin_ S i) m = gRow P D S m
        match m with
        | 0 | 1 | 2 | 3 | 4 | 5 | 6 | 7 | 8 | 9 | 10 | 11 => rfl
        | m + 12 => rfl
      | r l =>
        have e : l ≠ i := fun e => n1 (by rw [e])
        show Value.int .i64 (up S.read i _ l m) = Value.int .i64 (S.read l m)
        rw [up_ne _ _ _ _ e]
      | w l =>
        have e : l ≠ i := fun e => n2 (by rw [e])
        show Value.bool (up S.wrote i _ l m) = Value.bool (S.wrote l m)
        rw [up_ne _ _ _ _ e]
      | k l =>
        have e : l ≠ i := fun e => n3 (by rw [e])
        show Value.int .i64 (up S.kept i _ l m) = Value.int .i64 (S.kept l m)
        rw [up_ne _ _ _ _ e]
      | _ => rfl
    · show Fn _ (blkB D i b7 b8 b9 (.r i)) 3 P.nc _
      rw [hbl]
      exact (mv b7 h7 _ _ _ f7).ext fun m hm => by show Value.int .i64 (up S.read i (fun _ => -1) i m) = _; rw [up_self]
    · show Fn _ (blkB D i b7 b8 b9 (.w i)) 4 P.nc _
      rw [hbl]
      exact (mv b8 h8 _ _ _ f8).ext fun m hm => by show Value.bool (up S.wrote i (fun _ => false) i m) = _; rw [up_self]
    · show Fn _ (blkB D i b7 b8 b9 (.k i)) 3 P.nc _
      rw [hbl]
      exact (mv b9 h9 _ _ _ f9).ext fun m hm => by show Value.int .i64 (up S.kept i (fun _ => 0) i m) = _; rw [up_self]
  · intro j hj
    show w0.heap.size ≤ blkB D i b7 b8 b9 j
    rcases okB (D := D) (b7 := b7) (b8 := b8) (b9 := b9) j hj with ⟨ho, hbl, hno⟩ | ⟨rfl, hbl⟩ | ⟨rfl, hbl⟩ | ⟨rfl, hbl⟩ <;> rw [hbl]
    · exact h.lay.ge j ho
    all_goals omega
  · intro j l hj hl' e
    have e' : blkB D i b7 b8 b9 j = blkB D i b7 b8 b9 l := e
    rcases okB (D := D) (b7 := b7) (b8 := b8) (b9 := b9) j hj with ⟨ho, hbl, hno⟩ | ⟨rfl, hbl⟩ | ⟨rfl, hbl⟩ | ⟨rfl, hbl⟩ <;> rcases okB (D := D) (b7 := b7) (b8 := b8) (b9 := b9) l hl' with ⟨ho2, hbl2, hno2⟩ | ⟨rfl, hbl2⟩ | ⟨rfl, hbl2⟩ | ⟨rfl, hbl2⟩ <;> first | rfl | (rw [hbl, hbl2] at e'; first | exact h.lay.inj j l ho ho2 e' | (exfalso; first | omega | (have := hlt j ho; omega) | (have := hlt l ho2; omega)))
  · have h1 := Kd.R_below (Kd.R_bound h.ev) hb
    refine Kd.R_mono (Kd.R_step h1 (fun b hb hlt => st10_far E _ i _ b (hb.1 .t trivial) 10)) (fun b hb j hj => ?_)
    have hbl3 := hb.2.2.1
    show b ≠ blkB D i b7 b8 b9 j
    rcases okB (D := D) (b7 := b7) (b8 := b8) (b9 := b9) j hj with ⟨ho, hbl, hno⟩ | ⟨rfl, hbl⟩ | ⟨rfl, hbl⟩ | ⟨rfl, hbl⟩ <;> rw [hbl]
    · exact hb.1 j ho
    all_goals omega
  · intro l hl hbl
    by_cases e : l = i
    · subst e
      refine ⟨c7, c8, c9, hc7, hc8, hc9, ?_, ?_, ?_⟩ <;> simp [dynB, up_self, blkB]
    · have hb2 : S.begun l = true := by
        simp only [begin_, up_ne _ _ _ _ e] at hbl
        exact hbl
      have := h.inn l hl hb2
      simp only [Inn, dynB, up_ne _ _ _ _ e, blkB, if_neg e]
      exact this
theorem Fr.begun {P : Par} {w E : World} {D : Dyn} {S : St} (hb : Below w.heap.size w E) (i b7 b8 b9 c7 c8 c9 : Nat) (h7 : w.heap.size ≤ b7) (h8 : w.heap.size ≤ b8) (h9 : w.heap.size ≤ b9) (v : Nat → Value) : Fr P w (Tx.st10 E (D.blk .t) i v 10) D (dynB P D i b7 b8 b9 c7 c8 c9) S (begin_ S i) := by
  refine ⟨by rw [st10_size]; exact hb.size, fun b hlt ho => ⟨⟨fun j hj => ?_, ho.2⟩, (st10_far E _ i v b (ho.1 .t trivial) 10).trans (hb.block b hlt)⟩⟩
  show b ≠ blkB D i b7 b8 b9 j
  rcases okB (D := D) (b7 := b7) (b8 := b8) (b9 := b9) j hj with ⟨ho2, hbl, hno⟩ | ⟨rfl, hbl⟩ | ⟨rfl, hbl⟩ | ⟨rfl, hbl⟩ <;> rw [hbl]
  · exact ho.1 j ho2
  all_goals omega
theorem emptyI (w : World) (b : Nat) (hb : b ≤ w.heap.size) (h1 : b < w.heap.size) : (Kd.int .i64).R 3 (w.alloc (.cells #[] 3)) b (fun k => b < k) (.slice (some ⟨w.heap.size, 0, none⟩) 0 0) (List.replicate 0 (-1)) :=
  ⟨fun k hk => by have : w.heap.size = k := (by simpa [Value.ownBlock] using hk); omega, [], ⟨by simp, .inr ⟨_, 0, #[], rfl, hb, heap_alloc_new w _, Nat.le_refl _, by decide, by simp, by simp⟩⟩, Reps.none _ _⟩
theorem info4 : (Try.prog.info? 4).map (fun i => (i.zero, i.size, i.bytes)) = some (some (.bool false), 1, 1) := by kernel_rfl
set_option maxHeartbeats 8000000 in
set_option maxRecDepth 100000 in
theorem beginC (P : Par) (w0 w : World) (D : Dyn) (S : St) (i : Nat) (h : Run P w0 w D S) (hi : i < P.n) (hn : P.n ≤ 1000) (hnc : P.nc ≤ 1000) (hnc0 : 0 < P.nc) :
    Calls Try.prog 56 #[.pointer (some ⟨D.blk .g, 0, none⟩), .int .i64 (i : Int)] w fun e w' => e = .returned (.tuple #[]) ∧ ∃ D', D'.blk .g = D.blk .g ∧ Run P w0 w' D' (begin_ S i) ∧ Fr P w w' D D' S (begin_ S i) := by
  have hin := eq_true (show (i : Int) < (P.n : Int) by omega)
  have H := Lib.hid h
  have g6 := h.g 6 (by decide); have g7 := h.g 7 (by decide); have g3 := h.g 3 (by decide)
  have t0 := h.t0 i hi; have t1 := h.t i 1 hi (by decide); have t2 := h.t i 2 hi (by decide); have t3 := h.t i 3 hi (by decide); have t4 := h.t i 4 hi (by decide); have t5 := h.t i 5 hi (by decide); have t6 := h.t i 6 hi (by decide); have t7 := h.t i 7 hi (by decide); have t8 := h.t i 8 hi (by decide); have t9 := h.t i 9 hi (by decide)
  simp only [gRow, tRow] at g6 g7 g3 t0 t1 t2 t3 t4 t5 t6 t7 t8 t9
  have hgl := h.lt .g trivial
  have a7 : ∀ o, (w.alloc o).cell? ⟨D.blk .g, 7, none⟩ = some (.int .i64 S.goes) := fun o => ((below_alloc (Below.refl w.heap.size w) o).cell (p := ⟨D.blk .g, 7, none⟩) hgl).trans g7
  have a3 : ∀ o o', ((w.alloc o).alloc o').cell? ⟨D.blk .g, 3, none⟩ = some (.slice (some ⟨D.blk .c, 0, none⟩) P.nc P.cC) := fun o o' => ((below_alloc (below_alloc (Below.refl w.heap.size w) o) o').cell (p := ⟨D.blk .g, 3, none⟩) hgl).trans g3
  have U := Lib.hid (fun E (hb : Below w.heap.size w E) => Run.begun h hb i hi)
  clear h
  rcases hs : S.started i with _ | _
  · rw [hs] at t3 U
    simp only [Bool.false_eq_true, if_false] at U
    go_enter Try.func56, Try.ntmps56
    go_wp2_with fail
    refine name_w fun E0 hE0 => ?_
    have hF0 : Fn E0 w.heap.size 90 10 (lRow S i (S.goes) (0) (.slice (some ⟨w.heap.size + 1, 0, none⟩) 0 0) (.slice (D.x8 i).1 (D.x8 i).2.1 (D.x8 i).2.2) (.slice (D.x9 i).1 (D.x9 i).2.1 (D.x9 i).2.2)) := by
      rw [hE0]
      refine Fn.below (w := w.alloc (.cells #[.int .i64 (S.tx i), .int .i64 (S.try_ i), .bool true, .bool true, .int .i64 0, .int .i64 (S.goes), .int .i64 (0), .slice (some ⟨w.heap.size + 1, 0, none⟩) 0 0, .slice (D.x8 i).1 (D.x8 i).2.1 (D.x8 i).2.2, .slice (D.x9 i).1 (D.x9 i).2.1 (D.x9 i).2.2] 90)) (Fn.new w _ 90 10 _ (by simp) ?_) (below_alloc (Below.refl _ _) _)
      intro k hk
      match k with
      | 0 | 1 | 2 | 3 | 4 | 5 | 6 | 7 | 8 | 9 => rfl
      | k + 10 => omega
    have hR0 : (Kd.int .i64).R 3 E0 w.heap.size (fun b => w.heap.size < b) (.slice (some ⟨w.heap.size + 1, 0, none⟩) 0 0) (List.replicate 0 (-1)) := by
      rw [hE0]
      have := emptyI (w.alloc (.cells #[.int .i64 (S.tx i), .int .i64 (S.try_ i), .bool true, .bool true, .int .i64 0, .int .i64 (S.goes), .int .i64 (0), .slice (some ⟨w.heap.size + 1, 0, none⟩) 0 0, .slice (D.x8 i).1 (D.x8 i).2.1 (D.x8 i).2.2, .slice (D.x9 i).1 (D.x9 i).2.1 (D.x9 i).2.2] 90)) w.heap.size (by simp)
      simpa using this
    have hB0 : Below w.heap.size w E0 := by rw [hE0]; exact below_alloc (below_alloc (Below.refl _ _) _) _
    have F0 := Lib.hid hF0; have R0 := Lib.hid hR0; have B0 := Lib.hid hB0
    obtain ⟨V8, hV8⟩ : ∃ V8, Value.slice (D.x8 i).1 (D.x8 i).2.1 (D.x8 i).2.2 = V8 := ⟨_, rfl⟩
    obtain ⟨V9, hV9⟩ : ∃ V9, Value.slice (D.x9 i).1 (D.x9 i).2.1 (D.x9 i).2.2 = V9 := ⟨_, rfl⟩
    try rw [hV8, hV9]
    rw [hV8, hV9] at F0
    clear hE0 hF0 hR0 hB0 hV8 hV9 t0 t1 t2 t3 t4 t5 t6 t7 t8 t9 a7 a3
    have B0' := B0
    go_loopw [31] (fun iv wr => ∃ (x : Nat) (V : Value), x ≤ P.nc ∧ iv = .int .i64 (x : Int) ∧ Fn wr w.heap.size 90 10 (lRow S i (S.goes) (0) V V8 V9) ∧ (Kd.int .i64).R 3 wr w.heap.size (fun b => w.heap.size < b) V (List.replicate x (-1)) ∧ Below w.heap.size w wr) (fun iv _ => P.nc - (intOf iv).toNat)
    case atStart => exact ⟨0, _, Nat.zero_le _, rfl, F0.out, R0.out, B0.out⟩
    case round =>
      clear F0 R0 B0 B0'
      obtain ⟨x, V, hx, rfl, hF, hR, hB⟩ := hrel
      have F := Lib.hid hF; have R := Lib.hid hR; have B := Lib.hid hB
      have hls := hF.lt
      by_cases hlt : x < P.nc
      · have q0 := decide_eq_true (show (x : Int) < (P.nc : Int) by omega)
        have p1 : IntKind.wrap .i64 ((x : Int) + 1) = (x : Int) + 1 := by rw [i64_w]; unfold wrap64; omega
        obtain ⟨A, c, eV, hc, hro⟩ := Kd.R_reads hR
        rw [List.length_replicate] at eV
        have l7 : wr.cell? ⟨w.heap.size, 7, none⟩ = some (.slice A x c) := by rw [← eV]; exact hF.cell 7 (by decide)
        subst eV
        have hle : (List.replicate x (-1 : Int) ++ [(-1 : Int)]).length = x + 1 := by simp
        clear hro hF hR hB hc g3 g6 g7
        go_wp2_with ((with_reducible refine gate_builtin (b := .append) (xs := #[.tmp 34, .tmp 35]) rfl ?_); at_builtin; refine Kd.R_append (Kd.int .i64) (w0 := w) w.heap.size rfl (.tmp 34) (.tmp 35) 22 3 (.int .i64 0) 8 rfl Try.underlying22 info3 rfl (by decide) (by decide) (.slice A x c) (List.replicate x (-1)) (-1) [.int .i64 (-1)] (fun b => w.heap.size < b) (fun _ => False) rfl rfl rfl (fun _ h => h.elim) (fun k hk => by omega) R.out B.out B.out.size (by rw [List.length_replicate]; omega) ?_; intro v1 w1 hR1 hB1 hg1 hat1; have hF1 := F.out.move (hg1.block w.heap.size hls (fun e => absurd (R.out.1 _ e.symm) (Nat.lt_irrefl _))); have f7 := hF1.thaw 7; have m7 : w1.cell? ⟨w.heap.size, 7, none⟩ = some (.slice A x c) := hF1.cell 7 (by decide); obtain ⟨A1, c1, e1, hc1, hro1⟩ := Kd.R_reads hR1; rw [hle] at e1; subst e1; clear hro1 hc1 hg1 hat1)
        have nF := Lib.hid (hF1.set 7 (by decide) (.slice A1 (x + 1) c1) (g := lRow S i (S.goes) (0) (.slice A1 (x + 1) c1) V8 V9) rfl (fun m hm hne => by match m with | 0 | 1 | 2 | 3 | 4 | 5 | 6 | 8 | 9 => rfl | 7 => exact absurd rfl hne | m + 10 => omega))
        have nR := Lib.hid (show (Kd.int .i64).R 3 (w1.setCell ⟨w.heap.size, 7, none⟩ (.slice A1 (x + 1) c1)) w.heap.size (fun b => w.heap.size < b) (.slice A1 (x + 1) c1) (List.replicate (x + 1) (-1)) by
          rw [show List.replicate (x + 1) (-1 : Int) = List.replicate x (-1 : Int) ++ [(-1 : Int)] from List.replicate_succ']
          exact Kd.R_step hR1 (fun b hb hlt => Below.heap_setCell w1 _ _ b (Nat.ne_of_gt hb)))
        have nB := Lib.hid (hB1.setCell (p := ⟨w.heap.size, 7, none⟩) (Nat.le_refl _) (.slice A1 (x + 1) c1))
        go_roundw
        case measure => simp [intOf]; omega
        case rel => exact ⟨x + 1, _, hlt, rfl, nF.out, nR.out, nB.out⟩
      · have q0 := decide_eq_false (show ¬ (x : Int) < (P.nc : Int) by omega)
        obtain rfl : x = P.nc := by omega
        obtain ⟨b7, c7, rfl, hc7, hgt, hge, hf7⟩ := fn_int hR (by rw [List.length_replicate]; exact hnc0)
        rw [List.length_replicate] at hc7 hf7
        have F7 := Lib.hid (hf7.ext (g := fun _ => .int .i64 (-1)) (fun k hk => by rw [List.getD_eq_getElem?_getD, List.getElem?_replicate, if_pos hk]; rfl))
        have hF' : Fn wr w.heap.size 90 10 (lRow S i (S.goes) (0) (.slice (some ⟨b7, 0, none⟩) P.nc c7) V8 V9) := by rw [List.length_replicate] at hF; exact hF
        have F' := Lib.hid hF'
        have h7lt := hf7.lt
        have hl8 : wr.cell? ⟨w.heap.size, 8, none⟩ = some V8 := hF'.cell 8 (by decide)
        have g3r := (hB.cell (p := ⟨D.blk .g, 3, none⟩) hgl).trans g3
        clear hf7 hF hR hF' F R q0
        go_wp2_with (first
          | (refine Kd.R_make Kd.bool (w0 := w) w.heap.size 4 rfl (N := 44) rfl 83 _ _ rfl (P.nc : Int) rfl rfl Try.underlying83 (.bool false) 1 info4 rfl (by decide) (by omega) false (ok := fun b => wr.heap.size ≤ b) (okp := fun _ => False) rfl (fun _ hk => hk.elim) (Nat.le_refl _) (by omega) (by omega) B.out B.out.size ?_; intro v8 w8 hR8 hB8 hg8 hat8; have hF8 := F'.out.move (hg8.block w.heap.size hls (by simp)); have f8 := hF8.thaw 8; have m8 : w8.cell? ⟨w.heap.size, 8, none⟩ = some V8 := hF8.cell 8 (by decide); obtain ⟨b8, c8, e8, hc8, hgt8, hge8, hfn8⟩ := fn_bool hR8 (by rw [List.length_replicate]; omega); rw [List.length_replicate] at hc8 hfn8 e8; rw [Int.toNat_natCast] at hc8 hfn8 e8; subst e8; have B8 := hB8.setCell (p := ⟨w.heap.size, 8, none⟩) (Nat.le_refl _) (Value.slice (some ⟨b8, 0, none⟩) P.nc c8); have g3s := (B8.cell (p := ⟨D.blk .g, 3, none⟩) hgl).trans g3; have F8s := hF8.set 8 (by decide) (Value.slice (some ⟨b8, 0, none⟩) P.nc c8) (g := lRow S i (S.goes) (0) (.slice (some ⟨b7, 0, none⟩) P.nc c7) (.slice (some ⟨b8, 0, none⟩) P.nc c8) V9) rfl (fun m hm hne => by match m with | 0 | 1 | 2 | 3 | 4 | 5 | 6 | 7 | 9 => rfl | 8 => exact absurd rfl hne | m + 10 => omega); have z8 := F8s.lt)
          | (refine Kd.R_make (Kd.int .i64) (w0 := w) w.heap.size 3 rfl (N := 51) rfl 22 _ _ rfl (P.nc : Int) rfl rfl Try.underlying22 (.int .i64 0) 8 info3 rfl (by decide) (by omega) 0 (ok := fun b => (w8.setCell ⟨w.heap.size, 8, none⟩ (Value.slice (some ⟨b8, 0, none⟩) P.nc c8)).heap.size ≤ b) (okp := fun _ => False) rfl (fun _ hk => hk.elim) (Nat.le_refl _) (by omega) (by omega) B8 B8.size ?_; intro v9 w9 hR9 hB9 hg9 hat9; have hF9 := F8s.move (hg9.block w.heap.size z8 (by simp)); have f9 := hF9.thaw 9; have m9 : w9.cell? ⟨w.heap.size, 9, none⟩ = some V9 := hF9.cell 9 (by decide); obtain ⟨b9, c9, e9, hc9, hgt9, hge9, hfn9⟩ := fn_int hR9 (by rw [List.length_replicate]; omega); rw [List.length_replicate] at hc9 hfn9 e9; rw [Int.toNat_natCast] at hc9 hfn9 e9; subst e9))
        refine name_w fun E hE => ?_
        have hsz8 : (w8.setCell ⟨w.heap.size, 8, none⟩ (Value.slice (some ⟨b8, 0, none⟩) P.nc c8)).heap.size = w8.heap.size := by simp [World.setCell]
        have hb8lt := hfn8.lt
        have F7E := Lib.hid (show Fn E b7 3 P.nc (fun _ => .int .i64 (-1)) by
          rw [hE]
          refine Fn.far (Fn.move (Fn.far (F7.out.move (hg8.block b7 h7lt (by simp))) (by show b7 ≠ w.heap.size; omega) _) (hg9.block b7 ?_ (by simp))) (by show b7 ≠ w.heap.size; omega) _
          rw [hsz8]
          have := hg8.size
          omega)
        have F8E := Lib.hid (show Fn E b8 4 P.nc (fun _ => .bool false) by
          rw [hE]
          refine (Fn.far (Fn.move (Fn.far hfn8 (by show b8 ≠ w.heap.size; omega) _) (hg9.block b8 ?_ (by simp))) (by show b8 ≠ w.heap.size; omega) _).ext (fun k hk => by rw [List.getD_eq_getElem?_getD, List.getElem?_replicate, if_pos hk]; rfl)
          rw [hsz8]
          exact hb8lt)
        have F9E := Lib.hid (show Fn E b9 3 P.nc (fun _ => .int .i64 0) by
          rw [hE]
          exact (Fn.far hfn9 (by show b9 ≠ w.heap.size; omega) _).ext (fun k hk => by rw [List.getD_eq_getElem?_getD, List.getElem?_replicate, if_pos hk]; rfl))
        have FE := Lib.hid (show Fn E w.heap.size 90 10 (lRow S i (S.goes) (0) (.slice (some ⟨b7, 0, none⟩) P.nc c7) (.slice (some ⟨b8, 0, none⟩) P.nc c8) (.slice (some ⟨b9, 0, none⟩) P.nc c9)) by
          rw [hE]
          exact hF9.set 9 (by decide) _ rfl (fun m hm hne => by match m with | 0 | 1 | 2 | 3 | 4 | 5 | 6 | 7 | 8 => rfl | 9 => exact absurd rfl hne | m + 10 => omega))
        have BE := Lib.hid (show Below w.heap.size w E by rw [hE]; exact hB9.setCell (p := ⟨w.heap.size, 9, none⟩) (Nat.le_refl _) _)
        have n78 : b7 ≠ b8 := by omega
        have n89 : b8 ≠ b9 := by omega
        have n79 : b7 ≠ b9 := by have := hg8.size; omega
        have UE := U.out E BE.out b7 b8 b9 c7 c8 c9 hc7 hc8 hc9 hge hge8 hge9 n78 n79 n89 F7E.out F8E.out F9E.out
        have HE := H.out.step BE.out
        have g6E := HE.g 6 (by decide)
        have q0 := HE.t0 i hi; have q1 := HE.t i 1 hi (by decide); have q2 := HE.t i 2 hi (by decide); have q3 := HE.t i 3 hi (by decide); have q4 := HE.t i 4 hi (by decide); have q5 := HE.t i 5 hi (by decide); have q6 := HE.t i 6 hi (by decide); have q7 := HE.t i 7 hi (by decide); have q8 := HE.t i 8 hi (by decide); have q9 := HE.t i 9 hi (by decide)
        simp only [gRow, tRow] at g6E q0 q1 q2 q3 q4 q5 q6 q7 q8 q9
        have y0 := HE.thaw .t trivial (i * 10); have y1 := HE.thaw .t trivial (i * 10 + 1); have y2 := HE.thaw .t trivial (i * 10 + 2); have y3 := HE.thaw .t trivial (i * 10 + 3); have y4 := HE.thaw .t trivial (i * 10 + 4); have y5 := HE.thaw .t trivial (i * 10 + 5); have y6 := HE.thaw .t trivial (i * 10 + 6); have y7 := HE.thaw .t trivial (i * 10 + 7); have y8 := HE.thaw .t trivial (i * 10 + 8); have y9 := HE.thaw .t trivial (i * 10 + 9)
        have x0 := FE.out.cell 0 (by decide); have x1 := FE.out.cell 1 (by decide); have x2 := FE.out.cell 2 (by decide); have x3 := FE.out.cell 3 (by decide); have x4 := FE.out.cell 4 (by decide); have x5 := FE.out.cell 5 (by decide); have x6 := FE.out.cell 6 (by decide); have x7 := FE.out.cell 7 (by decide); have x8 := FE.out.cell 8 (by decide); have x9 := FE.out.cell 9 (by decide)
        simp only [lRow] at x0 x1 x2 x3 x4 x5 x6 x7 x8 x9
        have KE := Fr.begun (P := P) (D := D) (S := S) BE.out i b7 b8 b9 c7 c8 c9 hge hge8 hge9 (lRow S i (S.goes) (0) (.slice (some ⟨b7, 0, none⟩) P.nc c7) (.slice (some ⟨b8, 0, none⟩) P.nc c8) (.slice (some ⟨b9, 0, none⟩) P.nc c9))
        rw [st10_ten] at UE KE
        have UU := Lib.hid UE
        have KK := Lib.hid KE
        clear KE
        clear hE UE HE hR8 hB8 hg8 hat8 hF8 f8 m8 hfn8 B8 g3s F8s z8 hR9 hB9 hg9 hat9 hF9 f9 m9 hfn9 hsz8 hb8lt g3r hl8
        go_region
        go_end0
        exact ⟨rfl, dynB P D i b7 b8 b9 c7 c8 c9, rfl, UU.out.step (below_drew1 (Below.refl _ _)), KK.out.trans (Fr.below _ _ (below_drew1 (Below.refl _ _)))⟩
  · rw [hs] at t3 U
    simp only [if_true] at U
    go_enter Try.func56, Try.ntmps56
    go_wp2_with fail
    refine name_w fun E0 hE0 => ?_
    have hF0 : Fn E0 w.heap.size 90 10 (lRow S i (S.start i) (S.weight i) (.slice (some ⟨w.heap.size + 1, 0, none⟩) 0 0) (.slice (D.x8 i).1 (D.x8 i).2.1 (D.x8 i).2.2) (.slice (D.x9 i).1 (D.x9 i).2.1 (D.x9 i).2.2)) := by
      rw [hE0]
      refine Fn.below (w := w.alloc (.cells #[.int .i64 (S.tx i), .int .i64 (S.try_ i), .bool true, .bool true, .int .i64 0, .int .i64 (S.start i), .int .i64 (S.weight i), .slice (some ⟨w.heap.size + 1, 0, none⟩) 0 0, .slice (D.x8 i).1 (D.x8 i).2.1 (D.x8 i).2.2, .slice (D.x9 i).1 (D.x9 i).2.1 (D.x9 i).2.2] 90)) (Fn.new w _ 90 10 _ (by simp) ?_) (below_alloc (Below.refl _ _) _)
      intro k hk
      match k with
      | 0 | 1 | 2 | 3 | 4 | 5 | 6 | 7 | 8 | 9 => rfl
      | k + 10 => omega
    have hR0 : (Kd.int .i64).R 3 E0 w.heap.size (fun b => w.heap.size < b) (.slice (some ⟨w.heap.size + 1, 0, none⟩) 0 0) (List.replicate 0 (-1)) := by
      rw [hE0]
      have := emptyI (w.alloc (.cells #[.int .i64 (S.tx i), .int .i64 (S.try_ i), .bool true, .bool true, .int .i64 0, .int .i64 (S.start i), .int .i64 (S.weight i), .slice (some ⟨w.heap.size + 1, 0, none⟩) 0 0, .slice (D.x8 i).1 (D.x8 i).2.1 (D.x8 i).2.2, .slice (D.x9 i).1 (D.x9 i).2.1 (D.x9 i).2.2] 90)) w.heap.size (by simp)
      simpa using this
    have hB0 : Below w.heap.size w E0 := by rw [hE0]; exact below_alloc (below_alloc (Below.refl _ _) _) _
    have F0 := Lib.hid hF0; have R0 := Lib.hid hR0; have B0 := Lib.hid hB0
    obtain ⟨V8, hV8⟩ : ∃ V8, Value.slice (D.x8 i).1 (D.x8 i).2.1 (D.x8 i).2.2 = V8 := ⟨_, rfl⟩
    obtain ⟨V9, hV9⟩ : ∃ V9, Value.slice (D.x9 i).1 (D.x9 i).2.1 (D.x9 i).2.2 = V9 := ⟨_, rfl⟩
    try rw [hV8, hV9]
    rw [hV8, hV9] at F0
    clear hE0 hF0 hR0 hB0 hV8 hV9 t0 t1 t2 t3 t4 t5 t6 t7 t8 t9 a7 a3
    have B0' := B0
    go_loopw [31] (fun iv wr => ∃ (x : Nat) (V : Value), x ≤ P.nc ∧ iv = .int .i64 (x : Int) ∧ Fn wr w.heap.size 90 10 (lRow S i (S.start i) (S.weight i) V V8 V9) ∧ (Kd.int .i64).R 3 wr w.heap.size (fun b => w.heap.size < b) V (List.replicate x (-1)) ∧ Below w.heap.size w wr) (fun iv _ => P.nc - (intOf iv).toNat)
    case atStart => exact ⟨0, _, Nat.zero_le _, rfl, F0.out, R0.out, B0.out⟩
    case round =>
      clear F0 R0 B0 B0'
      obtain ⟨x, V, hx, rfl, hF, hR, hB⟩ := hrel
      have F := Lib.hid hF; have R := Lib.hid hR; have B := Lib.hid hB
      have hls := hF.lt
      by_cases hlt : x < P.nc
      · have q0 := decide_eq_true (show (x : Int) < (P.nc : Int) by omega)
        have p1 : IntKind.wrap .i64 ((x : Int) + 1) = (x : Int) + 1 := by rw [i64_w]; unfold wrap64; omega
        obtain ⟨A, c, eV, hc, hro⟩ := Kd.R_reads hR
        rw [List.length_replicate] at eV
        have l7 : wr.cell? ⟨w.heap.size, 7, none⟩ = some (.slice A x c) := by rw [← eV]; exact hF.cell 7 (by decide)
        subst eV
        have hle : (List.replicate x (-1 : Int) ++ [(-1 : Int)]).length = x + 1 := by simp
        clear hro hF hR hB hc g3 g6 g7
        go_wp2_with ((with_reducible refine gate_builtin (b := .append) (xs := #[.tmp 34, .tmp 35]) rfl ?_); at_builtin; refine Kd.R_append (Kd.int .i64) (w0 := w) w.heap.size rfl (.tmp 34) (.tmp 35) 22 3 (.int .i64 0) 8 rfl Try.underlying22 info3 rfl (by decide) (by decide) (.slice A x c) (List.replicate x (-1)) (-1) [.int .i64 (-1)] (fun b => w.heap.size < b) (fun _ => False) rfl rfl rfl (fun _ h => h.elim) (fun k hk => by omega) R.out B.out B.out.size (by rw [List.length_replicate]; omega) ?_; intro v1 w1 hR1 hB1 hg1 hat1; have hF1 := F.out.move (hg1.block w.heap.size hls (fun e => absurd (R.out.1 _ e.symm) (Nat.lt_irrefl _))); have f7 := hF1.thaw 7; have m7 : w1.cell? ⟨w.heap.size, 7, none⟩ = some (.slice A x c) := hF1.cell 7 (by decide); obtain ⟨A1, c1, e1, hc1, hro1⟩ := Kd.R_reads hR1; rw [hle] at e1; subst e1; clear hro1 hc1 hg1 hat1)
        have nF := Lib.hid (hF1.set 7 (by decide) (.slice A1 (x + 1) c1) (g := lRow S i (S.start i) (S.weight i) (.slice A1 (x + 1) c1) V8 V9) rfl (fun m hm hne => by match m with | 0 | 1 | 2 | 3 | 4 | 5 | 6 | 8 | 9 => rfl | 7 => exact absurd rfl hne | m + 10 => omega))
        have nR := Lib.hid (show (Kd.int .i64).R 3 (w1.setCell ⟨w.heap.size, 7, none⟩ (.slice A1 (x + 1) c1)) w.heap.size (fun b => w.heap.size < b) (.slice A1 (x + 1) c1) (List.replicate (x + 1) (-1)) by
          rw [show List.replicate (x + 1) (-1 : Int) = List.replicate x (-1 : Int) ++ [(-1 : Int)] from List.replicate_succ']
          exact Kd.R_step hR1 (fun b hb hlt => Below.heap_setCell w1 _ _ b (Nat.ne_of_gt hb)))
        have nB := Lib.hid (hB1.setCell (p := ⟨w.heap.size, 7, none⟩) (Nat.le_refl _) (.slice A1 (x + 1) c1))
        go_roundw
        case measure => simp [intOf]; omega
        case rel => exact ⟨x + 1, _, hlt, rfl, nF.out, nR.out, nB.out⟩
      · have q0 := decide_eq_false (show ¬ (x : Int) < (P.nc : Int) by omega)
        obtain rfl : x = P.nc := by omega
        obtain ⟨b7, c7, rfl, hc7, hgt, hge, hf7⟩ := fn_int hR (by rw [List.length_replicate]; exact hnc0)
        rw [List.length_replicate] at hc7 hf7
        have F7 := Lib.hid (hf7.ext (g := fun _ => .int .i64 (-1)) (fun k hk => by rw [List.getD_eq_getElem?_getD, List.getElem?_replicate, if_pos hk]; rfl))
        have hF' : Fn wr w.heap.size 90 10 (lRow S i (S.start i) (S.weight i) (.slice (some ⟨b7, 0, none⟩) P.nc c7) V8 V9) := by rw [List.length_replicate] at hF; exact hF
        have F' := Lib.hid hF'
        have h7lt := hf7.lt
        have hl8 : wr.cell? ⟨w.heap.size, 8, none⟩ = some V8 := hF'.cell 8 (by decide)
        have g3r := (hB.cell (p := ⟨D.blk .g, 3, none⟩) hgl).trans g3
        clear hf7 hF hR hF' F R q0
        go_wp2_with (first
          | (refine Kd.R_make Kd.bool (w0 := w) w.heap.size 4 rfl (N := 44) rfl 83 _ _ rfl (P.nc : Int) rfl rfl Try.underlying83 (.bool false) 1 info4 rfl (by decide) (by omega) false (ok := fun b => wr.heap.size ≤ b) (okp := fun _ => False) rfl (fun _ hk => hk.elim) (Nat.le_refl _) (by omega) (by omega) B.out B.out.size ?_; intro v8 w8 hR8 hB8 hg8 hat8; have hF8 := F'.out.move (hg8.block w.heap.size hls (by simp)); have f8 := hF8.thaw 8; have m8 : w8.cell? ⟨w.heap.size, 8, none⟩ = some V8 := hF8.cell 8 (by decide); obtain ⟨b8, c8, e8, hc8, hgt8, hge8, hfn8⟩ := fn_bool hR8 (by rw [List.length_replicate]; omega); rw [List.length_replicate] at hc8 hfn8 e8; rw [Int.toNat_natCast] at hc8 hfn8 e8; subst e8; have B8 := hB8.setCell (p := ⟨w.heap.size, 8, none⟩) (Nat.le_refl _) (Value.slice (some ⟨b8, 0, none⟩) P.nc c8); have g3s := (B8.cell (p := ⟨D.blk .g, 3, none⟩) hgl).trans g3; have F8s := hF8.set 8 (by decide) (Value.slice (some ⟨b8, 0, none⟩) P.nc c8) (g := lRow S i (S.start i) (S.weight i) (.slice (some ⟨b7, 0, none⟩) P.nc c7) (.slice (some ⟨b8, 0, none⟩) P.nc c8) V9) rfl (fun m hm hne => by match m with | 0 | 1 | 2 | 3 | 4 | 5 | 6 | 7 | 9 => rfl | 8 => exact absurd rfl hne | m + 10 => omega); have z8 := F8s.lt)
          | (refine Kd.R_make (Kd.int .i64) (w0 := w) w.heap.size 3 rfl (N := 51) rfl 22 _ _ rfl (P.nc : Int) rfl rfl Try.underlying22 (.int .i64 0) 8 info3 rfl (by decide) (by omega) 0 (ok := fun b => (w8.setCell ⟨w.heap.size, 8, none⟩ (Value.slice (some ⟨b8, 0, none⟩) P.nc c8)).heap.size ≤ b) (okp := fun _ => False) rfl (fun _ hk => hk.elim) (Nat.le_refl _) (by omega) (by omega) B8 B8.size ?_; intro v9 w9 hR9 hB9 hg9 hat9; have hF9 := F8s.move (hg9.block w.heap.size z8 (by simp)); have f9 := hF9.thaw 9; have m9 : w9.cell? ⟨w.heap.size, 9, none⟩ = some V9 := hF9.cell 9 (by decide); obtain ⟨b9, c9, e9, hc9, hgt9, hge9, hfn9⟩ := fn_int hR9 (by rw [List.length_replicate]; omega); rw [List.length_replicate] at hc9 hfn9 e9; rw [Int.toNat_natCast] at hc9 hfn9 e9; subst e9))
        refine name_w fun E hE => ?_
        have hsz8 : (w8.setCell ⟨w.heap.size, 8, none⟩ (Value.slice (some ⟨b8, 0, none⟩) P.nc c8)).heap.size = w8.heap.size := by simp [World.setCell]
        have hb8lt := hfn8.lt
        have F7E := Lib.hid (show Fn E b7 3 P.nc (fun _ => .int .i64 (-1)) by
          rw [hE]
          refine Fn.far (Fn.move (Fn.far (F7.out.move (hg8.block b7 h7lt (by simp))) (by show b7 ≠ w.heap.size; omega) _) (hg9.block b7 ?_ (by simp))) (by show b7 ≠ w.heap.size; omega) _
          rw [hsz8]
          have := hg8.size
          omega)
        have F8E := Lib.hid (show Fn E b8 4 P.nc (fun _ => .bool false) by
          rw [hE]
          refine (Fn.far (Fn.move (Fn.far hfn8 (by show b8 ≠ w.heap.size; omega) _) (hg9.block b8 ?_ (by simp))) (by show b8 ≠ w.heap.size; omega) _).ext (fun k hk => by rw [List.getD_eq_getElem?_getD, List.getElem?_replicate, if_pos hk]; rfl)
          rw [hsz8]
          exact hb8lt)
        have F9E := Lib.hid (show Fn E b9 3 P.nc (fun _ => .int .i64 0) by
          rw [hE]
          exact (Fn.far hfn9 (by show b9 ≠ w.heap.size; omega) _).ext (fun k hk => by rw [List.getD_eq_getElem?_getD, List.getElem?_replicate, if_pos hk]; rfl))
        have FE := Lib.hid (show Fn E w.heap.size 90 10 (lRow S i (S.start i) (S.weight i) (.slice (some ⟨b7, 0, none⟩) P.nc c7) (.slice (some ⟨b8, 0, none⟩) P.nc c8) (.slice (some ⟨b9, 0, none⟩) P.nc c9)) by
          rw [hE]
          exact hF9.set 9 (by decide) _ rfl (fun m hm hne => by match m with | 0 | 1 | 2 | 3 | 4 | 5 | 6 | 7 | 8 => rfl | 9 => exact absurd rfl hne | m + 10 => omega))
        have BE := Lib.hid (show Below w.heap.size w E by rw [hE]; exact hB9.setCell (p := ⟨w.heap.size, 9, none⟩) (Nat.le_refl _) _)
        have n78 : b7 ≠ b8 := by omega
        have n89 : b8 ≠ b9 := by omega
        have n79 : b7 ≠ b9 := by have := hg8.size; omega
        have UE := U.out E BE.out b7 b8 b9 c7 c8 c9 hc7 hc8 hc9 hge hge8 hge9 n78 n79 n89 F7E.out F8E.out F9E.out
        have HE := H.out.step BE.out
        have g6E := HE.g 6 (by decide)
        have q0 := HE.t0 i hi; have q1 := HE.t i 1 hi (by decide); have q2 := HE.t i 2 hi (by decide); have q3 := HE.t i 3 hi (by decide); have q4 := HE.t i 4 hi (by decide); have q5 := HE.t i 5 hi (by decide); have q6 := HE.t i 6 hi (by decide); have q7 := HE.t i 7 hi (by decide); have q8 := HE.t i 8 hi (by decide); have q9 := HE.t i 9 hi (by decide)
        simp only [gRow, tRow] at g6E q0 q1 q2 q3 q4 q5 q6 q7 q8 q9
        have y0 := HE.thaw .t trivial (i * 10); have y1 := HE.thaw .t trivial (i * 10 + 1); have y2 := HE.thaw .t trivial (i * 10 + 2); have y3 := HE.thaw .t trivial (i * 10 + 3); have y4 := HE.thaw .t trivial (i * 10 + 4); have y5 := HE.thaw .t trivial (i * 10 + 5); have y6 := HE.thaw .t trivial (i * 10 + 6); have y7 := HE.thaw .t trivial (i * 10 + 7); have y8 := HE.thaw .t trivial (i * 10 + 8); have y9 := HE.thaw .t trivial (i * 10 + 9)
        have x0 := FE.out.cell 0 (by decide); have x1 := FE.out.cell 1 (by decide); have x2 := FE.out.cell 2 (by decide); have x3 := FE.out.cell 3 (by decide); have x4 := FE.out.cell 4 (by decide); have x5 := FE.out.cell 5 (by decide); have x6 := FE.out.cell 6 (by decide); have x7 := FE.out.cell 7 (by decide); have x8 := FE.out.cell 8 (by decide); have x9 := FE.out.cell 9 (by decide)
        simp only [lRow] at x0 x1 x2 x3 x4 x5 x6 x7 x8 x9
        have KE := Fr.begun (P := P) (D := D) (S := S) BE.out i b7 b8 b9 c7 c8 c9 hge hge8 hge9 (lRow S i (S.start i) (S.weight i) (.slice (some ⟨b7, 0, none⟩) P.nc c7) (.slice (some ⟨b8, 0, none⟩) P.nc c8) (.slice (some ⟨b9, 0, none⟩) P.nc c9))
        rw [st10_ten] at UE KE
        have UU := Lib.hid UE
        have KK := Lib.hid KE
        clear KE
        clear hE UE HE hR8 hB8 hg8 hat8 hF8 f8 m8 hfn8 B8 g3s F8s z8 hR9 hB9 hg9 hat9 hF9 f9 m9 hfn9 hsz8 hb8lt g3r hl8
        go_region
        go_end0
        exact ⟨rfl, dynB P D i b7 b8 b9 c7 c8 c9, rfl, UU.out.step (below_drew1 (Below.refl _ _)), KK.out.trans (Fr.below _ _ (below_drew1 (Below.refl _ _)))⟩
end Go.Proofs.Ytonhmkllfbagmaa.Tx
