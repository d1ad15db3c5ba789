/- TxFair: the contracts that the law's walk meets, each over values. -/
import Derived.Test.YtonhmkllfbagmaaPurF
import Derived.Test.YtonhmkllfbagmaaLedL
import Derived.Test.YtonhmkllfbagmaaMrkF
namespace Go.Proofs.Ytonhmkllfbagmaa.PFnExactTxFair
open Go.RowKit Go.Proofs.YtonhmkllfbagmaaW.PrintWords Go.Proofs.YtonhmkllfbagmaaW.PrintLast Go.Proofs.YtonhmkllfbagmaaW.PrintMore
open PureTxFair
set_option linter.unusedSimpArgs false
set_option linter.unusedVariables false

abbrev ki : Kd Int := Kd.int .i64
abbrev kT : Kd (List (List S63)) := Kd.slice 61 (Kd.slice 63 k63)
abbrev kA : Kd (List (List S113)) := Kd.slice 107 (Kd.slice 113 k113)
def Rd {α : Type} (d : Kd α) (w : World) (v : Value) (xs : List α) : Prop := ∃ A c, v = .slice A xs.length c ∧ xs.length ≤ c ∧ d.C w A xs.length xs
theorem Rd.below {α : Type} {d : Kd α} {w w1 : World} {v : Value} {xs : List α} (h : Rd d w v xs) (hb : Below w.heap.size w w1) : Rd d w1 v xs := by
  obtain ⟨A, c, e, hc, hr⟩ := h
  exact ⟨A, c, e, hc, Kd.C_below hr hb⟩
theorem Rd.of {α : Type} {d : Kd α} {e : Nat} {w : World} {base : Nat} {ok : Nat → Prop} {v : Value} {xs : List α} (h : d.R e w base ok v xs) : Rd d w v xs := Kd.R_reads h
/-- A row of the call's own (of the blocks from base on) in the blocks from lo up to hi. -/
def Own {α : Type} (d : Kd α) (e : Nat) (w : World) (base lo hi : Nat) (v : Value) (xs : List α) : Prop := d.R e w base (fun b => lo ≤ b ∧ b < hi) v xs ∧ hi ≤ w.heap.size
section
variable {α : Type} {d : Kd α} {e : Nat} {w w1 : World} {base lo hi : Nat} {v : Value} {xs : List α}
theorem Own.new {ok : Nat → Prop} (h : d.R e w lo ok v xs) (hb : base ≤ lo) : Own d e w base lo w.heap.size v xs := ⟨Kd.R_lower (Kd.R_mono (Kd.R_bound h) (fun _ hk => ⟨hk.2.1, hk.2.2.1⟩)) hb, Nat.le_refl _⟩
theorem Own.below (h : Own d e w base lo hi v xs) (hb : Below w.heap.size w w1) : Own d e w1 base lo hi v xs := ⟨Kd.R_below h.1 hb, Nat.le_trans h.2 hb.size⟩
theorem Own.rd (h : Own d e w base lo hi v xs) : Rd d w v xs := Rd.of h.1
theorem Own.kept {S : Nat → Prop} (h : Own d e w base lo hi v xs) (hk : Kept w w1 S) (hs : ∀ b, S b → b < lo ∨ hi ≤ b) : Own d e w1 base lo hi v xs :=
  ⟨Kd.R_step h.1 (fun k hok hlt => hk.2 k hlt (fun hS => by have := hs k hS; omega)), Nat.le_trans h.2 hk.1⟩
theorem Own.block (h : Own d e w base lo hi v xs) : ∀ b, v.ownBlock = some b → lo ≤ b ∧ b < hi := h.1.1
end
/-- A struct in a block of its own. -/
def Box (w : World) (b : Nat) (x y z : Value) : Prop := b < w.heap.size ∧ w.cell? ⟨b, 0, none⟩ = some x ∧ w.cell? ⟨b, 1, none⟩ = some y ∧ w.cell? ⟨b, 2, none⟩ = some z
theorem Box.new (w : World) (x y z : Value) (t : TypeId) : Box (w.alloc (.cells #[x, y, z] t)) w.heap.size x y z := by
  have h : ∀ o, (w.alloc (.cells #[x, y, z] t)).cell? ⟨w.heap.size, o, none⟩ = (#[x, y, z] : Array Value)[o]? := fun o => cell_of_row _ _ o _ t (0, 0) (heap_alloc_new w _)
  exact ⟨by simp, h 0, h 1, h 2⟩
theorem Box.move {w w' : World} {b : Nat} {x y z : Value} (h : Box w b x y z) (hs : w.heap.size ≤ w'.heap.size) (hb : w'.heap[b]? = w.heap[b]?) : Box w' b x y z := by
  have hc : ∀ o, w'.cell? ⟨b, o, none⟩ = w.cell? ⟨b, o, none⟩ := fun o => by unfold World.cell?; rw [hb]
  unfold Box
  rw [hc 0, hc 1, hc 2]
  exact ⟨Nat.lt_of_lt_of_le h.1 hs, h.2⟩
theorem Box.below {w w' : World} {b : Nat} {x y z : Value} (h : Box w b x y z) (hB : Below w.heap.size w w') : Box w' b x y z := h.move hB.size (hB.block b h.1)
theorem Box.kept {w w' : World} {b : Nat} {x y z : Value} {S : Nat → Prop} (h : Box w b x y z) (hk : Kept w w' S) (hn : ¬ S b) : Box w' b x y z := h.move hk.1 (hk.2 b h.1 hn)
theorem drawn_below {w w' : World} (h : Drawn0 w w') : Below w.heap.size w w' := by obtain ⟨n, rfl⟩ := h; exact pw_below_drewN (Below.refl _ _) n

section
variable {vC vT vL : Value} {C L : List Int} {M : Int} {w : World}
theorem szP {T : List (List (List S113))} {k : Nat} {a r : Int} (h : laws_szTxProg.f k C M T a = some r) (hC : Rd ki w vC C) (hT : Rd kA w vT T) :
    Calls Try.prog 8 #[.agg #[vC, .int .i64 M, vT], .int .i64 a] w fun e w' => e = .returned (.int .i64 r) ∧ Below w.heap.size w w' := by
  obtain ⟨A, c, rfl, h1, h2⟩ := hC
  obtain ⟨A', c', rfl, h3, h4⟩ := hT
  exact laws_szTxProg.calls k A c C M A' c' T a r w h2 h1 h4 h3 h
theorem toP {T : List (List (List S113))} {T' : List (List (List S63))} {k : Nat} (h : laws_toTxProg.f k C M T = some (C, M, T')) (hC : Rd ki w vC C) (hT : Rd kA w vT T) :
    Calls Try.prog 10 #[.agg #[vC, .int .i64 M, vT]] w fun e w' => ∃ v0 v2 : Value, e = .returned (.agg #[v0, .int .i64 M, v2]) ∧ ki.R 3 w' w.heap.size (fun _ => True) v0 C ∧ kT.R 54 w' w.heap.size (fun _ => True) v2 T' ∧ Below w.heap.size w w' := by
  obtain ⟨A, c, rfl, h1, h2⟩ := hC
  obtain ⟨A', c', rfl, h3, h4⟩ := hT
  exact laws_toTxProg.calls k A c C M A' c' T C M T' w h2 h1 h4 h3 h
theorem eqI {v u : Value} {k : Nat} (h : laws_eqIntS.f k L L = some true) (hv : Rd ki w v L) (hu : Rd ki w u L) :
    Calls Try.prog 16 #[v, u] w fun e w' => e = .returned (.bool true) ∧ Below w.heap.size w w' := by
  obtain ⟨A, c, rfl, h1, h2⟩ := hv
  obtain ⟨A', c', rfl, h3, h4⟩ := hu
  refine (laws_eqIntS.calls k A c L A' c' L true w h2 h1 h4 h3 h).mono ?_
  rintro e w' ⟨he, hd⟩
  exact ⟨he, drawn_below hd⟩
theorem heldI {v : Value} {ys : List Int} {k : Nat} {a r : Int} (h : laws_heldIntS.f k ys a = some r) (hv : Rd ki w v ys) :
    Calls Try.prog 19 #[v, .int .i64 a] w fun e w' => e = .returned (.int .i64 r) ∧ Below w.heap.size w w' := by
  obtain ⟨A, c, rfl, h1, h2⟩ := hv
  refine (laws_heldIntS.calls k A c ys a r w h2 h1 h).mono ?_
  rintro e w' ⟨he, hd⟩
  exact ⟨he, drawn_below hd⟩
end
/-! marks, plain -/
def mks (a : Int) (xs : List Int) (n : Nat) : List Int := (List.range xs.length).map (fun i => if i < n then a + (i : Int) else xs.getD i 0)
theorem mks_len (a : Int) (xs : List Int) (n : Nat) : (mks a xs n).length = xs.length := by simp [mks]
theorem mks_zero (a : Int) (xs : List Int) : mks a xs 0 = xs := by
  apply List.ext_getElem (by simp [mks])
  intro i h1 h2
  simp [mks, h2]
theorem mks_set (a : Int) (xs : List Int) (n : Nat) (h : n < xs.length) : (mks a xs n).set n (a + (n : Int)) = mks a xs (n + 1) := by
  apply List.ext_getElem (by simp [mks])
  intro i h1 h2
  have hi : i < xs.length := by simpa [mks] using h2
  rw [List.getElem_set]
  simp only [mks, List.getElem_map, List.getElem_range]
  by_cases e : n = i
  · subst e; simp
  · rw [if_neg e]
    by_cases q : i < n
    · rw [if_pos q, if_pos (by omega)]
    · rw [if_neg q, if_neg (by omega)]
theorem mks_at (a : Int) (xs : List Int) (n : Nat) (h : n < xs.length) : rd (mks a xs xs.length) (n : Int) = a + (n : Int) := by
  have := getD_at (mks a xs xs.length) n 0 (by rw [mks_len]; exact h)
  have h2 : rd (mks a xs xs.length) (n : Int) = (mks a xs xs.length).getD (n : Int).toNat 0 := rfl
  rw [h2, this]
  simp [mks, h]
theorem wrap_small (x : Int) (h0 : 0 ≤ x) (h : x ≤ 9223372036854775807) : wrap64 x = x := by unfold wrap64; omega
theorem mark_from (a : Int) (xs : List Int) (ha : 0 ≤ a) (ha2 : a ≤ 4611686018427387904) (hl : xs.length ≤ 1048576) :
    ∀ d n, n + d = xs.length → Ev (fun k => laws_markIntS.l0 k (mks a xs n) (a + (n : Int)) (n : Int)) (a + (xs.length : Int), mks a xs xs.length) := by
  intro d
  induction d with
  | zero =>
    intro n hn
    obtain rfl : n = xs.length := by omega
    exact Ev.step (f := fun _ => some (a + (xs.length : Int), mks a xs xs.length)) (fun k => by simp only [laws_markIntS.l0]; rw [if_neg (by rw [mks_len]; omega)]) (Ev.now _)
  | succ d ih =>
    intro n hn
    refine Ev.step (fun k => ?_) (ih (n + 1) (by omega))
    simp only [laws_markIntS.l0]
    rw [if_pos (by rw [mks_len]; omega), if_pos (by omega), Int.toNat_natCast, mks_set a xs n (by omega), wrap_small _ (by omega) (by omega), wrap_small _ (by omega) (by omega)]
    rw [show a + ((n + 1 : Nat) : Int) = a + (n : Int) + 1 by omega, show ((n + 1 : Nat) : Int) = (n : Int) + 1 by omega]
theorem held_from (a : Int) (xs : List Int) (ha : 0 ≤ a) (ha2 : a ≤ 4611686018427387904) (hl : xs.length ≤ 1048576) :
    ∀ d n, n + d = xs.length → Ev (fun k => laws_heldIntS.l0 k (mks a xs xs.length) (a + (n : Int)) (n : Int)) (a + (xs.length : Int)) := by
  intro d
  induction d with
  | zero =>
    intro n hn
    obtain rfl : n = xs.length := by omega
    exact Ev.step (f := fun _ => some (a + (xs.length : Int))) (fun k => by simp only [laws_heldIntS.l0]; rw [if_neg (by rw [mks_len]; omega)]) (Ev.now _)
  | succ d ih =>
    intro n hn
    refine Ev.step (fun k => ?_) (ih (n + 1) (by omega))
    simp only [laws_heldIntS.l0]
    rw [if_pos (by rw [mks_len]; omega), if_pos (by omega), if_pos (mks_at a xs n (by omega)), wrap_small _ (by omega) (by omega), wrap_small _ (by omega) (by omega)]
    rw [show a + ((n + 1 : Nat) : Int) = a + (n : Int) + 1 by omega, show ((n + 1 : Nat) : Int) = (n : Int) + 1 by omega]
theorem markI (w0 w : World) (lo hi : Nat) (v : Value) (xs : List Int) (a : Int) (h : Own ki 3 w w0.heap.size lo hi v xs) (hB : Below w0.heap.size w0 w) (ha : 0 ≤ a) (ha2 : a ≤ 4611686018427387904) (hl : xs.length ≤ 1048576) :
    Calls Try.prog 18 #[v, .int .i64 a] w fun e w' => e = .returned (.int .i64 (a + (xs.length : Int))) ∧ ∃ ys : List Int, Own ki 3 w' w0.heap.size lo hi v ys ∧ (∃ k, laws_heldIntS.f k ys a = some (a + (xs.length : Int))) ∧ Below w0.heap.size w0 w' ∧ Kept w w' (fun b => v.ownBlock = some b) := by
  obtain ⟨k, hk⟩ := Ev.rounds (by
    have := mark_from a xs ha ha2 hl xs.length 0 (by omega)
    rw [mks_zero] at this
    simpa using this)
  obtain ⟨k2, hk2⟩ := Ev.rounds (by
    have := held_from a xs ha ha2 hl xs.length 0 (by omega)
    simpa using this)
  refine (laws_markIntS.calls k (fun b => v.ownBlock = some b) v xs a _ _ w0 w hB (Kd.R_reok rfl h.1 (fun b hb => hb)) hk).mono ?_
  rintro e w' ⟨he, hR, hB2, hK⟩
  exact ⟨he, _, ⟨Kd.R_reok rfl hR (fun b hb => h.block b hb), Nat.le_trans h.2 hK.1⟩, ⟨k2, hk2⟩, hB2, hK⟩
set_option maxHeartbeats 2000000 in
set_option maxRecDepth 100000 in
theorem markP (w0 w : World) (hi : Nat) (v0 v2 : Value) (C : List Int) (M : Int) (T : List (List (List S63))) (h0 : Own ki 3 w w0.heap.size w0.heap.size hi v0 C) (h2 : Own kT 54 w w0.heap.size w0.heap.size hi v2 T) (hB : Below w0.heap.size w0 w) (hC : C.length ≤ 1048576) (hT : T.length ≤ 1048576) (hx : ∀ x ∈ T, x.length ≤ 1048576 ∧ ∀ y ∈ x, y.length ≤ 1048576) :
    Calls Try.prog 17 #[.agg #[v0, .int .i64 M, v2], .int .i64 1] w fun e w' => (∃ r : Int, e = .returned (.int .i64 r) ∧ 0 ≤ r ∧ r ≤ 4611686018427387904) ∧ Below w0.heap.size w0 w' ∧ Kept w w' (fun b => w0.heap.size ≤ b ∧ b < hi) := by
  have hne : kT.R 54 w w0.heap.size (fun b => (w0.heap.size ≤ b ∧ b < hi) ∧ v0.ownBlock ≠ some b) v2 T := Kd.R_mono (Kd.R_bound h2.1) (fun b hb => ⟨hb.1, fun e => by
    obtain ⟨_, _, _, q, hq, cells, hc⟩ := hb
    obtain ⟨_, _, _, q3, hq3, cells3, hc3⟩ := (Kd.R_bound h0.1).1 b e
    rw [hc] at hc3
    injection hc3 with e1
    injection e1 with e2 e3 e4
    subst e3
    simp [Kd.int, Kd.scalar] at hq3
    subst hq3
    revert hq
    decide⟩)
  obtain ⟨A, c, rfl, hc⟩ := rows_form h0.1
  obtain ⟨A2, c2, rfl, hc2⟩ := rows_form h2.1
  have hlt0 := h0.block
  have HNE := Lib.hid hne
  have H0 := Lib.hid h0
  have H2 := Lib.hid h2
  have HB := Lib.hid hB
  have HX := Lib.hid hx
  have HL := Lib.hid hlt0
  clear hne h0 h2 hB hx hlt0
  go_enter Try.func17, Try.ntmps17
  go_wp2_with fail
  obtain ⟨W1, hW1⟩ : ∃ W, W = w.alloc (.cells #[.slice A C.length c, .int .i64 M, .slice A2 T.length c2] 30) := ⟨_, rfl⟩
  have X1 := Lib.hid (show Box W1 w.heap.size (.slice A C.length c) (.int .i64 M) (.slice A2 T.length c2) by rw [hW1]; exact Box.new w _ _ _ _)
  have hb1 : Below w.heap.size w W1 := by rw [hW1]; exact (Below.refl _ w).alloc (Nat.le_refl _) _
  rw [← hW1]
  have KW := Lib.hid (Kept.of_below hb1 (fun b => w0.heap.size ≤ b ∧ b < hi))
  have H1 := Lib.hid (H0.out.below hb1)
  have N1 := Lib.hid (Kd.R_below HNE.out hb1)
  have B1 := Lib.hid (below_step HB.out hb1)
  have hhi := H0.out.2
  clear H0 HNE HB H2 hW1 hb1
  refine (markI w0 W1 w0.heap.size hi _ C 1 H1.out B1.out (by omega) (by omega) hC).mono ?_
  rintro e w1 ⟨rfl, ys, hO, hh, hB, hK⟩
  have X2 := Lib.hid (X1.out.kept hK (fun hb => by have := HL.out _ hb; omega))
  have N2 := Lib.hid (show kT.R 54 w1 w0.heap.size (fun b => w0.heap.size ≤ b ∧ b < hi) (.slice A2 T.length c2) T from Kd.R_mono (Kd.R_step N1.out (fun b hb hlt => hK.2 b hlt (fun e => hb.2 e))) (fun b hb => hb.1))
  have K2 := Lib.hid (Kept.then_ KW.out (hK.mono (S' := fun b => w0.heap.size ≤ b ∧ b < hi) (fun b hb => HL.out _ hb)) (fun b hb => .inl hb))
  have B2 := Lib.hid hB
  have c2f := X2.out.2.2.2
  have hle := B2.out.size
  clear hO hh hB hK X1 KW H1 N1 B1
  go_wp2_with fail
  refine (markSSSC w0.heap.size hi w1 w1 _ T _ N2.out (Inv.refl _ _ _ hle) (by omega) (by omega) hT HX.out).mono ?_
  rintro e w2 ⟨⟨r, rfl, hr1, hr2⟩, hI⟩
  have B3 := Lib.hid (B2.out.trans hI.1)
  have K3 := Lib.hid (Kept.then_ K2.out hI.kept (fun b hb => .inl hb))
  clear hI K2 B2 X2 N2 c2f
  go_wp2_with fail
  go_ret
  exact ⟨⟨r, rfl, by omega, by omega⟩, B3.out, K3.out⟩

/-! a log -/
def Box5 (w : World) (b : Nat) (c : Int) (x y z : Value) : Prop := b < w.heap.size ∧ w.cell? ⟨b, 0, none⟩ = some (.int .i64 c) ∧ w.cell? ⟨b, 1, none⟩ = some (.int .i64 0) ∧ w.cell? ⟨b, 2, none⟩ = some x ∧ w.cell? ⟨b, 3, none⟩ = some y ∧ w.cell? ⟨b, 4, none⟩ = some z
theorem Box5.new (w : World) (c : Int) (x y z : Value) (t : TypeId) : Box5 (w.alloc (.cells #[.int .i64 c, .int .i64 0, x, y, z] t)) w.heap.size c x y z := by
  have h : ∀ o, (w.alloc (.cells #[.int .i64 c, .int .i64 0, x, y, z] t)).cell? ⟨w.heap.size, o, none⟩ = (#[.int .i64 c, .int .i64 0, x, y, z] : Array Value)[o]? := fun o => cell_of_row _ _ o _ t (0, 0) (heap_alloc_new w _)
  exact ⟨by simp, h 0, h 1, h 2, h 3, h 4⟩
theorem Box5.move {w w' : World} {b : Nat} {c : Int} {x y z : Value} (h : Box5 w b c x y z) (hs : w.heap.size ≤ w'.heap.size) (hb : w'.heap[b]? = w.heap[b]?) : Box5 w' b c x y z := by
  have hc : ∀ o, w'.cell? ⟨b, o, none⟩ = w.cell? ⟨b, o, none⟩ := fun o => by unfold World.cell?; rw [hb]
  unfold Box5
  rw [hc 0, hc 1, hc 2, hc 3, hc 4]
  exact ⟨Nat.lt_of_lt_of_le h.1 hs, h.2⟩
theorem Box5.below {w w' : World} {b : Nat} {c : Int} {x y z : Value} (h : Box5 w b c x y z) (hB : Below w.heap.size w w') : Box5 w' b c x y z := h.move hB.size (hB.block b h.1)
theorem Box5.kept {w w' : World} {b : Nat} {c : Int} {x y z : Value} {S : Nat → Prop} (h : Box5 w b c x y z) (hk : Kept w w' S) (hn : ¬ S b) : Box5 w' b c x y z := h.move hk.1 (hk.2 b h.1 hn)
/-- A row that lies in the blocks from lo up to hi. -/
abbrev Lie {α : Type} (d : Kd α) (w : World) (lo hi : Nat) (v : Value) (xs : List α) : Prop := Tx.Lie d w lo hi v xs
section
variable {α : Type} {d : Kd α} {w w1 : World} {lo hi : Nat} {v : Value} {xs : List α}
theorem Lie.rd (h : Lie d w lo hi v xs) : Rd d w v xs := h.2 w (Nat.le_refl _) (fun _ _ _ => rfl)
theorem Lie.form (h : Lie d w lo hi v xs) : ∃ A c, v = .slice A xs.length c ∧ xs.length ≤ c := by obtain ⟨A, c, e, hc, _⟩ := Lie.rd h; exact ⟨A, c, e, hc⟩
theorem Lie.below (h : Lie d w lo hi v xs) (hb : Below w.heap.size w w1) : Lie d w1 lo hi v xs :=
  ⟨Nat.le_trans h.1 hb.size, fun w' hs hk => h.2 w' (Nat.le_trans hb.size hs) (fun b h1 h2 => (hk b h1 h2).trans (hb.block b (Nat.lt_of_lt_of_le h2 h.1)))⟩
theorem Lie.kept {S : Nat → Prop} (h : Lie d w lo hi v xs) (hk : Kept w w1 S) (hs : ∀ b, S b → b < lo ∨ hi ≤ b) : Lie d w1 lo hi v xs :=
  ⟨Nat.le_trans h.1 hk.1, fun w' h1 h2 => h.2 w' (Nat.le_trans hk.1 h1) (fun b hb1 hb2 => (h2 b hb1 hb2).trans (hk.2 b (Nat.lt_of_lt_of_le hb2 h.1) (fun hS => by have := hs b hS; omega)))⟩
end
/-- What TxFair answers: the goes, and of the log its code, events, cells and done. -/
structure FR where
  out : List Int
  code : Int
  evs : List S53
  cells : List Int
  done : List Int
def Apart2 (v u : Value) : Prop := ∀ b, v.ownBlock = some b → u.ownBlock ≠ some b
/-- An answer of the call's own, in the blocks from lo up to hi. -/
structure Ans (w : World) (base lo hi : Nat) (v0 v2 v3 v4 : Value) (r : FR) : Prop where
  le : hi ≤ w.heap.size
  o0 : ki.R 3 w base (fun b => lo ≤ b ∧ b < hi) v0 r.out
  o2 : k53.R 53 w base (fun b => lo ≤ b ∧ b < hi) v2 r.evs
  o3 : ki.R 3 w base (fun b => lo ≤ b ∧ b < hi) v3 r.cells
  o4 : ki.R 3 w base (fun b => lo ≤ b ∧ b < hi) v4 r.done
  d02 : Apart2 v0 v2
  d03 : Apart2 v0 v3
  d04 : Apart2 v0 v4
  d34 : Apart2 v3 v4
section
variable {w w1 : World} {base lo hi : Nat} {v0 v2 v3 v4 : Value} {r : FR}
theorem Ans.below (h : Ans w base lo hi v0 v2 v3 v4 r) (hb : Below w.heap.size w w1) : Ans w1 base lo hi v0 v2 v3 v4 r :=
  ⟨Nat.le_trans h.le hb.size, Kd.R_below h.o0 hb, Kd.R_below h.o2 hb, Kd.R_below h.o3 hb, Kd.R_below h.o4 hb, h.d02, h.d03, h.d04, h.d34⟩
theorem Ans.kept {S : Nat → Prop} (h : Ans w base lo hi v0 v2 v3 v4 r) (hk : Kept w w1 S) (hs : ∀ b, S b → b < lo ∨ hi ≤ b) : Ans w1 base lo hi v0 v2 v3 v4 r := by
  have key : ∀ b, lo ≤ b ∧ b < hi → b < w.heap.size → w1.heap[b]? = w.heap[b]? := fun b hb hlt => hk.2 b hlt (fun hS => by have := hs b hS; omega)
  exact ⟨Nat.le_trans h.le hk.1, Kd.R_step h.o0 key, Kd.R_step h.o2 key, Kd.R_step h.o3 key, Kd.R_step h.o4 key, h.d02, h.d03, h.d04, h.d34⟩
theorem Ans.rd0 (h : Ans w base lo hi v0 v2 v3 v4 r) : Rd ki w v0 r.out := Rd.of h.o0
theorem Ans.rd2 (h : Ans w base lo hi v0 v2 v3 v4 r) : Rd k53 w v2 r.evs := Rd.of h.o2
theorem Ans.rd3 (h : Ans w base lo hi v0 v2 v3 v4 r) : Rd ki w v3 r.cells := Rd.of h.o3
theorem Ans.rd4 (h : Ans w base lo hi v0 v2 v3 v4 r) : Rd ki w v4 r.done := Rd.of h.o4
end

/-! rows that are alike -/
theorem two_new (w : World) (cs ds : Array Value) (t : TypeId) (k : Nat) : ((w.alloc (.cells cs t)).alloc (.cells ds t)).cell? ⟨w.heap.size, k, none⟩ = cs[k]? ∧ ((w.alloc (.cells cs t)).alloc (.cells ds t)).cell? ⟨w.heap.size + 1, k, none⟩ = ds[k]? := by
  have e : (w.alloc (.cells cs t)).heap.size = w.heap.size + 1 := by simp
  have h := heap_alloc_new (w.alloc (.cells cs t)) (.cells ds t)
  rw [e] at h
  exact ⟨blk_cell (((below_alloc (Below.refl _ _) (.cells ds t)).block w.heap.size (by rw [e]; omega)).trans (heap_alloc_new w _)) k, blk_cell h k⟩
set_option maxHeartbeats 2000000 in
set_option maxRecDepth 100000 in
theorem eqEvC (c : S53) (w : World) : Calls Try.prog 68 #[.agg #[.int .i64 c.f0, .int .i64 c.f1, .int .i64 c.f2, .int .i64 c.f3, .int .i64 c.f4, .int .i64 c.f5], .agg #[.int .i64 c.f0, .int .i64 c.f1, .int .i64 c.f2, .int .i64 c.f3, .int .i64 c.f4, .int .i64 c.f5]] w fun e w' => e = .returned (.bool true) ∧ Below w.heap.size w w' := by
  have p := two_new w #[.int .i64 c.f0, .int .i64 c.f1, .int .i64 c.f2, .int .i64 c.f3, .int .i64 c.f4, .int .i64 c.f5] #[.int .i64 c.f0, .int .i64 c.f1, .int .i64 c.f2, .int .i64 c.f3, .int .i64 c.f4, .int .i64 c.f5] 53
  have a0 := (p 0).1.trans rfl; have b0 := (p 0).2.trans rfl
  have a1 := (p 1).1.trans rfl; have b1 := (p 1).2.trans rfl
  have a2 := (p 2).1.trans rfl; have b2 := (p 2).2.trans rfl
  have a3 := (p 3).1.trans rfl; have b3 := (p 3).2.trans rfl
  have a4 := (p 4).1.trans rfl; have b4 := (p 4).2.trans rfl
  have a5 := (p 5).1.trans rfl; have b5 := (p 5).2.trans rfl
  clear p
  go_enter Try.func68, Try.ntmps68
  go_wp2_with fail
  go_ret
  exact ⟨rfl, below_alloc (below_alloc (Below.refl _ _) _) _⟩
set_option maxHeartbeats 4000000 in
set_option maxRecDepth 100000 in
theorem eqEvsC {E : List S53} {v u : Value} {w : World} (hl : E.length ≤ 1048576) (hv : Rd k53 w v E) (hu : Rd k53 w u E) :
    Calls Try.prog 46 #[v, u] w fun e w' => e = .returned (.bool true) ∧ Below w.heap.size w w' := by
  have HV := Lib.hid hv; have HU := Lib.hid hu
  obtain ⟨AV, cV, rfl, -, -⟩ := hv
  obtain ⟨AU, cU, rfl, -, -⟩ := hu
  obtain ⟨n, hn⟩ : ∃ n, E.length = n := ⟨_, rfl⟩
  have HN := Lib.hid hn
  rw [hn] at hl ⊢
  clear hn
  go_enter Try.func46, Try.ntmps46
  go_wp2_with fail
  go_loopw [5] (fun iv wr => ∃ x : Nat, x ≤ n ∧ iv = .int .i64 (x : Int) ∧ Below w.heap.size w wr) (fun iv _ => n - (intOf iv).toNat)
  case atStart => exact ⟨0, Nat.zero_le _, rfl, Below.refl _ _⟩
  case round =>
    obtain ⟨x, hx, rfl, hB⟩ := hrel
    by_cases hlt : x < n
    · have q0 := decide_eq_true (show (x : Int) < (n : Int) by omega)
      have hxn := eq_true (show (x : Int) < (n : Int) by omega)
      have p1 : IntKind.wrap .i64 ((x : Int) + 1) = (x : Int) + 1 := by rw [i64_w]; unfold wrap64; omega
      obtain ⟨A1, d1, e1, -, h1⟩ := HV.out.below hB
      obtain ⟨A2, d2, e2, -, h2⟩ := HU.out.below hB
      injection e1 with e1 _ e3; injection e2 with e2 _ e4
      subst e1 e2 e3 e4
      obtain ⟨ad, rfl, u0, u1, u2, u3, u4, u5⟩ := at_T53 h1 (x : Int) (by omega) (by rw [HN.out]; omega)
      obtain ⟨bd, rfl, t0, t1, t2, t3, t4, t5⟩ := at_T53 h2 (x : Int) (by omega) (by rw [HN.out]; omega)
      rw [Int.toNat_natCast] at u0 u1 u2 u3 u4 u5 t0 t1 t2 t3 t4 t5
      obtain ⟨c, hc⟩ : ∃ c, rd_T53 E (x : Int) = c := ⟨_, rfl⟩
      rw [hc] at u0 u1 u2 u3 u4 u5 t0 t1 t2 t3 t4 t5
      have B := Lib.hid hB
      have cC := fun X => eqEvC c X
      have CC := Lib.hid cC
      clear hB h1 h2 hc cC
      go_wp2_with fail
      have below_drew := fun (X : World) (h : Below wr.drew.heap.size wr.drew X) => h
      refine start_ (n := 10) (S := fun w' => w'.cell? (ad.add (x * 6)) = some (.int .i64 c.f0) ∧ w'.cell? ⟨(ad.add (x * 6)).block, (ad.add (x * 6)).off + 1, none⟩ = some (.int .i64 c.f1) ∧ w'.cell? ⟨(ad.add (x * 6)).block, (ad.add (x * 6)).off + 2, none⟩ = some (.int .i64 c.f2) ∧ w'.cell? ⟨(ad.add (x * 6)).block, (ad.add (x * 6)).off + 3, none⟩ = some (.int .i64 c.f3) ∧ w'.cell? ⟨(ad.add (x * 6)).block, (ad.add (x * 6)).off + 4, none⟩ = some (.int .i64 c.f4) ∧ w'.cell? ⟨(ad.add (x * 6)).block, (ad.add (x * 6)).off + 5, none⟩ = some (.int .i64 c.f5) ∧ w'.cell? (bd.add (x * 6)) = some (.int .i64 c.f0) ∧ w'.cell? ⟨(bd.add (x * 6)).block, (bd.add (x * 6)).off + 1, none⟩ = some (.int .i64 c.f1) ∧ w'.cell? ⟨(bd.add (x * 6)).block, (bd.add (x * 6)).off + 2, none⟩ = some (.int .i64 c.f2) ∧ w'.cell? ⟨(bd.add (x * 6)).block, (bd.add (x * 6)).off + 3, none⟩ = some (.int .i64 c.f3) ∧ w'.cell? ⟨(bd.add (x * 6)).block, (bd.add (x * 6)).off + 4, none⟩ = some (.int .i64 c.f4) ∧ w'.cell? ⟨(bd.add (x * 6)).block, (bd.add (x * 6)).off + 5, none⟩ = some (.int .i64 c.f5)) (ds := []) #[false, false, false, false, false, false, false, false, false, false] (by kernel_rfl) rfl rfl ⟨u0, u1, u2, u3, u4, u5, t0, t1, t2, t3, t4, t5⟩ (fun hHeld => ?_)
      refine pure_ (i := 0) (N := some 17) (v := ?_) (a' := ?_) #[true, false, false, false, false, false, false, false, false, false] rfl rfl (by kernel_rfl) (fun _ _ _ h => h) (Or.inl ⟨by rfl, ?_⟩) ?_ ?_
      rotate_left
      · intro w'
        go_simp
        with_reducible rfl
      rotate_left
      · simp only [Act.put, List.setIfInBounds_toArray, List.set_cons_zero, List.set_cons_succ, i64_w, i32_w]
        rfl
      refine pure_ (i := 1) (N := some 18) (v := ?_) (a' := ?_) #[true, true, false, false, false, false, false, false, false, false] rfl rfl (by kernel_rfl) (fun _ _ _ h => h) (Or.inl ⟨by rfl, ?_⟩) ?_ ?_
      rotate_left
      · intro w'
        go_simp
        with_reducible rfl
      rotate_left
      · simp only [Act.put, List.setIfInBounds_toArray, List.set_cons_zero, List.set_cons_succ, i64_w, i32_w]
        rfl
      refine pure_ (i := 2) (N := some 19) (v := ?_) (a' := ?_) #[true, true, true, false, false, false, false, false, false, false] rfl rfl (by kernel_rfl) (fun _ _ _ h => h) (Or.inl ⟨by rfl, ?_⟩) ?_ ?_
      rotate_left
      · intro w'
        go_simp
        with_reducible rfl
      rotate_left
      · simp only [Act.put, List.setIfInBounds_toArray, List.set_cons_zero, List.set_cons_succ, i64_w, i32_w]
        rfl
      refine pure_ (i := 4) (N := some 21) (v := ?_) (a' := ?_) #[true, true, true, false, true, false, false, false, false, false] rfl rfl (by kernel_rfl) (fun _ _ _ h => h) (Or.inl ⟨by rfl, ?_⟩) ?_ ?_
      rotate_left
      · intro w'
        go_simp
        with_reducible rfl
      rotate_left
      · simp only [Act.put, List.setIfInBounds_toArray, List.set_cons_zero, List.set_cons_succ, i64_w, i32_w]
        rfl
      refine pure_ (i := 5) (N := some 22) (v := ?_) (a' := ?_) #[true, true, true, false, true, true, false, false, false, false] rfl rfl (by kernel_rfl) (fun _ _ _ h => h) (Or.inl ⟨by rfl, ?_⟩) ?_ ?_
      rotate_left
      · intro w'
        go_simp
        with_reducible rfl
      rotate_left
      · simp only [Act.put, List.setIfInBounds_toArray, List.set_cons_zero, List.set_cons_succ, i64_w, i32_w]
        rfl
      refine pure_ (i := 6) (N := some 23) (v := ?_) (a' := ?_) #[true, true, true, false, true, true, true, false, false, false] rfl rfl (by kernel_rfl) (fun _ _ _ h => h) (Or.inl ⟨by rfl, ?_⟩) ?_ ?_
      rotate_left
      · intro w'
        go_simp
        with_reducible rfl
      rotate_left
      · simp only [Act.put, List.setIfInBounds_toArray, List.set_cons_zero, List.set_cons_succ, i64_w, i32_w]
        rfl
      refine take_ (i := 3) (N := some 20) (v := ?_) (a' := ?_) #[true, true, true, true, true, true, true, false, false, false] rfl rfl (by kernel_rfl) (fun _ _ _ h => h) (Or.inl ⟨by rfl, ?_⟩) hHeld ?_ ?_
      rotate_left
      · rintro w' ⟨s0, s1, s2, s3, s4, s5, s6, s7, s8, s9, s10, s11⟩
        go_simp
        with_reducible rfl
      rotate_left
      · simp only [Act.put, List.setIfInBounds_toArray, List.set_cons_zero, List.set_cons_succ, i64_w, i32_w]
        rfl
      refine take_ (i := 7) (N := some 24) (v := ?_) (a' := ?_) #[true, true, true, true, true, true, true, true, false, false] rfl rfl (by kernel_rfl) (fun _ _ _ h => h) (Or.inl ⟨by rfl, ?_⟩) hHeld ?_ ?_
      rotate_left
      · rintro w' ⟨s0, s1, s2, s3, s4, s5, s6, s7, s8, s9, s10, s11⟩
        go_simp
        with_reducible rfl
      rotate_left
      · simp only [Act.put, List.setIfInBounds_toArray, List.set_cons_zero, List.set_cons_succ, i64_w, i32_w]
        rfl
      refine one_ (i := 8) (N := some 25) #[true, true, true, true, true, true, true, true, true, false] rfl rfl (by kernel_rfl) (by decide) (fun K hK => ?_)
      refine goes_ Try.func68 (by kernel_rfl) rfl #[.agg #[.int .i64 c.f0, .int .i64 c.f1, .int .i64 c.f2, .int .i64 c.f3, .int .i64 c.f4, .int .i64 c.f5], .agg #[.int .i64 c.f0, .int .i64 c.f1, .int .i64 c.f2, .int .i64 c.f3, .int .i64 c.f4, .int .i64 c.f5]] (by rfl) rfl rfl (by simp only [List.map_toArray, List.map_cons, List.map_nil]; rfl) ?_
      with_reducible refine (CC.out _).mono ?_
      rintro e w9 ⟨rfl, hB9⟩
      refine ⟨_, rfl, ?_⟩
      refine hK.out _ _ ⟨(hB9.cell (World.block_lt_of_cell? _ _ u0)).trans u0, (hB9.cell (World.block_lt_of_cell? _ _ u1)).trans u1, (hB9.cell (World.block_lt_of_cell? _ _ u2)).trans u2, (hB9.cell (World.block_lt_of_cell? _ _ u3)).trans u3, (hB9.cell (World.block_lt_of_cell? _ _ u4)).trans u4, (hB9.cell (World.block_lt_of_cell? _ _ u5)).trans u5, (hB9.cell (World.block_lt_of_cell? _ _ t0)).trans t0, (hB9.cell (World.block_lt_of_cell? _ _ t1)).trans t1, (hB9.cell (World.block_lt_of_cell? _ _ t2)).trans t2, (hB9.cell (World.block_lt_of_cell? _ _ t3)).trans t3, (hB9.cell (World.block_lt_of_cell? _ _ t4)).trans t4, (hB9.cell (World.block_lt_of_cell? _ _ t5)).trans t5⟩ (fun hHeld => ?_)
      clear hK K
      refine norm_ (a' := ?_) ?_ ?_
      rotate_left
      · show Act.put _ (some 25) _ = _
        simp only [Act.put, List.setIfInBounds_toArray, List.set_cons_zero, List.set_cons_succ, i64_w, i32_w]
        rfl
      refine pure_ (i := 9) (N := some 26) (v := ?_) (a' := ?_) #[true, true, true, true, true, true, true, true, true, true] rfl rfl (by kernel_rfl) (fun _ _ _ h => h) (Or.inl ⟨by rfl, ?_⟩) ?_ ?_
      rotate_left
      · intro w'
        go_simp
        with_reducible rfl
      rotate_left
      · simp only [Act.put, List.setIfInBounds_toArray, List.set_cons_zero, List.set_cons_succ, i64_w, i32_w]
        rfl
      refine done_ (by kernel_rfl) ?_
      have B9 := Lib.hid (below_step (below_drew1 B.out) hB9)
      clear u0 u1 u2 u3 u4 u5 t0 t1 t2 t3 t4 t5 hHeld
      go_wp2_with fail
      go_roundw
      case measure => simp [intOf]; omega
      case rel => exact ⟨x + 1, hlt, rfl, B9.out⟩
    · have q0 := decide_eq_false (show ¬ (x : Int) < (n : Int) by omega)
      have B := Lib.hid hB
      clear hB
      go_wp2_with fail
      go_ret
      exact ⟨rfl, B.out⟩
set_option maxHeartbeats 4000000 in
set_option maxRecDepth 100000 in
theorem eqP {C : List Int} {M : Int} {T : List (List (List S63))} {x y x' y' : Value} {w : World} {kc kt : Nat} (hc : laws_eqIntS.f kc C C = some true) (ht : laws_eqTxOpSSS.f kt T T = some true) (hx : Rd ki w x C) (hy : Rd kT w y T) (hx' : Rd ki w x' C) (hy' : Rd kT w y' T) :
    Calls Try.prog 12 #[.agg #[x, .int .i64 M, y], .agg #[x', .int .i64 M, y']] w fun e w' => e = .returned (.bool true) ∧ Below w.heap.size w w' := by
  have HX := Lib.hid hx; have HY := Lib.hid hy; have HX' := Lib.hid hx'; have HY' := Lib.hid hy'; have HC := Lib.hid hc; have HT := Lib.hid ht
  obtain ⟨A, c1, rfl, -, -⟩ := hx
  obtain ⟨A', c2, rfl, hA, -⟩ := hy
  obtain ⟨B, d1, rfl, -, -⟩ := hx'
  obtain ⟨B', d2, rfl, hD, -⟩ := hy'
  have p := two_new w #[.slice A C.length c1, .int .i64 M, .slice A' T.length c2] #[.slice B C.length d1, .int .i64 M, .slice B' T.length d2] 30
  have a0 := (p 0).1.trans rfl; have b0 := (p 0).2.trans rfl
  have a1 := (p 1).1.trans rfl; have b1 := (p 1).2.trans rfl
  have a2 := (p 2).1.trans rfl; have b2 := (p 2).2.trans rfl
  clear p hc ht
  go_enter Try.func12, Try.ntmps12
  go_wp2_with fail
  obtain ⟨W2, hW2⟩ : ∃ W2, (w.alloc (.cells #[.slice A C.length c1, .int .i64 M, .slice A' T.length c2] 30)).alloc (.cells #[.slice B C.length d1, .int .i64 M, .slice B' T.length d2] 30) = W2 := ⟨_, rfl⟩
  have B0 := Lib.hid (show Below w.heap.size w W2 by rw [← hW2]; exact below_alloc (below_alloc (Below.refl _ _) _) _)
  rw [hW2] at a0 a1 a2 b0 b1 b2 ⊢
  clear hW2
  refine (eqI HC.out (HX.out.below B0.out) (HX'.out.below B0.out)).mono ?_
  rintro e w3 ⟨rfl, hB⟩
  have B3 := Lib.hid (below_step B0.out hB)
  have a3 := (hB.cell (World.block_lt_of_cell? _ _ a1)).trans a1; have a4 := (hB.cell (World.block_lt_of_cell? _ _ a2)).trans a2
  have b3 := (hB.cell (World.block_lt_of_cell? _ _ b1)).trans b1; have b4 := (hB.cell (World.block_lt_of_cell? _ _ b2)).trans b2
  clear hB a0 a1 a2 b0 b1 b2
  go_wp2_with fail
  obtain ⟨A9, c9, e9, -, hr9⟩ := HY.out.below B3.out
  obtain ⟨B9, d9, f9, -, gr9⟩ := HY'.out.below B3.out
  injection e9 with e9 _ e10; injection f9 with f9 _ f10
  subst e9 e10 f9 f10
  refine (laws_eqTxOpSSS.calls kt _ _ T _ _ T true w3 hr9 hA gr9 hD HT.out).mono ?_
  rintro e w4 ⟨rfl, hB⟩
  have B4 := Lib.hid (below_step B3.out hB)
  clear hB a3 a4 b3 b4 hr9 gr9
  go_wp2_with fail
  go_ret
  exact ⟨rfl, B4.out⟩
set_option maxHeartbeats 4000000 in
set_option maxRecDepth 100000 in
theorem eqL {E : List S53} {C D : List Int} {c : Int} {x y z x' y' z' : Value} {w : World} {k kc kd : Nat} (hE : E.length ≤ 1048576) (hc : laws_eqIntS.f kc C C = some true) (hd : laws_eqIntS.f kd D D = some true) (hx : Rd k53 w x E) (hy : Rd ki w y C) (hz : Rd ki w z D) (hx' : Rd k53 w x' E) (hy' : Rd ki w y' C) (hz' : Rd ki w z' D) :
    Calls Try.prog 22 #[.agg #[.int .i64 c, .int .i64 0, x, y, z], .agg #[.int .i64 c, .int .i64 0, x', y', z']] w fun e w' => e = .returned (.bool true) ∧ Below w.heap.size w w' := by
  have HX := Lib.hid hx; have HY := Lib.hid hy; have HZ := Lib.hid hz; have HX' := Lib.hid hx'; have HY' := Lib.hid hy'; have HZ' := Lib.hid hz'; have HC := Lib.hid hc; have HD := Lib.hid hd
  obtain ⟨A, c1, rfl, -, -⟩ := hx
  obtain ⟨A', c2, rfl, -, -⟩ := hy
  obtain ⟨A2, c3, rfl, -, -⟩ := hz
  obtain ⟨B, d1, rfl, -, -⟩ := hx'
  obtain ⟨B', d2, rfl, -, -⟩ := hy'
  obtain ⟨B2, d3, rfl, -, -⟩ := hz'
  have p := two_new w #[.int .i64 c, .int .i64 0, .slice A E.length c1, .slice A' C.length c2, .slice A2 D.length c3] #[.int .i64 c, .int .i64 0, .slice B E.length d1, .slice B' C.length d2, .slice B2 D.length d3] 43
  have a0 := (p 0).1.trans rfl; have b0 := (p 0).2.trans rfl
  have a1 := (p 1).1.trans rfl; have b1 := (p 1).2.trans rfl
  have a2 := (p 2).1.trans rfl; have b2 := (p 2).2.trans rfl
  have a3 := (p 3).1.trans rfl; have b3 := (p 3).2.trans rfl
  have a4 := (p 4).1.trans rfl; have b4 := (p 4).2.trans rfl
  clear p hc hd
  go_enter Try.func22, Try.ntmps22
  go_wp2_with fail
  obtain ⟨W2, hW2⟩ : ∃ W2, (w.alloc (.cells #[.int .i64 c, .int .i64 0, .slice A E.length c1, .slice A' C.length c2, .slice A2 D.length c3] 43)).alloc (.cells #[.int .i64 c, .int .i64 0, .slice B E.length d1, .slice B' C.length d2, .slice B2 D.length d3] 43) = W2 := ⟨_, rfl⟩
  have B0 := Lib.hid (show Below w.heap.size w W2 by rw [← hW2]; exact below_alloc (below_alloc (Below.refl _ _) _) _)
  rw [hW2] at a0 a1 a2 a3 a4 b0 b1 b2 b3 b4 ⊢
  clear hW2
  refine (eqEvsC hE (HX.out.below B0.out) (HX'.out.below B0.out)).mono ?_
  rintro e w3 ⟨rfl, hB⟩
  have B3 := Lib.hid (below_step B0.out hB)
  have a3' := (hB.cell (World.block_lt_of_cell? _ _ a3)).trans a3; have a4' := (hB.cell (World.block_lt_of_cell? _ _ a4)).trans a4
  have b3' := (hB.cell (World.block_lt_of_cell? _ _ b3)).trans b3; have b4' := (hB.cell (World.block_lt_of_cell? _ _ b4)).trans b4
  clear hB a0 a1 a2 a3 a4 b0 b1 b2 b3 b4
  go_wp2_with fail
  refine (eqI HC.out (HY.out.below B3.out) (HY'.out.below B3.out)).mono ?_
  rintro e w4 ⟨rfl, hB⟩
  have B4 := Lib.hid (below_step B3.out hB)
  have a5 := (hB.cell (World.block_lt_of_cell? _ _ a4')).trans a4'
  have b5 := (hB.cell (World.block_lt_of_cell? _ _ b4')).trans b4'
  clear hB a3' a4' b3' b4'
  go_wp2_with fail
  refine (eqI HD.out (HZ.out.below B4.out) (HZ'.out.below B4.out)).mono ?_
  rintro e w5 ⟨rfl, hB⟩
  have B5 := Lib.hid (below_step B4.out hB)
  clear hB a5 b5
  go_wp2_with fail
  go_ret
  exact ⟨rfl, B5.out⟩
set_option maxHeartbeats 4000000 in
set_option maxRecDepth 100000 in
theorem heldL {E : List S53} {C D : List Int} {c a r : Int} {x y z : Value} {w : World} {k : Nat} {b1 b2 : Int} (h1 : laws_heldTxEventS.f k E a = some b1) (h2 : laws_heldIntS.f k C b1 = some b2) (h3 : laws_heldIntS.f k D b2 = some r) (p1 : 0 ≤ b1) (p2 : 0 ≤ b2) (p3 : 0 ≤ r) (hx : Rd k53 w x E) (hy : Rd ki w y C) (hz : Rd ki w z D) :
    Calls Try.prog 24 #[.agg #[.int .i64 c, .int .i64 0, x, y, z], .int .i64 a] w fun e w' => e = .returned (.int .i64 r) ∧ Below w.heap.size w w' := by
  have HX := Lib.hid hx; have HY := Lib.hid hy; have HZ := Lib.hid hz; have H1 := Lib.hid h1; have H2 := Lib.hid h2; have H3 := Lib.hid h3
  obtain ⟨A, c1, rfl, hA, -⟩ := hx
  obtain ⟨A', c2, rfl, -, -⟩ := hy
  obtain ⟨A2, c3, rfl, -, -⟩ := hz
  have q1 := decide_eq_false (show ¬ b1 < 0 by omega); have q2 := decide_eq_false (show ¬ b2 < 0 by omega); have q3 := decide_eq_false (show ¬ r < 0 by omega)
  have p := fun o => blk_cell (heap_alloc_new w (.cells #[.int .i64 c, .int .i64 0, .slice A E.length c1, .slice A' C.length c2, .slice A2 D.length c3] 43)) o
  have a2 := (p 2).trans rfl; have a3 := (p 3).trans rfl; have a4 := (p 4).trans rfl
  clear p h1 h2 h3 p1 p2 p3
  go_enter Try.func24, Try.ntmps24
  go_wp2_with fail
  obtain ⟨W2, hW2⟩ : ∃ W2, w.alloc (.cells #[.int .i64 c, .int .i64 0, .slice A E.length c1, .slice A' C.length c2, .slice A2 D.length c3] 43) = W2 := ⟨_, rfl⟩
  have B0 := Lib.hid (show Below w.heap.size w W2 by rw [← hW2]; exact below_alloc (Below.refl _ _) _)
  rw [hW2] at a2 a3 a4 ⊢
  clear hW2
  obtain ⟨A9, c9, e9, h9, hr9⟩ := HX.out.below B0.out
  injection e9 with e9 _ e10
  subst e9 e10
  refine (laws_heldTxEventS.calls k A c1 E a b1 W2 hr9 hA H1.out).mono ?_
  rintro e w3 ⟨rfl, hd⟩
  have hB := drawn_below hd
  have B3 := Lib.hid (below_step B0.out hB)
  have a3' := (hB.cell (World.block_lt_of_cell? _ _ a3)).trans a3; have a4' := (hB.cell (World.block_lt_of_cell? _ _ a4)).trans a4
  clear hB hd a2 a3 a4 hr9 h9
  go_wp2_with fail
  refine (heldI H2.out (HY.out.below B3.out)).mono ?_
  rintro e w4 ⟨rfl, hB⟩
  have B4 := Lib.hid (below_step B3.out hB)
  have a5 := (hB.cell (World.block_lt_of_cell? _ _ a4')).trans a4'
  clear hB a3' a4'
  go_wp2_with fail
  refine (heldI H3.out (HZ.out.below B4.out)).mono ?_
  rintro e w5 ⟨rfl, hB⟩
  have B5 := Lib.hid (below_step B4.out hB)
  clear hB a5
  go_wp2_with fail
  go_ret
  exact ⟨rfl, B5.out⟩
/-! marks of events, plain -/
def evM (k : Int) : S53 := ⟨k, k + 1, k + 2, k + 3, k + 4, k + 5⟩
def mkE (a : Int) (xs : List S53) (n : Nat) : List S53 := (List.range xs.length).map (fun i => if i < n then evM (a + 6 * (i : Int)) else xs.getD i ⟨0, 0, 0, 0, 0, 0⟩)
theorem mkE_len (a : Int) (xs : List S53) (n : Nat) : (mkE a xs n).length = xs.length := by simp [mkE]
theorem mkE_zero (a : Int) (xs : List S53) : mkE a xs 0 = xs := by
  apply List.ext_getElem (by simp [mkE])
  intro i h1 h2
  simp [mkE, h2]
theorem mkE_set (a : Int) (xs : List S53) (n : Nat) (h : n < xs.length) : (mkE a xs n).set n (evM (a + 6 * (n : Int))) = mkE a xs (n + 1) := by
  apply List.ext_getElem (by simp [mkE])
  intro i h1 h2
  have hi : i < xs.length := by simpa [mkE] using h2
  rw [List.getElem_set]
  simp only [mkE, List.getElem_map, List.getElem_range]
  by_cases e : n = i
  · subst e; simp
  · rw [if_neg e]
    by_cases q : i < n
    · rw [if_pos q, if_pos (by omega)]
    · rw [if_neg q, if_neg (by omega)]
theorem wrq0 (q : Int) (h0 : 0 ≤ q) (h : q ≤ 5000000000000000000) : wrap64 (q + 1) = q + 1 := wrap_small _ (by omega) (by omega)
theorem wrq (q m : Int) (h0 : 0 ≤ q) (h : q ≤ 5000000000000000000) (hm : 0 ≤ m) (hm2 : m ≤ 10) : wrap64 (q + m + 1) = q + (m + 1) := by rw [wrap_small _ (by omega) (by omega)]; omega
theorem rd53 (l : List S53) (n : Nat) (h : n < l.length) : rd_T53 l (n : Int) = l[n] := getD_at l n _ h
theorem rd53_set (l : List S53) (n : Nat) (v : S53) (h : n < l.length) : rd_T53 (l.set n v) (n : Int) = v := by
  rw [rd53 _ n (by simpa using h)]
  simp
theorem markE_from (a : Int) (xs : List S53) (ha : 0 ≤ a) (ha2 : a ≤ 4611686018427387904) (hl : xs.length ≤ 1048576) :
    ∀ d n, n + d = xs.length → Ev (fun k => laws_markTxEventS.l0 k (mkE a xs n) (a + 6 * (n : Int)) (n : Int)) (a + 6 * (xs.length : Int), mkE a xs xs.length) := by
  intro d
  induction d with
  | zero =>
    intro n hn
    obtain rfl : n = xs.length := by omega
    exact Ev.step (f := fun _ => some (a + 6 * (xs.length : Int), mkE a xs xs.length)) (fun k => by simp only [laws_markTxEventS.l0]; rw [if_neg (by rw [mkE_len]; omega)]) (Ev.now _)
  | succ d ih =>
    intro n hn
    refine Ev.step (fun k => ?_) (ih (n + 1) (by omega))
    have hlt : n < (mkE a xs n).length := by rw [mkE_len]; omega
    obtain ⟨q, hq⟩ : ∃ q, a + 6 * (n : Int) = q := ⟨_, rfl⟩
    have i1 : (n : Int) < ((mkE a xs n).length : Int) := by omega
    have i2 : (0 : Int) ≤ (n : Int) := by omega
    have i3 : a + 6 * ((n + 1 : Nat) : Int) = q + 6 := by omega
    have i4 : ((n + 1 : Nat) : Int) = (n : Int) + 1 := by omega
    have e := mkE_set a xs n (by omega)
    have q0 : 0 ≤ q := by omega
    have q1 : q ≤ 5000000000000000000 := by omega
    have n1 : (n : Int) ≤ 2000000 := by omega
    have w1 : wrap64 (q + 1) = q + 1 := wrq0 q q0 q1
    have w2 : wrap64 (q + 1 + 1) = q + 2 := wrq q 1 q0 q1 (by decide) (by decide)
    have w3 : wrap64 (q + 2 + 1) = q + 3 := wrq q 2 q0 q1 (by decide) (by decide)
    have w4 : wrap64 (q + 3 + 1) = q + 4 := wrq q 3 q0 q1 (by decide) (by decide)
    have w5 : wrap64 (q + 4 + 1) = q + 5 := wrq q 4 q0 q1 (by decide) (by decide)
    have w6 : wrap64 (q + 5 + 1) = q + 6 := wrq q 5 q0 q1 (by decide) (by decide)
    have wn : wrap64 ((n : Int) + 1) = (n : Int) + 1 := wrq0 _ (Int.natCast_nonneg n) (Int.le_trans n1 (by decide))
    rw [hq]
    simp only [laws_markTxEventS.l0]
    rw [if_pos i1, if_pos i2]
    clear i1 i2
    simp only [Option.bind_some, Int.toNat_natCast, w1, w2, w3, w4, w5, w6, wn]
    rw [rd53_set _ _ _ hlt]
    simp only [List.set_set]
    rw [rd53_set _ _ _ hlt]
    simp only [List.set_set]
    rw [rd53_set _ _ _ hlt]
    simp only [List.set_set]
    rw [rd53_set _ _ _ hlt]
    simp only [List.set_set]
    rw [rd53_set _ _ _ hlt]
    simp only [List.set_set]
    rw [hq] at e
    unfold evM at e
    rw [e, i3, i4]
theorem mkE_at (a : Int) (xs : List S53) (n : Nat) (h : n < xs.length) : rd_T53 (mkE a xs xs.length) (n : Int) = evM (a + 6 * (n : Int)) := by
  rw [rd53 _ n (by rw [mkE_len]; exact h)]
  simp [mkE, h]
theorem heldE_from (a : Int) (xs : List S53) (ha : 0 ≤ a) (ha2 : a ≤ 4611686018427387904) (hl : xs.length ≤ 1048576) :
    ∀ d n, n + d = xs.length → Ev (fun k => laws_heldTxEventS.l0 k (mkE a xs xs.length) (a + 6 * (n : Int)) (n : Int)) (a + 6 * (xs.length : Int)) := by
  intro d
  induction d with
  | zero =>
    intro n hn
    obtain rfl : n = xs.length := by omega
    exact Ev.step (f := fun _ => some (a + 6 * (xs.length : Int))) (fun k => by simp only [laws_heldTxEventS.l0]; rw [if_neg (by rw [mkE_len]; omega)]) (Ev.now _)
  | succ d ih =>
    intro n hn
    refine Ev.step (fun k => ?_) (ih (n + 1) (by omega))
    have hat := mkE_at a xs n (by omega)
    obtain ⟨q, hq⟩ : ∃ q, a + 6 * (n : Int) = q := ⟨_, rfl⟩
    have i1 : (n : Int) < ((mkE a xs xs.length).length : Int) := by rw [mkE_len]; omega
    have i2 : (0 : Int) ≤ (n : Int) := by omega
    have i3 : a + 6 * ((n + 1 : Nat) : Int) = q + 6 := by omega
    have i4 : ((n + 1 : Nat) : Int) = (n : Int) + 1 := by omega
    have q0 : 0 ≤ q := by omega
    have q1 : q ≤ 5000000000000000000 := by omega
    have n1 : (n : Int) ≤ 2000000 := by omega
    have w1 : wrap64 (q + 1) = q + 1 := wrq0 q q0 q1
    have w2 : wrap64 (q + 1 + 1) = q + 2 := wrq q 1 q0 q1 (by decide) (by decide)
    have w3 : wrap64 (q + 2 + 1) = q + 3 := wrq q 2 q0 q1 (by decide) (by decide)
    have w4 : wrap64 (q + 3 + 1) = q + 4 := wrq q 3 q0 q1 (by decide) (by decide)
    have w5 : wrap64 (q + 4 + 1) = q + 5 := wrq q 4 q0 q1 (by decide) (by decide)
    have w6 : wrap64 (q + 5 + 1) = q + 6 := wrq q 5 q0 q1 (by decide) (by decide)
    have wn : wrap64 ((n : Int) + 1) = (n : Int) + 1 := wrq0 _ (Int.natCast_nonneg n) (Int.le_trans n1 (by decide))
    rw [hq] at hat ⊢
    simp only [laws_heldTxEventS.l0, hat]
    simp only [evM, w1, w2, w3, w4, w5, w6, wn]
    rw [if_pos i1, if_pos i2]
    simp only [if_true]
    rw [i3, i4]
theorem markEv (xs : List S53) (a : Int) (ha : 0 ≤ a) (ha2 : a ≤ 4611686018427387904) (hl : xs.length ≤ 1048576) : Ev (fun k => laws_markTxEventS.f k xs a) (a + 6 * (xs.length : Int), mkE a xs xs.length) ∧ Ev (fun k => laws_heldTxEventS.f k (mkE a xs xs.length) a) (a + 6 * (xs.length : Int)) := by
  refine ⟨?_, ?_⟩
  · have := markE_from a xs ha ha2 hl xs.length 0 (by omega)
    rw [mkE_zero] at this
    simpa [laws_markTxEventS.f] using this
  · have := heldE_from a xs ha ha2 hl xs.length 0 (by omega)
    simpa [laws_heldTxEventS.f] using this
theorem markIn (xs : List Int) (a : Int) (ha : 0 ≤ a) (ha2 : a ≤ 4611686018427387904) (hl : xs.length ≤ 1048576) : Ev (fun k => laws_markIntS.f k xs a) (a + (xs.length : Int), mks a xs xs.length) ∧ Ev (fun k => laws_heldIntS.f k (mks a xs xs.length) a) (a + (xs.length : Int)) := by
  refine ⟨?_, ?_⟩
  · have := mark_from a xs ha ha2 hl xs.length 0 (by omega)
    rw [mks_zero] at this
    simpa [laws_markIntS.f] using this
  · have := held_from a xs ha ha2 hl xs.length 0 (by omega)
    simpa [laws_heldIntS.f] using this
theorem markG (w0 w : World) (lo hi : Nat) (v0 v2 v3 v4 : Value) (r : FR) (a : Int) (h : Ans w w0.heap.size lo hi v0 v2 v3 v4 r) (hB : Below w0.heap.size w0 w) (ha : 0 ≤ a) (ha2 : a ≤ 4611686018427387904) (hl : r.out.length ≤ 1048576) :
    Calls Try.prog 18 #[v0, .int .i64 a] w fun e w' => e = .returned (.int .i64 (a + (r.out.length : Int))) ∧ Ans w' w0.heap.size lo hi v0 v2 v3 v4 { r with out := mks a r.out r.out.length } ∧ Below w0.heap.size w0 w' ∧ Kept w w' (fun b => lo ≤ b ∧ b < hi) := by
  obtain ⟨k, hk⟩ := Ev.rounds (markIn r.out a ha ha2 hl).1
  refine (laws_markIntS.calls k (fun b => v0.ownBlock = some b) v0 r.out a _ _ w0 w hB (Kd.R_reok rfl h.o0 (fun b hb => hb)) hk).mono ?_
  rintro e w' ⟨he, hR, hB2, hK⟩
  have st : ∀ u : Value, Apart2 v0 u → ∀ b, u.ownBlock = some b → b < w.heap.size → w'.heap[b]? = w.heap[b]? := fun u hu b hb hlt => hK.2 b hlt (fun e => hu b e hb)
  have mv : ∀ {α : Type} {d : Kd α} {t : Nat} {u : Value} {xs : List α}, d.E = [] → d.R t w w0.heap.size (fun b => lo ≤ b ∧ b < hi) u xs → Apart2 v0 u → d.R t w' w0.heap.size (fun b => lo ≤ b ∧ b < hi) u xs := fun hi_ hr hu =>
    Kd.R_reok hi_ (Kd.R_step (Kd.R_reok hi_ hr (fun b hb => hb)) (fun b hb hlt => st _ hu b hb hlt)) (fun b hb => hr.1 b hb)
  exact ⟨he, ⟨Nat.le_trans h.le hK.1, Kd.R_reok rfl hR (fun b hb => h.o0.1 b hb), mv rfl h.o2 h.d02, mv rfl h.o3 h.d03, mv rfl h.o4 h.d04, h.d02, h.d03, h.d04, h.d34⟩, hB2, ⟨hK.1, fun b hlt hn => hK.2 b hlt (fun e => hn (h.o0.1 b e))⟩⟩
theorem markL (w0 w : World) (lo hi : Nat) (v0 v2 v3 v4 : Value) (r : FR) (a : Int) (h : Ans w w0.heap.size lo hi v0 v2 v3 v4 r) (hB : Below w0.heap.size w0 w) (ha : 0 ≤ a) (ha2 : a ≤ 1048577) (hl2 : r.evs.length ≤ 1048576) (hl3 : r.cells.length ≤ 1048576) (hl4 : r.done.length ≤ 1048576) :
    Calls Try.prog 23 #[.agg #[.int .i64 r.code, .int .i64 0, v2, v3, v4], .int .i64 a] w fun e w' => ∃ b : Int, e = .returned (.int .i64 b) ∧ 0 ≤ b ∧ ∃ s : FR, s.code = r.code ∧ s.out = r.out ∧ Ans w' w0.heap.size lo hi v0 v2 v3 v4 s ∧ (∃ k b1 b2, laws_heldTxEventS.f k s.evs a = some b1 ∧ laws_heldIntS.f k s.cells b1 = some b2 ∧ laws_heldIntS.f k s.done b2 = some b ∧ 0 ≤ b1 ∧ 0 ≤ b2) ∧ Below w0.heap.size w0 w' ∧ Kept w w' (fun b => lo ≤ b ∧ b < hi) := by
  obtain ⟨b1, hb1⟩ : ∃ b1, a + 6 * (r.evs.length : Int) = b1 := ⟨_, rfl⟩
  obtain ⟨b2, hb2⟩ : ∃ b2, b1 + (r.cells.length : Int) = b2 := ⟨_, rfl⟩
  obtain ⟨b3, hb3⟩ : ∃ b3, b2 + (r.done.length : Int) = b3 := ⟨_, rfl⟩
  have m1 := markEv r.evs a ha (by omega) hl2
  have m2 := markIn r.cells b1 (by omega) (by omega) hl3
  have m3 := markIn r.done b2 (by omega) (by omega) hl4
  rw [hb1] at m1
  rw [hb2] at m2
  rw [hb3] at m3
  obtain ⟨k, hk⟩ := Ev.rounds (show Ev (fun k => laws_markTxLog.f k r.code 0 r.evs r.cells r.done a) (b3, mkE a r.evs r.evs.length, mks b1 r.cells r.cells.length, mks b2 r.done r.done.length) by
    unfold laws_markTxLog.f
    exact Ev.bind m1.1 (Ev.bind m2.1 (Ev.bind m3.1 (Ev.now _))))
  obtain ⟨K1, g1⟩ := m1.2; obtain ⟨K2, g2⟩ := m2.2; obtain ⟨K3, g3⟩ := m3.2
  refine (laws_markTxLog.calls k r.code 0 (fun b => v2.ownBlock = some b) v2 r.evs (fun b => v3.ownBlock = some b) v3 r.cells (fun b => v4.ownBlock = some b) v4 r.done a _ _ _ _ w0 w hB (Kd.R_reok rfl h.o2 (fun b hb => hb)) (Kd.R_reok rfl h.o3 (fun b hb => hb)) (fun b h1 h2 => h.d34 b h1 h2) (Kd.R_reok rfl h.o4 (fun b hb => hb)) (fun b h1 h2 => h.d34 b h2 h1) hk).mono ?_
  rintro e w' ⟨he, hR2, hR3, hR4, hB2, hK⟩
  refine ⟨b3, he, by omega, ⟨r.out, r.code, mkE a r.evs r.evs.length, mks b1 r.cells r.cells.length, mks b2 r.done r.done.length⟩, rfl, rfl, ⟨Nat.le_trans h.le hK.1, ?_, Kd.R_reok rfl hR2 (fun b hb => h.o2.1 b hb), Kd.R_reok rfl hR3 (fun b hb => h.o3.1 b hb), Kd.R_reok rfl hR4 (fun b hb => h.o4.1 b hb), h.d02, h.d03, h.d04, h.d34⟩, ⟨K1 + K2 + K3, b1, b2, g1 _ (by omega), g2 _ (by omega), g3 _ (by omega), by omega, by omega⟩, hB2, ⟨hK.1, fun b hlt hn => hK.2 b hlt (fun e => hn (e.elim (h.o2.1 b) (fun e => e.elim (h.o3.1 b) (h.o4.1 b))))⟩⟩
  refine Kd.R_reok rfl (Kd.R_step (Kd.R_reok rfl h.o0 (fun b hb => hb)) (fun b hb hlt => hK.2 b hlt (fun e => ?_))) (fun b hb => h.o0.1 b hb)
  rcases e with e | e | e
  · exact h.d02 b hb e
  · exact h.d03 b hb e
  · exact h.d04 b hb e
end Go.Proofs.Ytonhmkllfbagmaa.PFnExactTxFair
