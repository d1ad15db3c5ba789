/- TxSerial: the contracts that the law's walk meets, each over values. -/
import Derived.Test.YtonhmkllfbagmaaPureFnExactTxSerial
import Derived.Test.YtonhmkllfbagmaaMrk
namespace Go.Proofs.Ytonhmkllfbagmaa.PFnExactTxSerial
open Go.RowKit Go.Proofs.YtonhmkllfbagmaaW.PrintWords Go.Proofs.YtonhmkllfbagmaaW.PrintLast Go.Proofs.YtonhmkllfbagmaaW.PrintMore
open PureTxSerial
set_option linter.unusedSimpArgs false
set_option linter.unusedVariables false

abbrev ki : Kd Int := Kd.int .i64
abbrev kT : Kd (List (List S63)) := Kd.slice 61 (Kd.slice 63 k63)
abbrev kA : Kd (List (List S113)) := Kd.slice 107 (Kd.slice 113 k113)
def Rd {α : Type} (d : Kd α) (w : World) (v : Value) (xs : List α) : Prop := ∃ A c, v = .slice A xs.length c ∧ xs.length ≤ c ∧ d.C w A xs.length xs
theorem Rd.below {α : Type} {d : Kd α} {w w1 : World} {v : Value} {xs : List α} (h : Rd d w v xs) (hb : Below w.heap.size w w1) : Rd d w1 v xs := by
  obtain ⟨A, c, e, hc, hr⟩ := h
  exact ⟨A, c, e, hc, Kd.C_below hr hb⟩
theorem Rd.of {α : Type} {d : Kd α} {e : Nat} {w : World} {base : Nat} {ok : Nat → Prop} {v : Value} {xs : List α} (h : d.R e w base ok v xs) : Rd d w v xs := Kd.R_reads h
/-- A row of the call's own (of the blocks from base on) in the blocks from lo up to hi. -/
def Own {α : Type} (d : Kd α) (e : Nat) (w : World) (base lo hi : Nat) (v : Value) (xs : List α) : Prop := d.R e w base (fun b => lo ≤ b ∧ b < hi) v xs ∧ hi ≤ w.heap.size
section
variable {α : Type} {d : Kd α} {e : Nat} {w w1 : World} {base lo hi : Nat} {v : Value} {xs : List α}
theorem Own.new {ok : Nat → Prop} (h : d.R e w lo ok v xs) (hb : base ≤ lo) : Own d e w base lo w.heap.size v xs := ⟨Kd.R_lower (Kd.R_mono (Kd.R_bound h) (fun _ hk => ⟨hk.2.1, hk.2.2.1⟩)) hb, Nat.le_refl _⟩
theorem Own.below (h : Own d e w base lo hi v xs) (hb : Below w.heap.size w w1) : Own d e w1 base lo hi v xs := ⟨Kd.R_below h.1 hb, Nat.le_trans h.2 hb.size⟩
theorem Own.rd (h : Own d e w base lo hi v xs) : Rd d w v xs := Rd.of h.1
theorem Own.kept {S : Nat → Prop} (h : Own d e w base lo hi v xs) (hk : Kept w w1 S) (hs : ∀ b, S b → b < lo ∨ hi ≤ b) : Own d e w1 base lo hi v xs :=
  ⟨Kd.R_step h.1 (fun k hok hlt => hk.2 k hlt (fun hS => by have := hs k hS; omega)), Nat.le_trans h.2 hk.1⟩
theorem Own.block (h : Own d e w base lo hi v xs) : ∀ b, v.ownBlock = some b → lo ≤ b ∧ b < hi := h.1.1
end
/-- A struct in a block of its own. -/
def Box (w : World) (b : Nat) (x y z : Value) : Prop := b < w.heap.size ∧ w.cell? ⟨b, 0, none⟩ = some x ∧ w.cell? ⟨b, 1, none⟩ = some y ∧ w.cell? ⟨b, 2, none⟩ = some z
theorem Box.new (w : World) (x y z : Value) (t : TypeId) : Box (w.alloc (.cells #[x, y, z] t)) w.heap.size x y z := by
  have h : ∀ o, (w.alloc (.cells #[x, y, z] t)).cell? ⟨w.heap.size, o, none⟩ = (#[x, y, z] : Array Value)[o]? := fun o => cell_of_row _ _ o _ t (0, 0) (heap_alloc_new w _)
  exact ⟨by simp, h 0, h 1, h 2⟩
theorem Box.move {w w' : World} {b : Nat} {x y z : Value} (h : Box w b x y z) (hs : w.heap.size ≤ w'.heap.size) (hb : w'.heap[b]? = w.heap[b]?) : Box w' b x y z := by
  have hc : ∀ o, w'.cell? ⟨b, o, none⟩ = w.cell? ⟨b, o, none⟩ := fun o => by unfold World.cell?; rw [hb]
  unfold Box
  rw [hc 0, hc 1, hc 2]
  exact ⟨Nat.lt_of_lt_of_le h.1 hs, h.2⟩
theorem Box.below {w w' : World} {b : Nat} {x y z : Value} (h : Box w b x y z) (hB : Below w.heap.size w w') : Box w' b x y z := h.move hB.size (hB.block b h.1)
theorem Box.kept {w w' : World} {b : Nat} {x y z : Value} {S : Nat → Prop} (h : Box w b x y z) (hk : Kept w w' S) (hn : ¬ S b) : Box w' b x y z := h.move hk.1 (hk.2 b h.1 hn)
theorem drawn_below {w w' : World} (h : Drawn0 w w') : Below w.heap.size w w' := by obtain ⟨n, rfl⟩ := h; exact pw_below_drewN (Below.refl _ _) n

section
variable {vC vT vL : Value} {C L : List Int} {M : Int} {w : World}
theorem szP {T : List (List (List S113))} {k : Nat} {a r : Int} (h : laws_szTxProg.f k C M T a = some r) (hC : Rd ki w vC C) (hT : Rd kA w vT T) :
    Calls Try.prog 8 #[.agg #[vC, .int .i64 M, vT], .int .i64 a] w fun e w' => e = .returned (.int .i64 r) ∧ Below w.heap.size w w' := by
  obtain ⟨A, c, rfl, h1, h2⟩ := hC
  obtain ⟨A', c', rfl, h3, h4⟩ := hT
  exact laws_szTxProg.calls k A c C M A' c' T a r w h2 h1 h4 h3 h
theorem toP {T : List (List (List S113))} {T' : List (List (List S63))} {k : Nat} (h : laws_toTxProg.f k C M T = some (C, M, T')) (hC : Rd ki w vC C) (hT : Rd kA w vT T) :
    Calls Try.prog 10 #[.agg #[vC, .int .i64 M, vT]] w fun e w' => ∃ v0 v2 : Value, e = .returned (.agg #[v0, .int .i64 M, v2]) ∧ ki.R 3 w' w.heap.size (fun _ => True) v0 C ∧ kT.R 54 w' w.heap.size (fun _ => True) v2 T' ∧ Below w.heap.size w w' := by
  obtain ⟨A, c, rfl, h1, h2⟩ := hC
  obtain ⟨A', c', rfl, h3, h4⟩ := hT
  exact laws_toTxProg.calls k A c C M A' c' T C M T' w h2 h1 h4 h3 h
theorem toI {k : Nat} (h : laws_toIntS.f k L = some L) (hL : Rd ki w vL L) :
    Calls Try.prog 14 #[vL] w fun e w' => ∃ v : Value, e = .returned v ∧ ki.R 3 w' w.heap.size (fun _ => True) v L ∧ Below w.heap.size w w' := by
  obtain ⟨A, c, rfl, h1, h2⟩ := hL
  exact laws_toIntS.calls k A c L L w h2 h1 h
theorem specS {T : List (List (List S63))} {k : Nat} {r : List Int × Int} (h : spec_TxSerial.f k C M T L = some r) (hC : Rd ki w vC C) (hT : Rd kT w vT T) (hL : Rd ki w vL L) :
    Calls Try.prog 13 #[.agg #[vC, .int .i64 M, vT], vL] w fun e w' => ∃ v : Value, e = .returned (.tuple #[v, .int .i64 r.2]) ∧ ki.R 3 w' w.heap.size (fun _ => True) v r.1 ∧ Below w.heap.size w w' := by
  obtain ⟨A, c, rfl, h1, h2⟩ := hC
  obtain ⟨A', c', rfl, h3, h4⟩ := hT
  obtain ⟨A2, c2, rfl, h5, h6⟩ := hL
  exact spec_TxSerial.calls k A c C M A' c' T A2 c2 L r.1 r.2 w h2 h1 h4 h3 h6 h5 h
theorem implS {T : List (List (List S63))} {k : Nat} {r : List Int × Int} (h : impl_TxSerial.f k C M T L = some r) (hC : Rd ki w vC C) (hT : Rd kT w vT T) (hL : Rd ki w vL L) :
    Calls Try.prog 15 #[.agg #[vC, .int .i64 M, vT], vL] w fun e w' => ∃ v : Value, e = .returned (.tuple #[v, .int .i64 r.2]) ∧ ki.R 3 w' w.heap.size (fun _ => True) v r.1 ∧ Below w.heap.size w w' := by
  obtain ⟨A, c, rfl, h1, h2⟩ := hC
  obtain ⟨A', c', rfl, h3, h4⟩ := hT
  obtain ⟨A2, c2, rfl, h5, h6⟩ := hL
  exact impl_TxSerial.calls k A c C M A' c' T A2 c2 L r.1 r.2 w h2 h1 h4 h3 h6 h5 h
theorem eqI {v u : Value} {k : Nat} (h : laws_eqIntS.f k L L = some true) (hv : Rd ki w v L) (hu : Rd ki w u L) :
    Calls Try.prog 16 #[v, u] w fun e w' => e = .returned (.bool true) ∧ Below w.heap.size w w' := by
  obtain ⟨A, c, rfl, h1, h2⟩ := hv
  obtain ⟨A', c', rfl, h3, h4⟩ := hu
  refine (laws_eqIntS.calls k A c L A' c' L true w h2 h1 h4 h3 h).mono ?_
  rintro e w' ⟨he, hd⟩
  exact ⟨he, drawn_below hd⟩
theorem eqP {T : List (List (List S63))} {v0 v2 u0 u2 : Value} {k : Nat} (h : laws_eqTxProg.f k C M T C M T = some true) (hv0 : Rd ki w v0 C) (hv2 : Rd kT w v2 T) (hu0 : Rd ki w u0 C) (hu2 : Rd kT w u2 T) :
    Calls Try.prog 12 #[.agg #[v0, .int .i64 M, v2], .agg #[u0, .int .i64 M, u2]] w fun e w' => e = .returned (.bool true) ∧ Below w.heap.size w w' := by
  obtain ⟨A, c, rfl, h1, h2⟩ := hv0
  obtain ⟨A', c', rfl, h3, h4⟩ := hv2
  obtain ⟨A2, c2, rfl, h5, h6⟩ := hu0
  obtain ⟨A3, c3, rfl, h7, h8⟩ := hu2
  exact laws_eqTxProg.calls k A c C M A' c' T A2 c2 C M A3 c3 T true w h2 h1 h4 h3 h6 h5 h8 h7 h
theorem heldI {v : Value} {ys : List Int} {k : Nat} {a r : Int} (h : laws_heldIntS.f k ys a = some r) (hv : Rd ki w v ys) :
    Calls Try.prog 19 #[v, .int .i64 a] w fun e w' => e = .returned (.int .i64 r) ∧ Below w.heap.size w w' := by
  obtain ⟨A, c, rfl, h1, h2⟩ := hv
  refine (laws_heldIntS.calls k A c ys a r w h2 h1 h).mono ?_
  rintro e w' ⟨he, hd⟩
  exact ⟨he, drawn_below hd⟩
end
/-! marks, plain -/
def mks (a : Int) (xs : List Int) (n : Nat) : List Int := (List.range xs.length).map (fun i => if i < n then a + (i : Int) else xs.getD i 0)
theorem mks_len (a : Int) (xs : List Int) (n : Nat) : (mks a xs n).length = xs.length := by simp [mks]
theorem mks_zero (a : Int) (xs : List Int) : mks a xs 0 = xs := by
  apply List.ext_getElem (by simp [mks])
  intro i h1 h2
  simp [mks, h2]
theorem mks_set (a : Int) (xs : List Int) (n : Nat) (h : n < xs.length) : (mks a xs n).set n (a + (n : Int)) = mks a xs (n + 1) := by
  apply List.ext_getElem (by simp [mks])
  intro i h1 h2
  have hi : i < xs.length := by simpa [mks] using h2
  rw [List.getElem_set]
  simp only [mks, List.getElem_map, List.getElem_range]
  by_cases e : n = i
  · subst e; simp
  · rw [if_neg e]
    by_cases q : i < n
    · rw [if_pos q, if_pos (by omega)]
    · rw [if_neg q, if_neg (by omega)]
theorem mks_at (a : Int) (xs : List Int) (n : Nat) (h : n < xs.length) : rd (mks a xs xs.length) (n : Int) = a + (n : Int) := by
  have := getD_at (mks a xs xs.length) n 0 (by rw [mks_len]; exact h)
  have h2 : rd (mks a xs xs.length) (n : Int) = (mks a xs xs.length).getD (n : Int).toNat 0 := rfl
  rw [h2, this]
  simp [mks, h]
theorem wrap_small (x : Int) (h0 : 0 ≤ x) (h : x ≤ 9223372036854775807) : wrap64 x = x := by unfold wrap64; omega
theorem mark_from (a : Int) (xs : List Int) (ha : 0 ≤ a) (ha2 : a ≤ 4611686018427387904) (hl : xs.length ≤ 1048576) :
    ∀ d n, n + d = xs.length → Ev (fun k => laws_markIntS.l0 k (mks a xs n) (a + (n : Int)) (n : Int)) (a + (xs.length : Int), mks a xs xs.length) := by
  intro d
  induction d with
  | zero =>
    intro n hn
    obtain rfl : n = xs.length := by omega
    exact Ev.step (f := fun _ => some (a + (xs.length : Int), mks a xs xs.length)) (fun k => by simp only [laws_markIntS.l0]; rw [if_neg (by rw [mks_len]; omega)]) (Ev.now _)
  | succ d ih =>
    intro n hn
    refine Ev.step (fun k => ?_) (ih (n + 1) (by omega))
    simp only [laws_markIntS.l0]
    rw [if_pos (by rw [mks_len]; omega), if_pos (by omega), Int.toNat_natCast, mks_set a xs n (by omega), wrap_small _ (by omega) (by omega), wrap_small _ (by omega) (by omega)]
    rw [show a + ((n + 1 : Nat) : Int) = a + (n : Int) + 1 by omega, show ((n + 1 : Nat) : Int) = (n : Int) + 1 by omega]
theorem held_from (a : Int) (xs : List Int) (ha : 0 ≤ a) (ha2 : a ≤ 4611686018427387904) (hl : xs.length ≤ 1048576) :
    ∀ d n, n + d = xs.length → Ev (fun k => laws_heldIntS.l0 k (mks a xs xs.length) (a + (n : Int)) (n : Int)) (a + (xs.length : Int)) := by
  intro d
  induction d with
  | zero =>
    intro n hn
    obtain rfl : n = xs.length := by omega
    exact Ev.step (f := fun _ => some (a + (xs.length : Int))) (fun k => by simp only [laws_heldIntS.l0]; rw [if_neg (by rw [mks_len]; omega)]) (Ev.now _)
  | succ d ih =>
    intro n hn
    refine Ev.step (fun k => ?_) (ih (n + 1) (by omega))
    simp only [laws_heldIntS.l0]
    rw [if_pos (by rw [mks_len]; omega), if_pos (by omega), if_pos (mks_at a xs n (by omega)), wrap_small _ (by omega) (by omega), wrap_small _ (by omega) (by omega)]
    rw [show a + ((n + 1 : Nat) : Int) = a + (n : Int) + 1 by omega, show ((n + 1 : Nat) : Int) = (n : Int) + 1 by omega]
theorem markI (w0 w : World) (lo hi : Nat) (v : Value) (xs : List Int) (a : Int) (h : Own ki 3 w w0.heap.size lo hi v xs) (hB : Below w0.heap.size w0 w) (ha : 0 ≤ a) (ha2 : a ≤ 4611686018427387904) (hl : xs.length ≤ 1048576) :
    Calls Try.prog 18 #[v, .int .i64 a] w fun e w' => e = .returned (.int .i64 (a + (xs.length : Int))) ∧ ∃ ys : List Int, Own ki 3 w' w0.heap.size lo hi v ys ∧ (∃ k, laws_heldIntS.f k ys a = some (a + (xs.length : Int))) ∧ Below w0.heap.size w0 w' ∧ Kept w w' (fun b => v.ownBlock = some b) := by
  obtain ⟨k, hk⟩ := Ev.rounds (by
    have := mark_from a xs ha ha2 hl xs.length 0 (by omega)
    rw [mks_zero] at this
    simpa using this)
  obtain ⟨k2, hk2⟩ := Ev.rounds (by
    have := held_from a xs ha ha2 hl xs.length 0 (by omega)
    simpa using this)
  refine (laws_markIntS.calls k (fun b => v.ownBlock = some b) v xs a _ _ w0 w hB (Kd.R_reok rfl h.1 (fun b hb => hb)) hk).mono ?_
  rintro e w' ⟨he, hR, hB2, hK⟩
  exact ⟨he, _, ⟨Kd.R_reok rfl hR (fun b hb => h.block b hb), Nat.le_trans h.2 hK.1⟩, ⟨k2, hk2⟩, hB2, hK⟩
set_option maxHeartbeats 2000000 in
set_option maxRecDepth 100000 in
theorem markP (w0 w : World) (hi : Nat) (v0 v2 : Value) (C : List Int) (M : Int) (T : List (List (List S63))) (h0 : Own ki 3 w w0.heap.size w0.heap.size hi v0 C) (h2 : Own kT 54 w w0.heap.size w0.heap.size hi v2 T) (hB : Below w0.heap.size w0 w) (hC : C.length ≤ 1048576) (hT : T.length ≤ 1048576) (hx : ∀ x ∈ T, x.length ≤ 1048576 ∧ ∀ y ∈ x, y.length ≤ 1048576) :
    Calls Try.prog 17 #[.agg #[v0, .int .i64 M, v2], .int .i64 1] w fun e w' => (∃ r : Int, e = .returned (.int .i64 r) ∧ 0 ≤ r ∧ r ≤ 4611686018427387904) ∧ Below w0.heap.size w0 w' ∧ Kept w w' (fun b => w0.heap.size ≤ b ∧ b < hi) := by
  have hne : kT.R 54 w w0.heap.size (fun b => (w0.heap.size ≤ b ∧ b < hi) ∧ v0.ownBlock ≠ some b) v2 T := Kd.R_mono (Kd.R_bound h2.1) (fun b hb => ⟨hb.1, fun e => by
    obtain ⟨_, _, _, q, hq, cells, hc⟩ := hb
    obtain ⟨_, _, _, q3, hq3, cells3, hc3⟩ := (Kd.R_bound h0.1).1 b e
    rw [hc] at hc3
    injection hc3 with e1
    injection e1 with e2 e3 e4
    subst e3
    simp [Kd.int, Kd.scalar] at hq3
    subst hq3
    revert hq
    decide⟩)
  obtain ⟨A, c, rfl, hc⟩ := rows_form h0.1
  obtain ⟨A2, c2, rfl, hc2⟩ := rows_form h2.1
  have hlt0 := h0.block
  have HNE := Lib.hid hne
  have H0 := Lib.hid h0
  have H2 := Lib.hid h2
  have HB := Lib.hid hB
  have HX := Lib.hid hx
  have HL := Lib.hid hlt0
  clear hne h0 h2 hB hx hlt0
  go_enter Try.func17, Try.ntmps17
  go_wp2_with fail
  obtain ⟨W1, hW1⟩ : ∃ W, W = w.alloc (.cells #[.slice A C.length c, .int .i64 M, .slice A2 T.length c2] 30) := ⟨_, rfl⟩
  have X1 := Lib.hid (show Box W1 w.heap.size (.slice A C.length c) (.int .i64 M) (.slice A2 T.length c2) by rw [hW1]; exact Box.new w _ _ _ _)
  have hb1 : Below w.heap.size w W1 := by rw [hW1]; exact (Below.refl _ w).alloc (Nat.le_refl _) _
  rw [← hW1]
  have KW := Lib.hid (Kept.of_below hb1 (fun b => w0.heap.size ≤ b ∧ b < hi))
  have H1 := Lib.hid (H0.out.below hb1)
  have N1 := Lib.hid (Kd.R_below HNE.out hb1)
  have B1 := Lib.hid (below_step HB.out hb1)
  have hhi := H0.out.2
  clear H0 HNE HB H2 hW1 hb1
  refine (markI w0 W1 w0.heap.size hi _ C 1 H1.out B1.out (by omega) (by omega) hC).mono ?_
  rintro e w1 ⟨rfl, ys, hO, hh, hB, hK⟩
  have X2 := Lib.hid (X1.out.kept hK (fun hb => by have := HL.out _ hb; omega))
  have N2 := Lib.hid (show kT.R 54 w1 w0.heap.size (fun b => w0.heap.size ≤ b ∧ b < hi) (.slice A2 T.length c2) T from Kd.R_mono (Kd.R_step N1.out (fun b hb hlt => hK.2 b hlt (fun e => hb.2 e))) (fun b hb => hb.1))
  have K2 := Lib.hid (Kept.then_ KW.out (hK.mono (S' := fun b => w0.heap.size ≤ b ∧ b < hi) (fun b hb => HL.out _ hb)) (fun b hb => .inl hb))
  have B2 := Lib.hid hB
  have c2f := X2.out.2.2.2
  have hle := B2.out.size
  clear hO hh hB hK X1 KW H1 N1 B1
  go_wp2_with fail
  refine (markSSSC w0.heap.size hi w1 w1 _ T _ N2.out (Inv.refl _ _ _ hle) (by omega) (by omega) hT HX.out).mono ?_
  rintro e w2 ⟨⟨r, rfl, hr1, hr2⟩, hI⟩
  have B3 := Lib.hid (B2.out.trans hI.1)
  have K3 := Lib.hid (Kept.then_ K2.out hI.kept (fun b hb => .inl hb))
  clear hI K2 B2 X2 N2 c2f
  go_wp2_with fail
  go_ret
  exact ⟨⟨r, rfl, by omega, by omega⟩, B3.out, K3.out⟩
end Go.Proofs.Ytonhmkllfbagmaa.PFnExactTxSerial
