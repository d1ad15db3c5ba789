/- TxFair: the law, walked: it answers true. -/
import Derived.Test.YtonhmkllfbagmaaSerF
namespace Go.Proofs.Ytonhmkllfbagmaa.PFnExactTxFair
open Go.RowKit Go.Proofs.YtonhmkllfbagmaaW.PrintWords Go.Proofs.YtonhmkllfbagmaaW.PrintLast Go.Proofs.YtonhmkllfbagmaaW.PrintMore
open PureTxFair
set_option linter.unusedSimpArgs false
set_option linter.unusedVariables false


theorem Ans.lower {w : World} {base base' lo hi : Nat} {v0 v2 v3 v4 : Value} {r : FR} (h : Ans w base lo hi v0 v2 v3 v4 r) (hb : base' ≤ base) : Ans w base' lo hi v0 v2 v3 v4 r :=
  ⟨h.le, Kd.R_lower h.o0 hb, Kd.R_lower h.o2 hb, Kd.R_lower h.o3 hb, Kd.R_lower h.o4 hb, h.d02, h.d03, h.d04, h.d34⟩
def SpecOf (C : List Int) (M most : Int) (T' : List (List (List S63))) (r : FR) : Prop := ∀ (w : World) (vC vT : Value), Rd ki w vC C → Rd kT w vT T' →
  Calls Try.prog 20 #[.agg #[vC, .int .i64 M, vT], .int .i64 most] w fun e w' => ∃ v0 v2 v3 v4, e = .returned (.tuple #[v0, .agg #[.int .i64 r.code, .int .i64 0, v2, v3, v4]]) ∧ Lie ki w' w.heap.size w'.heap.size v0 r.out ∧ Lie k53 w' w.heap.size w'.heap.size v2 r.evs ∧ Lie ki w' w.heap.size w'.heap.size v3 r.cells ∧ Lie ki w' w.heap.size w'.heap.size v4 r.done ∧ Below w.heap.size w w'
def ImplOf (C : List Int) (M most : Int) (T' : List (List (List S63))) (r : FR) : Prop := ∀ (w : World) (vC vT : Value), Rd ki w vC C → Rd kT w vT T' →
  Calls Try.prog 21 #[.agg #[vC, .int .i64 M, vT], .int .i64 most] w fun e w' => ∃ v0 v2 v3 v4, e = .returned (.tuple #[v0, .agg #[.int .i64 r.code, .int .i64 0, v2, v3, v4]]) ∧ Ans w' w.heap.size w.heap.size w'.heap.size v0 v2 v3 v4 r ∧ Below w.heap.size w w'
/-- What the plain laws say of a work that is small enough. -/
structure Facts (C : List Int) (M : Int) (T : List (List (List S113))) (most : Int) (T' : List (List (List S63))) (r : FR) : Prop where
  lC : C.length ≤ 1048576
  lT : T'.length ≤ 1048576
  lx : ∀ x ∈ T', x.length ≤ 1048576 ∧ ∀ y ∈ x, y.length ≤ 1048576
  l0 : r.out.length ≤ 1000
  l2 : r.evs.length ≤ 1000
  l3 : r.cells.length ≤ 1000
  l4 : r.done.length ≤ 1000
  tp : ∃ k, laws_toTxProg.f k C M T = some (C, M, T')
  ei : ∃ k, laws_eqIntS.f k C C = some true
  et : ∃ k, laws_eqTxOpSSS.f k T' T' = some true
  e0 : ∃ k, laws_eqIntS.f k r.out r.out = some true
  ec : ∃ k, laws_eqIntS.f k r.cells r.cells = some true
  ed : ∃ k, laws_eqIntS.f k r.done r.done = some true
  sp : SpecOf C M most T' r
  im : ImplOf C M most T' r
theorem nil_ans (w : World) (base lo hi : Nat) (h : hi ≤ w.heap.size) (c : Int) : Ans w base lo hi (.slice none 0 0) (.slice none 0 0) (.slice none 0 0) (.slice none 0 0) ⟨[], c, [], [], []⟩ :=
  ⟨h, Kd.R_nil _ _ _ _ _, Kd.R_nil _ _ _ _ _, Kd.R_nil _ _ _ _ _, Kd.R_nil _ _ _ _ _, fun _ e => (by cases e), fun _ e => (by cases e), fun _ e => (by cases e), fun _ e => (by cases e)⟩
theorem fair_both (C : List Int) (M most : Int) (T : List (List (List S63))) (hT : T.length ≤ 1048576) (hx : ∀ x ∈ T, x.length ≤ 1048576 ∧ ∀ y ∈ x, y.length ≤ 1048576) (hs : Small C T) :
    ∃ r : FR, r.out.length ≤ 1000 ∧ r.evs.length ≤ 1000 ∧ r.cells.length ≤ 1000 ∧ r.done.length ≤ 1000 ∧ SpecOf C M most T r ∧ ImplOf C M most T r := by
  obtain ⟨k, hk⟩ := Ev.rounds (spec_ok C M T hT hx)
  obtain ⟨j, hj⟩ := Ev.rounds (impl_ok C M T hT hx)
  by_cases hb : workB C M T = false ∨ most < 0 ∨ most > 200
  · refine ⟨⟨[], 1, [], [], []⟩, Nat.zero_le _, Nat.zero_le _, Nat.zero_le _, Nat.zero_le _, ?_, ?_⟩
    · intro w vC vT hC hT
      obtain ⟨A, c, rfl, h1, h2⟩ := hC
      obtain ⟨A', c', rfl, h3, h4⟩ := hT
      refine (Tx.specFairBad w A c C M A' c' T most k _ h2 h1 h4 h3 hk hb).mono ?_
      rintro e w' ⟨v0, rfl, h0, hB⟩
      exact ⟨_, _, _, _, rfl, h0, Tx.Lie.of (e := 53) (ok := fun _ => True) (Kd.R_nil _ _ _ _ _), Tx.Lie.of (e := 3) (ok := fun _ => True) (Kd.R_nil _ _ _ _ _), Tx.Lie.of (e := 3) (ok := fun _ => True) (Kd.R_nil _ _ _ _ _), hB⟩
    · intro w vC vT hC hT
      obtain ⟨A, c, rfl, h1, h2⟩ := hC
      obtain ⟨A', c', rfl, h3, h4⟩ := hT
      refine (Tx.implFairBad w A c C M A' c' T most j _ h2 h1 h4 h3 hj hb).mono ?_
      rintro e w' ⟨rfl, hB⟩
      exact ⟨_, _, _, _, rfl, nil_ans _ _ _ _ (Nat.le_refl _) _, hB⟩
  · have hw : workB C M T = true := by
      cases e : workB C M T
      · exact absurd (Or.inl e) hb
      · rfl
    have h0 : 0 ≤ most := by omega
    have h200 : most ≤ 200 := by omega
    rw [hw] at hk hj
    obtain ⟨c1, c2, t1, t2, m1, m2, -⟩ := work_all hw
    have hok := ops_ok hw hs
    have hG := goodF0 (C := C) (M := M) (most := most) (T := T) h0 hs
    obtain ⟨x, hF⟩ := Tx.IsFair.ex (man := M) hG hok h200
    have hGx : Tx.GoodF T.length T most x := by
      obtain ⟨n, rfl, -⟩ := hF
      exact hG.rnd hok h200 n
    have b1 := hGx.len
    have b2 := hGx.ev
    refine ⟨⟨x.out, 0, x.S.events, Tx.row C.length x.S.cells, Tx.row T.length x.S.done⟩, by show x.out.length ≤ 1000; omega, by show x.S.events.length ≤ 1000; omega, by show (Tx.row _ _).length ≤ 1000; rw [Tx.row_len]; omega, by show (Tx.row _ _).length ≤ 1000; rw [Tx.row_len]; omega, ?_, ?_⟩
    · intro w vC vT hC hT
      obtain ⟨A, c, rfl, h1, h2⟩ := hC
      obtain ⟨A', c', rfl, h3, h4⟩ := hT
      exact Tx.specFairC w A c C M A' c' T most k h2 h1 h4 h3 hk c1 c2 t1 t2 ⟨m1, m2⟩ hok h0 h200 x hF hG
    · intro w vC vT hC hT
      obtain ⟨A, c, rfl, h1, h2⟩ := hC
      obtain ⟨A', c', rfl, h3, h4⟩ := hT
      refine (Tx.implFairC w A c C M A' c' T most j h2 h1 h4 h3 hj c1 c2 t1 t2 ⟨m1, m2⟩ hok h0 h200 x hF hG).mono ?_
      rintro e w' ⟨v0, v2, v3, v4, rfl, r0, r2, r3, r4, hB⟩
      refine ⟨v0, v2, v3, v4, rfl, ⟨Nat.le_refl _, Kd.R_mono (Kd.R_bound r0) (fun b hb => ⟨hb.2.1, hb.2.2.1⟩), Kd.R_mono (Kd.R_bound r2) (fun b hb => ⟨hb.2.1, hb.2.2.1⟩), Kd.R_mono (Kd.R_bound r3) (fun b hb => ⟨hb.2.1, hb.2.2.1⟩), Kd.R_mono (Kd.R_bound r4) (fun b hb => ⟨hb.2.1, hb.2.2.1⟩), ?_, ?_, ?_, ?_⟩, hB⟩
      · exact fun b h h' => r2.1 b h' h.symm
      · exact fun b h h' => (r3.1 b h').1 h.symm
      · exact fun b h h' => (r4.1 b h').1 h.symm
      · exact fun b h h' => (r4.1 b h').2.2 h.symm
theorem facts (C : List Int) (M : Int) (T : List (List (List S113))) (most : Int) (hC : C.length ≤ 9223372036854775807) (hT : T.length ≤ 9223372036854775807)
    (hx : ∀ x ∈ T, x.length ≤ 9223372036854775807 ∧ ∀ y ∈ x, y.length ≤ 9223372036854775807) (hs : (∀ x ∈ C, wrap64 x = x) ∧ ∀ x ∈ T, ∀ y ∈ x, ∀ o ∈ y, wrap64 o.f2 = o.f2) :
    ∃ s : Int, (∃ k, laws_szTxProg.f k C M T 1048576 = some s) ∧ (0 ≤ s → ∃ T' r, Facts C M T most T' r) := by
  obtain ⟨s1, hs1, hs1b, hs1c⟩ := szInts C 1048576 (by omega) (by omega) hC
  by_cases h1 : s1 < 0
  · exact ⟨-1, ⟨0, by unfold laws_szTxProg.f; rw [hs1]; simp [h1]⟩, fun h => absurd h (by omega)⟩
  obtain ⟨s2, hs2, hs2b, hs2c⟩ := szThreads T s1 (by omega) hs1b hT hx
  have hsz : Ev (fun k => laws_szTxProg.f k C M T 1048576) (if s2 < 0 then -1 else s2) := by
    refine Ev.congr (f := fun k => (laws_szTxOpSSS.f k T s1).bind fun t => if t < 0 then some (-1) else some t) (fun k => ?_) (Ev.bind hs2 (by split <;> exact Ev.now _))
    unfold laws_szTxProg.f
    rw [hs1]
    simp only [Option.bind_some]
    rw [if_neg h1]
  refine ⟨_, Ev.rounds hsz, fun h0 => ?_⟩
  have h2 : ¬ s2 < 0 := by
    intro h
    rw [if_pos h] at h0
    omega
  have hCl := hs1c (by omega)
  obtain ⟨hTl, hTx⟩ := hs2c (by omega)
  have hT' : (T.map (·.map (·.map cv))).length ≤ 1048576 := by simpa using hTl
  have hx' : ∀ x ∈ T.map (·.map (·.map cv)), x.length ≤ 1048576 ∧ ∀ y ∈ x, y.length ≤ 1048576 := by
    intro x hx
    obtain ⟨x0, h0, rfl⟩ := List.mem_map.1 hx
    refine ⟨by simpa using (hTx x0 h0).1, fun y hy => ?_⟩
    obtain ⟨y0, hy0, rfl⟩ := List.mem_map.1 hy
    simpa using (hTx x0 h0).2 y0 hy0
  have hsm : Small C (T.map (·.map (·.map cv))) := by
    refine ⟨hs.1, fun x hx y hy o ho => ?_⟩
    obtain ⟨x0, h0, rfl⟩ := List.mem_map.1 hx
    obtain ⟨y0, hy0, rfl⟩ := List.mem_map.1 hy
    obtain ⟨o0, ho0, rfl⟩ := List.mem_map.1 ho
    exact hs.2 x0 h0 y0 hy0 o0 ho0
  obtain ⟨r, b0, b2, b3, b4, hr1, hr2⟩ := fair_both C M most (T.map (·.map (·.map cv))) hT' hx' hsm
  refine ⟨_, r, hCl, hT', hx', b0, b2, b3, b4, Ev.rounds ?_, Ev.rounds (eqInts C hCl), Ev.rounds (eqThreads _ hT' hx'), Ev.rounds (eqInts r.out (by omega)), Ev.rounds (eqInts r.cells (by omega)), Ev.rounds (eqInts r.done (by omega)), hr1, hr2⟩
  · unfold laws_toTxProg.f
    exact Ev.bind (toInts C hCl) (Ev.bind (toThreads T hTl hTx) (Ev.now _))
set_option maxHeartbeats 8000000 in
set_option maxRecDepth 100000 in
theorem lawFair (vC vT : Value) (C : List Int) (M : Int) (T : List (List (List S113))) (most : Int) (w : World) (hvC : Rd ki w vC C) (hvT : Rd kA w vT T) (hC : C.length ≤ 9223372036854775807) (hT : T.length ≤ 9223372036854775807)
    (hx : ∀ x ∈ T, x.length ≤ 9223372036854775807 ∧ ∀ y ∈ x, y.length ≤ 9223372036854775807) (hs : (∀ x ∈ C, wrap64 x = x) ∧ ∀ x ∈ T, ∀ y ∈ x, ∀ o ∈ y, wrap64 o.f2 = o.f2) :
    Calls Try.prog 5 #[.agg #[vC, .int .i64 M, vT], .int .i64 most] w fun e w' => e = .returned (.bool true) ∧ Below w.heap.size w w' := by
  have HC := Lib.hid hvC
  have HT := Lib.hid hvT
  obtain ⟨AC, cC, rfl, hcC, _⟩ := hvC
  obtain ⟨AT, cT, rfl, hcT, _⟩ := hvT
  obtain ⟨s, ⟨k0, hsz⟩, hF⟩ := facts C M T most hC hT hx hs
  clear hx hC hT hs
  have HSZ := Lib.hid hsz
  have HF := Lib.hid hF
  clear hsz hF
  go_enter Try.func5, Try.ntmps5
  go_wp2_with fail
  obtain ⟨W0, hW0⟩ : ∃ W, W = w.alloc (.cells #[.slice AC C.length cC, .int .i64 M, .slice AT T.length cT] 25) := ⟨_, rfl⟩
  have X := Lib.hid (show Box W0 w.heap.size (.slice AC C.length cC) (.int .i64 M) (.slice AT T.length cT) by rw [hW0]; exact Box.new w _ _ _ _)
  have B := Lib.hid (show Below w.heap.size w W0 by rw [hW0]; exact (Below.refl _ w).alloc (Nat.le_refl _) _)
  rw [← hW0]
  clear hW0
  refine (szP HSZ.out (HC.out.below B.out) (HT.out.below B.out)).mono ?_
  rintro e w1 ⟨rfl, hB⟩
  have X1 := Lib.hid (X.out.below hB)
  have B1 := Lib.hid (below_step B.out hB)
  have x0 := X1.out.2.1
  have x1 := X1.out.2.2.1
  have x2 := X1.out.2.2.2
  clear X B hB
  by_cases hs : s < 0
  · go_wp2_with fail
    go_ret
    exact ⟨rfl, B1.out⟩
  obtain ⟨T', r, hf⟩ := HF.out (by omega)
  have F := Lib.hid hf
  obtain ⟨kt, hkt⟩ := hf.tp
  obtain ⟨kr, hkr⟩ := hf.e0
  obtain ⟨kc, hkc⟩ := hf.ec
  obtain ⟨kd, hkd⟩ := hf.ed
  obtain ⟨ki_, hki⟩ := hf.ei
  obtain ⟨kp, hkp⟩ := hf.et
  have TO := Lib.hid hkt
  have ER := Lib.hid hkr
  have EC := Lib.hid hkc
  have ED := Lib.hid hkd
  have EE := Lib.hid (show r.evs.length ≤ 1048576 by have := hf.l2; omega)
  have EI := Lib.hid hki
  have EP := Lib.hid hkp
  have SP := Lib.hid hf.sp
  have IM := Lib.hid hf.im
  clear hf hkt hkr hkc hkd hki hkp HF HSZ
  go_wp2_with fail
  refine (toP TO.out (HC.out.below B1.out) (HT.out.below B1.out)).mono ?_
  rintro e w11 ⟨p0, p2, rfl, hR0, hR2, hB⟩
  have OP0_ := Lib.hid (Own.new hR0 B1.out.size)
  have OP2_ := Lib.hid (Own.new hR2 B1.out.size)
  have NX1 := Lib.hid (X1.out.below hB)
  have NB1 := Lib.hid (below_step B1.out hB)
  clear X1 B1
  have X1 := NX1; clear NX1
  have B1 := NB1; clear NB1
  have OP0 := OP0_; clear OP0_
  have OP2 := OP2_; clear OP2_
  clear hB hR0 hR2
  go_wp2_with fail
  refine (SP.out _ _ _ OP0.out.rd OP2.out.rd).mono ?_
  rintro e w12 ⟨vw0, vw2, vw3, vw4, rfl, hL0, hL2, hL3, hL4, hB⟩
  have OW0_ := Lib.hid (hL0)
  have OW2_ := Lib.hid (hL2)
  have OW3_ := Lib.hid (hL3)
  have OW4_ := Lib.hid (hL4)
  have NX1 := Lib.hid (X1.out.below hB)
  have NB1 := Lib.hid (below_step B1.out hB)
  have NOP0 := Lib.hid (OP0.out.below hB)
  have NOP2 := Lib.hid (OP2.out.below hB)
  clear X1 B1 OP0 OP2
  have X1 := NX1; clear NX1
  have B1 := NB1; clear NB1
  have OP0 := NOP0; clear NOP0
  have OP2 := NOP2; clear NOP2
  have OW0 := OW0_; clear OW0_
  have OW2 := OW2_; clear OW2_
  have OW3 := OW3_; clear OW3_
  have OW4 := OW4_; clear OW4_
  clear hB hL0 hL2 hL3 hL4
  clear OP0
  clear OP2
  obtain ⟨Aw2, cw2, rfl, hcw2⟩ := OW2.out.form
  obtain ⟨Aw3, cw3, rfl, hcw3⟩ := OW3.out.form
  obtain ⟨Aw4, cw4, rfl, hcw4⟩ := OW4.out.form
  obtain ⟨W2, hW2⟩ : ∃ W, W = w12.alloc (.cells #[.int .i64 r.code, .int .i64 0, .slice Aw2 r.evs.length cw2, .slice Aw3 r.cells.length cw3, .slice Aw4 r.done.length cw4] 43) := ⟨_, rfl⟩
  have hB : Below w12.heap.size w12 W2 := by rw [hW2]; exact (Below.refl _ _).alloc (Nat.le_refl _) _
  have XW_ := Lib.hid (show Box5 W2 w12.heap.size r.code (.slice Aw2 r.evs.length cw2) (.slice Aw3 r.cells.length cw3) (.slice Aw4 r.done.length cw4) by rw [hW2]; exact Box5.new _ _ _ _ _ _)
  have sW2 : w12.heap.size < W2.heap.size := by rw [hW2]; simp
  have NX1 := Lib.hid (X1.out.below hB)
  have NB1 := Lib.hid (below_step B1.out hB)
  have NOW0 := Lib.hid (OW0.out.below hB)
  have NOW2 := Lib.hid (OW2.out.below hB)
  have NOW3 := Lib.hid (OW3.out.below hB)
  have NOW4 := Lib.hid (OW4.out.below hB)
  clear X1 B1 OW0 OW2 OW3 OW4
  have X1 := NX1; clear NX1
  have B1 := NB1; clear NB1
  have OW0 := NOW0; clear NOW0
  have OW2 := NOW2; clear NOW2
  have OW3 := NOW3; clear NOW3
  have OW4 := NOW4; clear NOW4
  have XW := XW_; clear XW_
  clear hB
  have a0 := X1.out.2.1
  have a1 := X1.out.2.2.1
  have a2 := X1.out.2.2.2
  rw [hW2] at a0 a1 a2
  go_wp2_with fail
  rw [← hW2]
  clear hW2 a0 a1 a2
  have BX := Lib.hid (Below.refl W2.heap.size W2)
  have BW := Lib.hid B1.out; clear B1
  have hbx : w.heap.size < W2.heap.size := X1.out.1
  refine (toP TO.out (HC.out.below (below_step BW.out BX.out)) (HT.out.below (below_step BW.out BX.out))).mono ?_
  rintro e w13 ⟨q0, q2, rfl, hR0, hR2, hB⟩
  have OX0_ := Lib.hid (Own.new hR0 BX.out.size)
  have OX2_ := Lib.hid (Own.new hR2 BX.out.size)
  have NX1 := Lib.hid (X1.out.below hB)
  have NOW0 := Lib.hid (OW0.out.below hB)
  have NOW2 := Lib.hid (OW2.out.below hB)
  have NOW3 := Lib.hid (OW3.out.below hB)
  have NOW4 := Lib.hid (OW4.out.below hB)
  have NXW := Lib.hid (XW.out.below hB)
  have NBX := Lib.hid (below_step BX.out hB)
  clear X1 OW0 OW2 OW3 OW4 XW BX
  have X1 := NX1; clear NX1
  have OW0 := NOW0; clear NOW0
  have OW2 := NOW2; clear NOW2
  have OW3 := NOW3; clear NOW3
  have OW4 := NOW4; clear NOW4
  have XW := NXW; clear NXW
  have BX := NBX; clear NBX
  have OX0 := OX0_; clear OX0_
  have OX2 := OX2_; clear OX2_
  have hhi : W2.heap.size ≤ w13.heap.size := hB.size
  clear hB hR0 hR2 x0 x1 x2
  obtain ⟨A0, c0, rfl, _⟩ := rows_form OX0.out.1
  obtain ⟨A2, c2, rfl, _⟩ := rows_form OX2.out.1
  obtain ⟨W3, hW3⟩ : ∃ W, W = w13.alloc (.cells #[.slice A0 C.length c0, .int .i64 M, .slice A2 T'.length c2] 30) := ⟨_, rfl⟩
  have hB : Below w13.heap.size w13 W3 := by rw [hW3]; exact (Below.refl _ _).alloc (Nat.le_refl _) _
  have XB_ := Lib.hid (show Box W3 w13.heap.size (.slice A0 C.length c0) (.int .i64 M) (.slice A2 T'.length c2) by rw [hW3]; exact Box.new _ _ _ _ _)
  have sW3 : w13.heap.size < W3.heap.size := by rw [hW3]; simp
  have NX1 := Lib.hid (X1.out.below hB)
  have NOW0 := Lib.hid (OW0.out.below hB)
  have NOW2 := Lib.hid (OW2.out.below hB)
  have NOW3 := Lib.hid (OW3.out.below hB)
  have NOW4 := Lib.hid (OW4.out.below hB)
  have NXW := Lib.hid (XW.out.below hB)
  have NBX := Lib.hid (below_step BX.out hB)
  have NOX0 := Lib.hid (OX0.out.below hB)
  have NOX2 := Lib.hid (OX2.out.below hB)
  clear X1 OW0 OW2 OW3 OW4 XW BX OX0 OX2
  have X1 := NX1; clear NX1
  have OW0 := NOW0; clear NOW0
  have OW2 := NOW2; clear NOW2
  have OW3 := NOW3; clear NOW3
  have OW4 := NOW4; clear NOW4
  have XW := NXW; clear NXW
  have BX := NBX; clear NBX
  have OX0 := NOX0; clear NOX0
  have OX2 := NOX2; clear NOX2
  have XB := XB_; clear XB_
  clear hB
  have y0 := XB.out.2.1
  have y1 := XB.out.2.2.1
  have y2 := XB.out.2.2.2
  rw [hW3] at y0 y1 y2
  go_wp2_with fail
  rw [← hW3]
  clear hW3 y0 y1 y2
  refine (IM.out _ _ _ OX0.out.rd OX2.out.rd).mono ?_
  rintro e w14 ⟨vg0, vg2, vg3, vg4, rfl, hA, hB⟩
  have OG_ := Lib.hid (hA.lower BX.out.size)
  have NX1 := Lib.hid (X1.out.below hB)
  have NOW0 := Lib.hid (OW0.out.below hB)
  have NOW2 := Lib.hid (OW2.out.below hB)
  have NOW3 := Lib.hid (OW3.out.below hB)
  have NOW4 := Lib.hid (OW4.out.below hB)
  have NXW := Lib.hid (XW.out.below hB)
  have NBX := Lib.hid (below_step BX.out hB)
  have NOX0 := Lib.hid (OX0.out.below hB)
  have NOX2 := Lib.hid (OX2.out.below hB)
  have NXB := Lib.hid (XB.out.below hB)
  clear X1 OW0 OW2 OW3 OW4 XW BX OX0 OX2 XB
  have X1 := NX1; clear NX1
  have OW0 := NOW0; clear NOW0
  have OW2 := NOW2; clear NOW2
  have OW3 := NOW3; clear NOW3
  have OW4 := NOW4; clear NOW4
  have XW := NXW; clear NXW
  have BX := NBX; clear NBX
  have OX0 := NOX0; clear NOX0
  have OX2 := NOX2; clear NOX2
  have XB := NXB; clear NXB
  have OG := OG_; clear OG_
  have hlg : W3.heap.size ≤ w14.heap.size := hB.size
  clear hB hA
  obtain ⟨Ag2, cg2, rfl, hcg2, _⟩ := OG.out.rd2
  obtain ⟨Ag3, cg3, rfl, hcg3, _⟩ := OG.out.rd3
  obtain ⟨Ag4, cg4, rfl, hcg4, _⟩ := OG.out.rd4
  go_wp2_with fail
  obtain ⟨W4, hW4⟩ : ∃ W, W = w14.alloc (.cells #[.int .i64 r.code, .int .i64 0, .slice Ag2 r.evs.length cg2, .slice Ag3 r.cells.length cg3, .slice Ag4 r.done.length cg4] 43) := ⟨_, rfl⟩
  have hB : Below w14.heap.size w14 W4 := by rw [hW4]; exact (Below.refl _ _).alloc (Nat.le_refl _) _
  have XG_ := Lib.hid (show Box5 W4 w14.heap.size r.code (.slice Ag2 r.evs.length cg2) (.slice Ag3 r.cells.length cg3) (.slice Ag4 r.done.length cg4) by rw [hW4]; exact Box5.new _ _ _ _ _ _)
  have sW4 : w14.heap.size < W4.heap.size := by rw [hW4]; simp
  rw [← hW4]
  have NX1 := Lib.hid (X1.out.below hB)
  have NOW0 := Lib.hid (OW0.out.below hB)
  have NOW2 := Lib.hid (OW2.out.below hB)
  have NOW3 := Lib.hid (OW3.out.below hB)
  have NOW4 := Lib.hid (OW4.out.below hB)
  have NXW := Lib.hid (XW.out.below hB)
  have NBX := Lib.hid (below_step BX.out hB)
  have NOX0 := Lib.hid (OX0.out.below hB)
  have NOX2 := Lib.hid (OX2.out.below hB)
  have NXB := Lib.hid (XB.out.below hB)
  have NOG := Lib.hid (OG.out.below hB)
  clear X1 OW0 OW2 OW3 OW4 XW BX OX0 OX2 XB OG
  have X1 := NX1; clear NX1
  have OW0 := NOW0; clear NOW0
  have OW2 := NOW2; clear NOW2
  have OW3 := NOW3; clear NOW3
  have OW4 := NOW4; clear NOW4
  have XW := NXW; clear NXW
  have BX := NBX; clear NBX
  have OX0 := NOX0; clear NOX0
  have OX2 := NOX2; clear NOX2
  have XB := NXB; clear NXB
  have OG := NOG; clear NOG
  have XG := XG_; clear XG_
  clear hB
  clear hW4
  refine (eqI ER.out OG.out.rd0 OW0.out.rd).mono ?_
  rintro e w15 ⟨rfl, hB⟩
  have NX1 := Lib.hid (X1.out.below hB)
  have NOW0 := Lib.hid (OW0.out.below hB)
  have NOW2 := Lib.hid (OW2.out.below hB)
  have NOW3 := Lib.hid (OW3.out.below hB)
  have NOW4 := Lib.hid (OW4.out.below hB)
  have NXW := Lib.hid (XW.out.below hB)
  have NBX := Lib.hid (below_step BX.out hB)
  have NOX0 := Lib.hid (OX0.out.below hB)
  have NOX2 := Lib.hid (OX2.out.below hB)
  have NXB := Lib.hid (XB.out.below hB)
  have NOG := Lib.hid (OG.out.below hB)
  have NXG := Lib.hid (XG.out.below hB)
  clear X1 OW0 OW2 OW3 OW4 XW BX OX0 OX2 XB OG XG
  have X1 := NX1; clear NX1
  have OW0 := NOW0; clear NOW0
  have OW2 := NOW2; clear NOW2
  have OW3 := NOW3; clear NOW3
  have OW4 := NOW4; clear NOW4
  have XW := NXW; clear NXW
  have BX := NBX; clear NBX
  have OX0 := NOX0; clear NOX0
  have OX2 := NOX2; clear NOX2
  have XB := NXB; clear NXB
  have OG := NOG; clear NOG
  have XG := NXG; clear NXG
  clear hB
  have g0 := XG.out.2.1
  have g1 := XG.out.2.2.1
  have g2 := XG.out.2.2.2.1
  have g3 := XG.out.2.2.2.2.1
  have g4 := XG.out.2.2.2.2.2
  have u0 := XW.out.2.1
  have u1 := XW.out.2.2.1
  have u2 := XW.out.2.2.2.1
  have u3 := XW.out.2.2.2.2.1
  have u4 := XW.out.2.2.2.2.2
  go_wp2_with fail
  refine (eqL (k := 0) EE.out EC.out ED.out OG.out.rd2 OG.out.rd3 OG.out.rd4 OW2.out.rd OW3.out.rd OW4.out.rd).mono ?_
  rintro e w16 ⟨rfl, hB⟩
  have NX1 := Lib.hid (X1.out.below hB)
  have NOW0 := Lib.hid (OW0.out.below hB)
  have NOW2 := Lib.hid (OW2.out.below hB)
  have NOW3 := Lib.hid (OW3.out.below hB)
  have NOW4 := Lib.hid (OW4.out.below hB)
  have NXW := Lib.hid (XW.out.below hB)
  have NBX := Lib.hid (below_step BX.out hB)
  have NOX0 := Lib.hid (OX0.out.below hB)
  have NOX2 := Lib.hid (OX2.out.below hB)
  have NXB := Lib.hid (XB.out.below hB)
  have NOG := Lib.hid (OG.out.below hB)
  have NXG := Lib.hid (XG.out.below hB)
  clear X1 OW0 OW2 OW3 OW4 XW BX OX0 OX2 XB OG XG
  have X1 := NX1; clear NX1
  have OW0 := NOW0; clear NOW0
  have OW2 := NOW2; clear NOW2
  have OW3 := NOW3; clear NOW3
  have OW4 := NOW4; clear NOW4
  have XW := NXW; clear NXW
  have BX := NBX; clear NBX
  have OX0 := NOX0; clear NOX0
  have OX2 := NOX2; clear NOX2
  have XB := NXB; clear NXB
  have OG := NOG; clear NOG
  have XG := NXG; clear NXG
  clear hB g0 g1 g2 g3 g4 u0 u1 u2 u3 u4
  go_wp2_with fail
  have hB : Below w16.heap.size w16 w16.drew := below_drew1 (Below.refl _ _)
  have NX1 := Lib.hid (X1.out.below hB)
  have NOW0 := Lib.hid (OW0.out.below hB)
  have NOW2 := Lib.hid (OW2.out.below hB)
  have NOW3 := Lib.hid (OW3.out.below hB)
  have NOW4 := Lib.hid (OW4.out.below hB)
  have NXW := Lib.hid (XW.out.below hB)
  have NBX := Lib.hid (below_step BX.out hB)
  have NOX0 := Lib.hid (OX0.out.below hB)
  have NOX2 := Lib.hid (OX2.out.below hB)
  have NXB := Lib.hid (XB.out.below hB)
  have NOG := Lib.hid (OG.out.below hB)
  have NXG := Lib.hid (XG.out.below hB)
  clear X1 OW0 OW2 OW3 OW4 XW BX OX0 OX2 XB OG XG
  have X1 := NX1; clear NX1
  have OW0 := NOW0; clear NOW0
  have OW2 := NOW2; clear NOW2
  have OW3 := NOW3; clear NOW3
  have OW4 := NOW4; clear NOW4
  have XW := NXW; clear NXW
  have BX := NBX; clear NBX
  have OX0 := NOX0; clear NOX0
  have OX2 := NOX2; clear NOX2
  have XB := NXB; clear NXB
  have OG := NOG; clear NOG
  have XG := NXG; clear NXG
  clear hB
  generalize hdr : w16.drew = wd at X1 OW0 OW2 OW3 OW4 XW BX OX0 OX2 XB OG XG
  have y0 := XB.out.2.1
  have y1 := XB.out.2.2.1
  have y2 := XB.out.2.2.2
  have a0 := X1.out.2.1
  have a1 := X1.out.2.2.1
  have a2 := X1.out.2.2.2
  rw [← hdr] at y0 y1 y2 a0 a1 a2
  refine start_ (n := 5) (S := fun w' => w'.cell? ⟨w13.heap.size, 0, none⟩ = some (.slice A0 C.length c0) ∧ w'.cell? ⟨w13.heap.size, 1, none⟩ = some (.int .i64 M) ∧ w'.cell? ⟨w13.heap.size, 2, none⟩ = some (.slice A2 T'.length c2) ∧ w'.cell? ⟨w.heap.size, 0, none⟩ = some (.slice AC C.length cC) ∧ w'.cell? ⟨w.heap.size, 1, none⟩ = some (.int .i64 M) ∧ w'.cell? ⟨w.heap.size, 2, none⟩ = some (.slice AT T.length cT)) (ds := []) #[false, false, false, false, false] (by kernel_rfl) rfl rfl ⟨y0, y1, y2, a0, a1, a2⟩ (fun hHeld => ?_)
  rw [hdr] at hHeld ⊢
  clear y0 y1 y2 a0 a1 a2 hdr
  refine take_ (i := 0) (N := some 46) (v := ?_) (a' := ?_) #[true, false, false, false, false] rfl rfl (by kernel_rfl) (fun _ _ _ h => h) (Or.inl ⟨by rfl, ?_⟩) hHeld ?_ ?_
  rotate_left
  · rintro w' ⟨s0, s1, s2, s3, s4, s5⟩
    go_simp
    with_reducible rfl
  rotate_left
  · simp only [Act.put, List.setIfInBounds_toArray, List.set_cons_zero, List.set_cons_succ, i64_w, i32_w]
    rfl
  refine take_ (i := 1) (N := some 47) (v := ?_) (a' := ?_) #[true, true, false, false, false] rfl rfl (by kernel_rfl) (fun _ _ _ h => h) (Or.inl ⟨by rfl, ?_⟩) hHeld ?_ ?_
  rotate_left
  · rintro w' ⟨s0, s1, s2, s3, s4, s5⟩
    go_simp
    with_reducible rfl
  rotate_left
  · simp only [Act.put, List.setIfInBounds_toArray, List.set_cons_zero, List.set_cons_succ, i64_w, i32_w]
    rfl
  refine one_ (i := 2) (N := some 48) #[true, true, true, false, false] rfl rfl (by kernel_rfl) (by decide) (fun K hK => ?_)
  refine goes_ Try.func10 (by kernel_rfl) rfl #[.agg #[.slice AC C.length cC, .int .i64 M, .slice AT T.length cT]] (by rfl) rfl rfl (by (try simp only [List.map_toArray, List.map_cons, List.map_nil]); first | done | rfl) ?_
  refine (toP TO.out (HC.out.below (below_step BW.out BX.out)) (HT.out.below (below_step BW.out BX.out))).mono ?_
  rintro e w18 ⟨u0, u2, rfl, hR0, hR2, hB⟩
  have OU0_ := Lib.hid (Own.new hR0 BX.out.size)
  have OU2_ := Lib.hid (Own.new hR2 BX.out.size)
  have NX1 := Lib.hid (X1.out.below hB)
  have NOW0 := Lib.hid (OW0.out.below hB)
  have NOW2 := Lib.hid (OW2.out.below hB)
  have NOW3 := Lib.hid (OW3.out.below hB)
  have NOW4 := Lib.hid (OW4.out.below hB)
  have NXW := Lib.hid (XW.out.below hB)
  have NBX := Lib.hid (below_step BX.out hB)
  have NOX0 := Lib.hid (OX0.out.below hB)
  have NOX2 := Lib.hid (OX2.out.below hB)
  have NXB := Lib.hid (XB.out.below hB)
  have NOG := Lib.hid (OG.out.below hB)
  have NXG := Lib.hid (XG.out.below hB)
  clear X1 OW0 OW2 OW3 OW4 XW BX OX0 OX2 XB OG XG
  have X1 := NX1; clear NX1
  have OW0 := NOW0; clear NOW0
  have OW2 := NOW2; clear NOW2
  have OW3 := NOW3; clear NOW3
  have OW4 := NOW4; clear NOW4
  have XW := NXW; clear NXW
  have BX := NBX; clear NBX
  have OX0 := NOX0; clear NOX0
  have OX2 := NOX2; clear NOX2
  have XB := NXB; clear NXB
  have OG := NOG; clear NOG
  have XG := NXG; clear NXG
  have OU0 := OU0_; clear OU0_
  have OU2 := OU2_; clear OU2_
  clear hB hR0 hR2
  refine ⟨_, rfl, ?_⟩
  refine hK.out _ _ ⟨XB.out.2.1, XB.out.2.2.1, XB.out.2.2.2, X1.out.2.1, X1.out.2.2.1, X1.out.2.2.2⟩ (fun hHeld => ?_)
  clear hK K
  refine norm_ (a' := ?_) ?_ ?_
  rotate_left
  · show Act.put _ (some 48) _ = _
    simp only [Act.put, List.setIfInBounds_toArray, List.set_cons_zero, List.set_cons_succ, i64_w, i32_w]
    rfl
  refine one_ (i := 3) (N := some 49) #[true, true, true, true, false] rfl rfl (by kernel_rfl) (by decide) (fun K hK => ?_)
  refine goes_ Try.func12 (by kernel_rfl) rfl #[.agg #[.slice A0 C.length c0, .int .i64 M, .slice A2 T'.length c2], .agg #[u0, .int .i64 M, u2]] (by rfl) rfl rfl (by (try simp only [List.map_toArray, List.map_cons, List.map_nil]); first | done | rfl) ?_
  refine (eqP EI.out EP.out OX0.out.rd OX2.out.rd OU0.out.rd OU2.out.rd).mono ?_
  rintro e w19 ⟨rfl, hB⟩
  have NX1 := Lib.hid (X1.out.below hB)
  have NOW0 := Lib.hid (OW0.out.below hB)
  have NOW2 := Lib.hid (OW2.out.below hB)
  have NOW3 := Lib.hid (OW3.out.below hB)
  have NOW4 := Lib.hid (OW4.out.below hB)
  have NXW := Lib.hid (XW.out.below hB)
  have NBX := Lib.hid (below_step BX.out hB)
  have NOX0 := Lib.hid (OX0.out.below hB)
  have NOX2 := Lib.hid (OX2.out.below hB)
  have NXB := Lib.hid (XB.out.below hB)
  have NOG := Lib.hid (OG.out.below hB)
  have NXG := Lib.hid (XG.out.below hB)
  have NOU0 := Lib.hid (OU0.out.below hB)
  have NOU2 := Lib.hid (OU2.out.below hB)
  clear X1 OW0 OW2 OW3 OW4 XW BX OX0 OX2 XB OG XG OU0 OU2
  have X1 := NX1; clear NX1
  have OW0 := NOW0; clear NOW0
  have OW2 := NOW2; clear NOW2
  have OW3 := NOW3; clear NOW3
  have OW4 := NOW4; clear NOW4
  have XW := NXW; clear NXW
  have BX := NBX; clear NBX
  have OX0 := NOX0; clear NOX0
  have OX2 := NOX2; clear NOX2
  have XB := NXB; clear NXB
  have OG := NOG; clear NOG
  have XG := NXG; clear NXG
  have OU0 := NOU0; clear NOU0
  have OU2 := NOU2; clear NOU2
  clear hB OU0 OU2
  refine ⟨_, rfl, ?_⟩
  refine hK.out _ _ ⟨XB.out.2.1, XB.out.2.2.1, XB.out.2.2.2, X1.out.2.1, X1.out.2.2.1, X1.out.2.2.2⟩ (fun hHeld => ?_)
  clear hK K
  refine norm_ (a' := ?_) ?_ ?_
  rotate_left
  · show Act.put _ (some 49) _ = _
    simp only [Act.put, List.setIfInBounds_toArray, List.set_cons_zero, List.set_cons_succ, i64_w, i32_w]
    rfl
  refine pure_ (i := 4) (N := some 50) (v := ?_) (a' := ?_) #[true, true, true, true, true] rfl rfl (by kernel_rfl) (fun _ _ _ h => h) (Or.inl ⟨by rfl, ?_⟩) ?_ ?_
  rotate_left
  · intro w'
    go_simp
    with_reducible rfl
  rotate_left
  · simp only [Act.put, List.setIfInBounds_toArray, List.set_cons_zero, List.set_cons_succ, i64_w, i32_w]
    rfl
  refine done_ (by kernel_rfl) ?_
  go_wp2_with fail
  have y0 := XB.out.2.1
  have y1 := XB.out.2.2.1
  have y2 := XB.out.2.2.2
  go_wp2_with fail
  refine (markP W2 w19 w13.heap.size _ _ C M T' OX0.out OX2.out BX.out F.out.lC F.out.lT F.out.lx).mono ?_
  clear XB y0 y1 y2
  rintro e m1 ⟨⟨n1, rfl, hn0, hn1⟩, hB, hK⟩
  have NX1 := Lib.hid (X1.out.kept hK (fun hb => by have h1 : W2.heap.size ≤ w.heap.size := hb.1; have h2 : w.heap.size < w13.heap.size := hb.2; omega))
  have NOW0 := Lib.hid (OW0.out.kept hK (fun b hb => by have h1 : W2.heap.size ≤ b := hb.1; have h2 : b < w13.heap.size := hb.2; omega))
  have NOW2 := Lib.hid (OW2.out.kept hK (fun b hb => by have h1 : W2.heap.size ≤ b := hb.1; have h2 : b < w13.heap.size := hb.2; omega))
  have NOW3 := Lib.hid (OW3.out.kept hK (fun b hb => by have h1 : W2.heap.size ≤ b := hb.1; have h2 : b < w13.heap.size := hb.2; omega))
  have NOW4 := Lib.hid (OW4.out.kept hK (fun b hb => by have h1 : W2.heap.size ≤ b := hb.1; have h2 : b < w13.heap.size := hb.2; omega))
  have NXW := Lib.hid (XW.out.kept hK (fun hb => by have h1 : W2.heap.size ≤ w12.heap.size := hb.1; have h2 : w12.heap.size < w13.heap.size := hb.2; omega))
  have NBX := Lib.hid hB
  have NOG := Lib.hid (OG.out.kept hK (fun b hb => by have h1 : W2.heap.size ≤ b := hb.1; have h2 : b < w13.heap.size := hb.2; omega))
  have NXG := Lib.hid (XG.out.kept hK (fun hb => by have h1 : W2.heap.size ≤ w14.heap.size := hb.1; have h2 : w14.heap.size < w13.heap.size := hb.2; omega))
  clear X1 OW0 OW2 OW3 OW4 XW BX OX0 OX2 OG XG
  have X1 := NX1; clear NX1
  have OW0 := NOW0; clear NOW0
  have OW2 := NOW2; clear NOW2
  have OW3 := NOW3; clear NOW3
  have OW4 := NOW4; clear NOW4
  have XW := NXW; clear NXW
  have BX := NBX; clear NBX
  have OG := NOG; clear NOG
  have XG := NXG; clear NXG
  clear hB hK
  have pk : decide (n1 < 0) = false := decide_eq_false (by omega)
  go_wp2_with fail
  clear pk
  refine (eqI ER.out OG.out.rd0 OW0.out.rd).mono ?_
  rintro e w20 ⟨rfl, hB⟩
  have NX1 := Lib.hid (X1.out.below hB)
  have NOW0 := Lib.hid (OW0.out.below hB)
  have NOW2 := Lib.hid (OW2.out.below hB)
  have NOW3 := Lib.hid (OW3.out.below hB)
  have NOW4 := Lib.hid (OW4.out.below hB)
  have NXW := Lib.hid (XW.out.below hB)
  have NBX := Lib.hid (below_step BX.out hB)
  have NOG := Lib.hid (OG.out.below hB)
  have NXG := Lib.hid (XG.out.below hB)
  clear X1 OW0 OW2 OW3 OW4 XW BX OG XG
  have X1 := NX1; clear NX1
  have OW0 := NOW0; clear NOW0
  have OW2 := NOW2; clear NOW2
  have OW3 := NOW3; clear NOW3
  have OW4 := NOW4; clear NOW4
  have XW := NXW; clear NXW
  have BX := NBX; clear NBX
  have OG := NOG; clear NOG
  have XG := NXG; clear NXG
  clear hB
  have g0 := XG.out.2.1
  have g1 := XG.out.2.2.1
  have g2 := XG.out.2.2.2.1
  have g3 := XG.out.2.2.2.2.1
  have g4 := XG.out.2.2.2.2.2
  have u0 := XW.out.2.1
  have u1 := XW.out.2.2.1
  have u2 := XW.out.2.2.2.1
  have u3 := XW.out.2.2.2.2.1
  have u4 := XW.out.2.2.2.2.2
  go_wp2_with fail
  refine (eqL (k := 0) EE.out EC.out ED.out OG.out.rd2 OG.out.rd3 OG.out.rd4 OW2.out.rd OW3.out.rd OW4.out.rd).mono ?_
  rintro e w21 ⟨rfl, hB⟩
  have NX1 := Lib.hid (X1.out.below hB)
  have NOW0 := Lib.hid (OW0.out.below hB)
  have NOW2 := Lib.hid (OW2.out.below hB)
  have NOW3 := Lib.hid (OW3.out.below hB)
  have NOW4 := Lib.hid (OW4.out.below hB)
  have NXW := Lib.hid (XW.out.below hB)
  have NBX := Lib.hid (below_step BX.out hB)
  have NOG := Lib.hid (OG.out.below hB)
  have NXG := Lib.hid (XG.out.below hB)
  clear X1 OW0 OW2 OW3 OW4 XW BX OG XG
  have X1 := NX1; clear NX1
  have OW0 := NOW0; clear NOW0
  have OW2 := NOW2; clear NOW2
  have OW3 := NOW3; clear NOW3
  have OW4 := NOW4; clear NOW4
  have XW := NXW; clear NXW
  have BX := NBX; clear NBX
  have OG := NOG; clear NOG
  have XG := NXG; clear NXG
  clear hB g0 g1 g2 g3 g4 u0 u1 u2 u3 u4
  go_wp2_with fail
  have l0 := F.out.l0; have l2 := F.out.l2; have l3 := F.out.l3; have l4 := F.out.l4
  refine (markG W2 w21 _ _ _ _ _ _ r 1 OG.out BX.out (by omega) (by omega) (by omega)).mono ?_
  rintro e m2 ⟨rfl, hA, hB, hK⟩
  have NOG := Lib.hid (hA)
  have NX1 := Lib.hid (X1.out.kept hK (fun hb => by have h1 : W3.heap.size ≤ w.heap.size := hb.1; have h2 : w.heap.size < w14.heap.size := hb.2; omega))
  have NOW0 := Lib.hid (OW0.out.kept hK (fun b hb => by have h1 : W3.heap.size ≤ b := hb.1; have h2 : b < w14.heap.size := hb.2; omega))
  have NOW2 := Lib.hid (OW2.out.kept hK (fun b hb => by have h1 : W3.heap.size ≤ b := hb.1; have h2 : b < w14.heap.size := hb.2; omega))
  have NOW3 := Lib.hid (OW3.out.kept hK (fun b hb => by have h1 : W3.heap.size ≤ b := hb.1; have h2 : b < w14.heap.size := hb.2; omega))
  have NOW4 := Lib.hid (OW4.out.kept hK (fun b hb => by have h1 : W3.heap.size ≤ b := hb.1; have h2 : b < w14.heap.size := hb.2; omega))
  have NXW := Lib.hid (XW.out.kept hK (fun hb => by have h1 : W3.heap.size ≤ w12.heap.size := hb.1; have h2 : w12.heap.size < w14.heap.size := hb.2; omega))
  have NBX := Lib.hid hB
  have NXG := Lib.hid (XG.out.kept hK (fun hb => by have h1 : W3.heap.size ≤ w14.heap.size := hb.1; have h2 : w14.heap.size < w14.heap.size := hb.2; omega))
  clear X1 OW0 OW2 OW3 OW4 XW BX OG XG
  have X1 := NX1; clear NX1
  have OW0 := NOW0; clear NOW0
  have OW2 := NOW2; clear NOW2
  have OW3 := NOW3; clear NOW3
  have OW4 := NOW4; clear NOW4
  have XW := NXW; clear NXW
  have BX := NBX; clear NBX
  have OG := NOG; clear NOG
  have XG := NXG; clear NXG
  clear hB hK
  clear hA
  obtain ⟨r2, hr2⟩ : ∃ r2 : FR, ({ r with out := mks 1 r.out r.out.length } : FR) = r2 := ⟨_, rfl⟩
  have q1 : r2.out = mks 1 r.out r.out.length := by rw [← hr2]
  have q2 : r2.evs = r.evs := by rw [← hr2]
  have q3 : r2.cells = r.cells := by rw [← hr2]
  have q4 : r2.done = r.done := by rw [← hr2]
  have q5 : r2.code = r.code := by rw [← hr2]
  rw [hr2] at OG
  obtain ⟨k9, hk9⟩ := Ev.rounds (markIn r.out 1 (by omega) (by omega) (by omega)).2
  have QQ := Lib.hid (And.intro q1 (And.intro q2 (And.intro q3 q4))); have Q5 := Lib.hid q5
  have HH := Lib.hid hk9
  clear hk9 hr2 q1 q2 q3 q4 q5
  have g0 := XG.out.2.1
  have g1 := XG.out.2.2.1
  have g2 := XG.out.2.2.2.1
  have g3 := XG.out.2.2.2.2.1
  have g4 := XG.out.2.2.2.2.2
  go_wp2_with fail
  have hm := markL W2 m2 _ _ _ _ _ _ r2 (1 + (r.out.length : Int)) OG.out BX.out (by omega) (by omega) (by rw [QQ.out.2.1]; omega) (by rw [QQ.out.2.2.1]; omega) (by rw [QQ.out.2.2.2]; omega)
  rw [Q5.out] at hm
  refine hm.mono ?_
  clear hm
  rintro e m3 ⟨b9, rfl, hb9, r3, hc3, ho3, hA, hh3, hB, hK⟩
  have NOG := Lib.hid (hA)
  have NX1 := Lib.hid (X1.out.kept hK (fun hb => by have h1 : W3.heap.size ≤ w.heap.size := hb.1; have h2 : w.heap.size < w14.heap.size := hb.2; omega))
  have NOW0 := Lib.hid (OW0.out.kept hK (fun b hb => by have h1 : W3.heap.size ≤ b := hb.1; have h2 : b < w14.heap.size := hb.2; omega))
  have NOW2 := Lib.hid (OW2.out.kept hK (fun b hb => by have h1 : W3.heap.size ≤ b := hb.1; have h2 : b < w14.heap.size := hb.2; omega))
  have NOW3 := Lib.hid (OW3.out.kept hK (fun b hb => by have h1 : W3.heap.size ≤ b := hb.1; have h2 : b < w14.heap.size := hb.2; omega))
  have NOW4 := Lib.hid (OW4.out.kept hK (fun b hb => by have h1 : W3.heap.size ≤ b := hb.1; have h2 : b < w14.heap.size := hb.2; omega))
  have NXW := Lib.hid (XW.out.kept hK (fun hb => by have h1 : W3.heap.size ≤ w12.heap.size := hb.1; have h2 : w12.heap.size < w14.heap.size := hb.2; omega))
  have NBX := Lib.hid hB
  have NXG := Lib.hid (XG.out.kept hK (fun hb => by have h1 : W3.heap.size ≤ w14.heap.size := hb.1; have h2 : w14.heap.size < w14.heap.size := hb.2; omega))
  clear X1 OW0 OW2 OW3 OW4 XW BX OG XG
  have X1 := NX1; clear NX1
  have OW0 := NOW0; clear NOW0
  have OW2 := NOW2; clear NOW2
  have OW3 := NOW3; clear NOW3
  have OW4 := NOW4; clear NOW4
  have XW := NXW; clear NXW
  have BX := NBX; clear NBX
  have OG := NOG; clear NOG
  have XG := NXG; clear NXG
  clear hB hK
  clear hA g0 g1 g2 g3 g4
  obtain ⟨k8, d1, d2, hk8⟩ := hh3
  have LL := Lib.hid hk8; have C3 := Lib.hid hc3; have O3 := Lib.hid (ho3.trans QQ.out.1)
  clear hk8 hc3 ho3
  go_wp2_with fail
  have hv := OG.out.rd0
  rw [O3.out] at hv
  refine (heldI HH.out hv).mono ?_
  rintro e w22 ⟨rfl, hB⟩
  have NX1 := Lib.hid (X1.out.below hB)
  have NOW0 := Lib.hid (OW0.out.below hB)
  have NOW2 := Lib.hid (OW2.out.below hB)
  have NOW3 := Lib.hid (OW3.out.below hB)
  have NOW4 := Lib.hid (OW4.out.below hB)
  have NXW := Lib.hid (XW.out.below hB)
  have NBX := Lib.hid (below_step BX.out hB)
  have NOG := Lib.hid (OG.out.below hB)
  have NXG := Lib.hid (XG.out.below hB)
  clear X1 OW0 OW2 OW3 OW4 XW BX OG XG
  have X1 := NX1; clear NX1
  have OW0 := NOW0; clear NOW0
  have OW2 := NOW2; clear NOW2
  have OW3 := NOW3; clear NOW3
  have OW4 := NOW4; clear NOW4
  have XW := NXW; clear NXW
  have BX := NBX; clear NBX
  have OG := NOG; clear NOG
  have XG := NXG; clear NXG
  clear hB hv
  have pk : decide (1 + (r.out.length : Int) < 0) = false := decide_eq_false (by omega)
  have g0 := XG.out.2.1
  have g1 := XG.out.2.2.1
  have g2 := XG.out.2.2.2.1
  have g3 := XG.out.2.2.2.2.1
  have g4 := XG.out.2.2.2.2.2
  go_wp2_with fail
  clear g0 g1 g2 g3 g4 pk
  refine (heldL (k := k8) LL.out.1 LL.out.2.1 LL.out.2.2.1 LL.out.2.2.2.1 LL.out.2.2.2.2 (by omega) OG.out.rd2 OG.out.rd3 OG.out.rd4).mono ?_
  rintro e w23 ⟨rfl, hB⟩
  have NX1 := Lib.hid (X1.out.below hB)
  have NOW0 := Lib.hid (OW0.out.below hB)
  have NOW2 := Lib.hid (OW2.out.below hB)
  have NOW3 := Lib.hid (OW3.out.below hB)
  have NOW4 := Lib.hid (OW4.out.below hB)
  have NXW := Lib.hid (XW.out.below hB)
  have NBX := Lib.hid (below_step BX.out hB)
  have NOG := Lib.hid (OG.out.below hB)
  have NXG := Lib.hid (XG.out.below hB)
  clear X1 OW0 OW2 OW3 OW4 XW BX OG XG
  have X1 := NX1; clear NX1
  have OW0 := NOW0; clear NOW0
  have OW2 := NOW2; clear NOW2
  have OW3 := NOW3; clear NOW3
  have OW4 := NOW4; clear NOW4
  have XW := NXW; clear NXW
  have BX := NBX; clear NBX
  have OG := NOG; clear NOG
  have XG := NXG; clear NXG
  clear hB
  have pk : decide (b9 < 0) = false := decide_eq_false (by omega)
  have a0 := X1.out.2.1
  have a1 := X1.out.2.2.1
  have a2 := X1.out.2.2.2
  go_wp2_with fail
  clear pk
  refine (toP TO.out (HC.out.below (below_step BW.out BX.out)) (HT.out.below (below_step BW.out BX.out))).mono ?_
  rintro e w24 ⟨f0, f2, rfl, hR0, hR2, hB⟩
  have OF0_ := Lib.hid (Own.new hR0 BX.out.size)
  have OF2_ := Lib.hid (Own.new hR2 BX.out.size)
  have NX1 := Lib.hid (X1.out.below hB)
  have NOW0 := Lib.hid (OW0.out.below hB)
  have NOW2 := Lib.hid (OW2.out.below hB)
  have NOW3 := Lib.hid (OW3.out.below hB)
  have NOW4 := Lib.hid (OW4.out.below hB)
  have NXW := Lib.hid (XW.out.below hB)
  have NBX := Lib.hid (below_step BX.out hB)
  have NOG := Lib.hid (OG.out.below hB)
  have NXG := Lib.hid (XG.out.below hB)
  clear X1 OW0 OW2 OW3 OW4 XW BX OG XG
  have X1 := NX1; clear NX1
  have OW0 := NOW0; clear NOW0
  have OW2 := NOW2; clear NOW2
  have OW3 := NOW3; clear NOW3
  have OW4 := NOW4; clear NOW4
  have XW := NXW; clear NXW
  have BX := NBX; clear NBX
  have OG := NOG; clear NOG
  have XG := NXG; clear NXG
  have OF0 := OF0_; clear OF0_
  have OF2 := OF2_; clear OF2_
  clear hB hR0 hR2 a0 a1 a2
  go_wp2_with fail
  refine (IM.out _ _ _ OF0.out.rd OF2.out.rd).mono ?_
  rintro e w25 ⟨vh0, vh2, vh3, vh4, rfl, hA, hB⟩
  have OH_ := Lib.hid (hA.lower BX.out.size)
  have NX1 := Lib.hid (X1.out.below hB)
  have NOW0 := Lib.hid (OW0.out.below hB)
  have NOW2 := Lib.hid (OW2.out.below hB)
  have NOW3 := Lib.hid (OW3.out.below hB)
  have NOW4 := Lib.hid (OW4.out.below hB)
  have NXW := Lib.hid (XW.out.below hB)
  have NBX := Lib.hid (below_step BX.out hB)
  have NOG := Lib.hid (OG.out.below hB)
  have NXG := Lib.hid (XG.out.below hB)
  have NOF0 := Lib.hid (OF0.out.below hB)
  have NOF2 := Lib.hid (OF2.out.below hB)
  clear X1 OW0 OW2 OW3 OW4 XW BX OG XG OF0 OF2
  have X1 := NX1; clear NX1
  have OW0 := NOW0; clear NOW0
  have OW2 := NOW2; clear NOW2
  have OW3 := NOW3; clear NOW3
  have OW4 := NOW4; clear NOW4
  have XW := NXW; clear NXW
  have BX := NBX; clear NBX
  have OG := NOG; clear NOG
  have XG := NXG; clear NXG
  have OF0 := NOF0; clear NOF0
  have OF2 := NOF2; clear NOF2
  have OH := OH_; clear OH_
  clear hB hA OF0 OF2
  obtain ⟨Ah2, ch2, rfl, hch2, _⟩ := OH.out.rd2
  obtain ⟨Ah3, ch3, rfl, hch3, _⟩ := OH.out.rd3
  obtain ⟨Ah4, ch4, rfl, hch4, _⟩ := OH.out.rd4
  go_wp2_with fail
  obtain ⟨W5, hW5⟩ : ∃ W, W = w25.alloc (.cells #[.int .i64 r.code, .int .i64 0, .slice Ah2 r.evs.length ch2, .slice Ah3 r.cells.length ch3, .slice Ah4 r.done.length ch4] 43) := ⟨_, rfl⟩
  have hB : Below w25.heap.size w25 W5 := by rw [hW5]; exact (Below.refl _ _).alloc (Nat.le_refl _) _
  have XH_ := Lib.hid (show Box5 W5 w25.heap.size r.code (.slice Ah2 r.evs.length ch2) (.slice Ah3 r.cells.length ch3) (.slice Ah4 r.done.length ch4) by rw [hW5]; exact Box5.new _ _ _ _ _ _)
  have sW5 : w25.heap.size < W5.heap.size := by rw [hW5]; simp
  rw [← hW5]
  have NX1 := Lib.hid (X1.out.below hB)
  have NOW0 := Lib.hid (OW0.out.below hB)
  have NOW2 := Lib.hid (OW2.out.below hB)
  have NOW3 := Lib.hid (OW3.out.below hB)
  have NOW4 := Lib.hid (OW4.out.below hB)
  have NXW := Lib.hid (XW.out.below hB)
  have NBX := Lib.hid (below_step BX.out hB)
  have NOG := Lib.hid (OG.out.below hB)
  have NXG := Lib.hid (XG.out.below hB)
  have NOH := Lib.hid (OH.out.below hB)
  clear X1 OW0 OW2 OW3 OW4 XW BX OG XG OH
  have X1 := NX1; clear NX1
  have OW0 := NOW0; clear NOW0
  have OW2 := NOW2; clear NOW2
  have OW3 := NOW3; clear NOW3
  have OW4 := NOW4; clear NOW4
  have XW := NXW; clear NXW
  have BX := NBX; clear NBX
  have OG := NOG; clear NOG
  have XG := NXG; clear NXG
  have OH := NOH; clear NOH
  have XH := XH_; clear XH_
  clear hB
  clear hW5
  refine (eqI ER.out OH.out.rd0 OW0.out.rd).mono ?_
  rintro e w26 ⟨rfl, hB⟩
  have NX1 := Lib.hid (X1.out.below hB)
  have NOW0 := Lib.hid (OW0.out.below hB)
  have NOW2 := Lib.hid (OW2.out.below hB)
  have NOW3 := Lib.hid (OW3.out.below hB)
  have NOW4 := Lib.hid (OW4.out.below hB)
  have NXW := Lib.hid (XW.out.below hB)
  have NBX := Lib.hid (below_step BX.out hB)
  have NOG := Lib.hid (OG.out.below hB)
  have NXG := Lib.hid (XG.out.below hB)
  have NOH := Lib.hid (OH.out.below hB)
  have NXH := Lib.hid (XH.out.below hB)
  clear X1 OW0 OW2 OW3 OW4 XW BX OG XG OH XH
  have X1 := NX1; clear NX1
  have OW0 := NOW0; clear NOW0
  have OW2 := NOW2; clear NOW2
  have OW3 := NOW3; clear NOW3
  have OW4 := NOW4; clear NOW4
  have XW := NXW; clear NXW
  have BX := NBX; clear NBX
  have OG := NOG; clear NOG
  have XG := NXG; clear NXG
  have OH := NOH; clear NOH
  have XH := NXH; clear NXH
  clear hB
  have g0 := XH.out.2.1
  have g1 := XH.out.2.2.1
  have g2 := XH.out.2.2.2.1
  have g3 := XH.out.2.2.2.2.1
  have g4 := XH.out.2.2.2.2.2
  have u0 := XW.out.2.1
  have u1 := XW.out.2.2.1
  have u2 := XW.out.2.2.2.1
  have u3 := XW.out.2.2.2.2.1
  have u4 := XW.out.2.2.2.2.2
  go_wp2_with fail
  refine (eqL (k := 0) EE.out EC.out ED.out OH.out.rd2 OH.out.rd3 OH.out.rd4 OW2.out.rd OW3.out.rd OW4.out.rd).mono ?_
  rintro e w27 ⟨rfl, hB⟩
  have NX1 := Lib.hid (X1.out.below hB)
  have NOW0 := Lib.hid (OW0.out.below hB)
  have NOW2 := Lib.hid (OW2.out.below hB)
  have NOW3 := Lib.hid (OW3.out.below hB)
  have NOW4 := Lib.hid (OW4.out.below hB)
  have NXW := Lib.hid (XW.out.below hB)
  have NBX := Lib.hid (below_step BX.out hB)
  have NOG := Lib.hid (OG.out.below hB)
  have NXG := Lib.hid (XG.out.below hB)
  have NOH := Lib.hid (OH.out.below hB)
  have NXH := Lib.hid (XH.out.below hB)
  clear X1 OW0 OW2 OW3 OW4 XW BX OG XG OH XH
  have X1 := NX1; clear NX1
  have OW0 := NOW0; clear NOW0
  have OW2 := NOW2; clear NOW2
  have OW3 := NOW3; clear NOW3
  have OW4 := NOW4; clear NOW4
  have XW := NXW; clear NXW
  have BX := NBX; clear NBX
  have OG := NOG; clear NOG
  have XG := NXG; clear NXG
  have OH := NOH; clear NOH
  have XH := NXH; clear NXH
  clear hB g0 g1 g2 g3 g4 u0 u1 u2 u3 u4
  go_wp2_with fail
  have hv := OG.out.rd0
  rw [O3.out] at hv
  refine (heldI HH.out hv).mono ?_
  rintro e w28 ⟨rfl, hB⟩
  have NX1 := Lib.hid (X1.out.below hB)
  have NOW0 := Lib.hid (OW0.out.below hB)
  have NOW2 := Lib.hid (OW2.out.below hB)
  have NOW3 := Lib.hid (OW3.out.below hB)
  have NOW4 := Lib.hid (OW4.out.below hB)
  have NXW := Lib.hid (XW.out.below hB)
  have NBX := Lib.hid (below_step BX.out hB)
  have NOG := Lib.hid (OG.out.below hB)
  have NXG := Lib.hid (XG.out.below hB)
  have NOH := Lib.hid (OH.out.below hB)
  have NXH := Lib.hid (XH.out.below hB)
  clear X1 OW0 OW2 OW3 OW4 XW BX OG XG OH XH
  have X1 := NX1; clear NX1
  have OW0 := NOW0; clear NOW0
  have OW2 := NOW2; clear NOW2
  have OW3 := NOW3; clear NOW3
  have OW4 := NOW4; clear NOW4
  have XW := NXW; clear NXW
  have BX := NBX; clear NBX
  have OG := NOG; clear NOG
  have XG := NXG; clear NXG
  have OH := NOH; clear NOH
  have XH := NXH; clear NXH
  clear hB hv
  have pk : decide (1 + (r.out.length : Int) < 0) = false := decide_eq_false (by omega)
  have g0 := XG.out.2.1
  have g1 := XG.out.2.2.1
  have g2 := XG.out.2.2.2.1
  have g3 := XG.out.2.2.2.2.1
  have g4 := XG.out.2.2.2.2.2
  go_wp2_with fail
  clear g0 g1 g2 g3 g4 pk
  refine (heldL (k := k8) LL.out.1 LL.out.2.1 LL.out.2.2.1 LL.out.2.2.2.1 LL.out.2.2.2.2 (by omega) OG.out.rd2 OG.out.rd3 OG.out.rd4).mono ?_
  rintro e w29 ⟨rfl, hB⟩
  have NX1 := Lib.hid (X1.out.below hB)
  have NOW0 := Lib.hid (OW0.out.below hB)
  have NOW2 := Lib.hid (OW2.out.below hB)
  have NOW3 := Lib.hid (OW3.out.below hB)
  have NOW4 := Lib.hid (OW4.out.below hB)
  have NXW := Lib.hid (XW.out.below hB)
  have NBX := Lib.hid (below_step BX.out hB)
  have NOG := Lib.hid (OG.out.below hB)
  have NXG := Lib.hid (XG.out.below hB)
  have NOH := Lib.hid (OH.out.below hB)
  have NXH := Lib.hid (XH.out.below hB)
  clear X1 OW0 OW2 OW3 OW4 XW BX OG XG OH XH
  have X1 := NX1; clear NX1
  have OW0 := NOW0; clear NOW0
  have OW2 := NOW2; clear NOW2
  have OW3 := NOW3; clear NOW3
  have OW4 := NOW4; clear NOW4
  have XW := NXW; clear NXW
  have BX := NBX; clear NBX
  have OG := NOG; clear NOG
  have XG := NXG; clear NXG
  have OH := NOH; clear NOH
  have XH := NXH; clear NXH
  clear hB
  have pk : decide (b9 < 0) = false := decide_eq_false (by omega)
  go_wp2_with fail
  go_ret
  exact ⟨rfl, below_step BW.out BX.out⟩
end Go.Proofs.Ytonhmkllfbagmaa.PFnExactTxFair
