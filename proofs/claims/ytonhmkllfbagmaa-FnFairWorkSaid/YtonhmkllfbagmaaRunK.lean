/- Transactions: the reference's TxFair. -/
import Derived.Test.YtonhmkllfbagmaaRunI
import Derived.Test.YtonhmkllfbagmaaPlB
import Derived.Test.YtonhmkllfbagmaaPFnExactTxFairx5
namespace Go.Proofs.Ytonhmkllfbagmaa.Tx
open Go.RowKit Go.Proofs.YtonhmkllfbagmaaW.PrintWords Go.Proofs.YtonhmkllfbagmaaW.PrintLast Go.Proofs.YtonhmkllfbagmaaW.PrintMore Go.Proofs.Ytonhmkllfbagmaa.PFnExactTxFair
set_option linter.unusedVariables false
set_option linter.unusedSimpArgs false
abbrev ki : Kd Int := Kd.int .i64
abbrev kT : Kd (List (List S63)) := Kd.slice 61 (Kd.slice 63 k63)
def Rd {α : Type} (d : Kd α) (w : World) (v : Value) (xs : List α) : Prop := ∃ A c, v = .slice A xs.length c ∧ xs.length ≤ c ∧ d.C w A xs.length xs
theorem Rd.below {α : Type} {d : Kd α} {w w1 : World} {v : Value} {xs : List α} (h : Rd d w v xs) (hb : Below w.heap.size w w1) : Rd d w1 v xs := by
  obtain ⟨A, c, e, hc, hr⟩ := h
  exact ⟨A, c, e, hc, Kd.C_below hr hb⟩
theorem Rd.of {α : Type} {d : Kd α} {e : Nat} {w : World} {base : Nat} {ok : Nat → Prop} {v : Value} {xs : List α} (h : d.R e w base ok v xs) : Rd d w v xs := Kd.R_reads h
/-- The first n of a row that is a function. -/
def row (n : Nat) (f : Nat → Int) : List Int := (List.range n).map f
theorem row_len (n : Nat) (f : Nat → Int) : (row n f).length = n := by simp [row]
theorem rd_fn {w : World} {b n c : Nat} {f : Nat → Int} (h : Fn w b 3 n (fun k => .int .i64 (f k))) (hc : n ≤ c) (hn : n ≤ 1000) : Rd ki w (.slice (some ⟨b, 0, none⟩) n c) (row n f) := by
  refine ⟨some ⟨b, 0, none⟩, c, by rw [row_len], by rw [row_len]; exact hc, rfl, by rw [row_len]; omega, fun _ => ⟨_, rfl, fun j p hp => ?_⟩⟩
  have hj : j < n := by
    have := (List.getElem?_eq_some_iff.1 hp).1
    rwa [row_len] at this
  have hpe : p = f j := by
    unfold row at hp
    rw [List.getElem?_map, List.getElem?_range hj] at hp
    simpa using hp.symm
  subst hpe
  refine ⟨[.int .i64 (f j)], rfl, rfl, fun q u hu => ?_⟩
  have hq : q = 0 := by
    have := (List.getElem?_eq_some_iff.1 hu).1
    simp at this
    exact this
  subst hq
  have hue : u = .int .i64 (f j) := by simpa using hu.symm
  subst hue
  rw [add0]
  have := h.cell j hj
  simpa [Kd.int, Kd.scalar] using this
/-- A row that lies in the blocks from lo up to hi: who leaves these as they are leaves it. -/
def Lie {α : Type} (d : Kd α) (w : World) (lo hi : Nat) (v : Value) (xs : List α) : Prop := hi ≤ w.heap.size ∧ ∀ w', w.heap.size ≤ w'.heap.size → (∀ b, lo ≤ b → b < hi → w'.heap[b]? = w.heap[b]?) → Rd d w' v xs
theorem Lie.of {α : Type} {d : Kd α} {e : Nat} {w : World} {lo : Nat} {ok : Nat → Prop} {v : Value} {xs : List α} (h : d.R e w lo ok v xs) : Lie d w lo w.heap.size v xs :=
  ⟨Nat.le_refl _, fun w' _ hb => Rd.of (Kd.R_step (Kd.R_bound h) (fun b hk hlt => hb b hk.2.1 hlt))⟩
theorem Lie.fn {w : World} {b n c lo : Nat} {f : Nat → Int} (h : Fn w b 3 n (fun k => .int .i64 (f k))) (hlo : lo ≤ b) (hc : n ≤ c) (hn : n ≤ 1000) : Lie ki w lo w.heap.size (.slice (some ⟨b, 0, none⟩) n c) (row n f) :=
  ⟨Nat.le_refl _, fun w' _ hb => rd_fn (h.move (hb b hlo h.lt)) hc hn⟩
def lnV : Value → Nat
  | .slice _ n _ => n
  | _ => 0
def trV : Value → Nat
  | .bool true => 1
  | _ => 0
theorem Run.fresh {P : Par} {w0 w : World} {D : Dyn} {S : St} (h : Run P w0 w D S) (b : Nat) (hb : w.heap.size ≤ b) : Out P D S b :=
  ⟨fun j hj e => by have := h.lt j hj; omega, fun e => by have := (Kd.R_bound h.ev).1 b e.symm; omega⟩
theorem Run.kept {P : Par} {w0 w w' : World} {D : Dyn} {S : St} (h : Run P w0 w D S) {v : Value} (hk : ∀ b, v.ownBlock = some b → Out P D S b) (hg : w.grownBy w' v.ownBlock) (hB : Below w0.heap.size w0 w') : Run P w0 w' D S := by
  exact ⟨h.lay.move (fun i hi => hg.block _ (h.lt i hi) (fun e => (hk _ e.symm).1 i hi rfl)), Kd.R_reok rfl (Kd.R_step (ok := fun b => D.V.ownBlock = some b) (Kd.R_reok rfl h.ev (fun b hb => hb)) (fun b hb hlt => hg.block b hlt (fun e => (hk b e.symm).2 hb.symm))) (fun b hb => h.ev.1 b hb), h.inn, hB⟩
theorem out_fr {P : Par} {w w' : World} {base : Nat} {D D' : Dyn} {S S' : St} {v : Value} {xs : List Int} (h : ki.R 3 w base (Out P D S) v xs) (k : Fr P w w' D D' S S') : ki.R 3 w' base (Out P D' S') v xs :=
  Kd.R_mono (Kd.R_step (Kd.R_bound h) (fun b hb hlt => (k.2 b hlt hb.1).2)) (fun b hb => (k.2 b hb.2.2.1 hb.1).1)
theorem ret20 {fn : Func} (h : fn.results = #[.tmp 4, .cell 5 43]) (tmps : Array Value) (w : World) (g : Nat) (x v0 v1 v2 v3 v4 : Value) (hx : tmps.getD 4 undef = x) (hp : tmps.getD 5 undef = .pointer (some ⟨g, 0, none⟩))
    (p0 : w.cell? ⟨g, 0, none⟩ = some v0) (p1 : w.cell? ⟨g, 1, none⟩ = some v1) (p2 : w.cell? ⟨g, 2, none⟩ = some v2) (p3 : w.cell? ⟨g, 3, none⟩ = some v3) (p4 : w.cell? ⟨g, 4, none⟩ = some v4) :
    (results fn tmps).run Try.prog w = .ok (.tuple #[x, .agg #[v0, v1, v2, v3, v4]]) w := by
  have hi : (Try.prog.info? 43).map (fun i => i.size) = some 5 := by kernel_rfl
  have hp2 : tmps[5]?.getD undef = .pointer (some ⟨g, 0, none⟩) := by simpa using hp
  have hx2 : tmps[4]?.getD undef = x := by simpa using hx
  simp [results, h, go_sem, hp2, hx2, p0, p1, p2, p3, p4]
set_option maxHeartbeats 8000000 in
set_option maxRecDepth 100000 in
theorem specFairC (w : World) (AC : Option Addr) (cC : Nat) (C : List Int) (man : Int) (AT : Option Addr) (cT : Nat) (T : List (List (List S63))) (most : Int) (k : Nat) (hC : ki.C w AC C.length C) (hcC : C.length ≤ cC) (hT : kT.C w AT T.length T) (hcT : T.length ≤ cT)
    (hok : spec_TxOK.f k C man T = some true) (h1 : 0 < C.length) (h2 : C.length ≤ 8) (hn : 0 < T.length) (hn2 : T.length ≤ 4) (hman : 1 ≤ man ∧ man ≤ 4) (ok : OpsOK T.length C.length T) (hm0 : 0 ≤ most) (hm : most ≤ 200)
    (x : FS) (hF : IsFair man C.length T most (st0 C) x) (hG : GoodF T.length T most ⟨st0 C, [], true⟩) :
    Calls Try.prog 20 #[.agg #[.slice AC C.length cC, .int .i64 man, .slice AT T.length cT], .int .i64 most] w fun e w' => ∃ v0 v2 v3 v4, e = .returned (.tuple #[v0, .agg #[.int .i64 0, .int .i64 0, v2, v3, v4]]) ∧ Lie ki w' w.heap.size w'.heap.size v0 x.out ∧ Lie k53 w' w.heap.size w'.heap.size v2 x.S.events ∧ Lie ki w' w.heap.size w'.heap.size v3 (row C.length x.S.cells) ∧ Lie ki w' w.heap.size w'.heap.size v4 (row T.length x.S.done) ∧ Below w.heap.size w w' := by
  have HC := Lib.hid hC; have HT := Lib.hid hT; have HF := Lib.hid hF; have HG := Lib.hid hG; have OK := Lib.hid ok; have HOK := Lib.hid hok
  clear hC hT hF hG ok hok
  have q1 := decide_eq_false (show ¬ most < 0 by omega)
  have q2 := decide_eq_false (show ¬ most > 200 by omega)
  go_enter Try.func20, Try.ntmps20
  go_wp2_with fail
  obtain ⟨Wa, hWa⟩ : ∃ Wa, (w.alloc (.cells #[.slice AC C.length cC, .int .i64 man, .slice AT T.length cT] 30)).alloc (.cells #[.int .i64 0, .int .i64 0, .slice none 0 0, .slice none 0 0, .slice none 0 0] 43) = Wa := ⟨_, rfl⟩
  have BA := Lib.hid (show Below w.heap.size w Wa by rw [← hWa]; exact below_alloc (below_alloc (Below.refl _ _) _) _)
  have CB := Lib.hid (show ∀ X, Below Wa.heap.size Wa X → X.cell? ⟨w.heap.size, 0, none⟩ = some (.slice AC C.length cC) ∧ X.cell? ⟨w.heap.size, 1, none⟩ = some (.int .i64 man) ∧ X.cell? ⟨w.heap.size, 2, none⟩ = some (.slice AT T.length cT) by
    intro X hX
    have hlt : w.heap.size < Wa.heap.size := by rw [← hWa]; simp; omega
    have hb : X.heap[w.heap.size]? = some (.cells #[.slice AC C.length cC, .int .i64 man, .slice AT T.length cT] 30 (0, 0)) := by
      rw [hX.block _ hlt, ← hWa]
      exact (Below.block (below_alloc (Below.refl _ _) _) _ (by simp)).trans (heap_alloc_new w _)
    exact ⟨(blk_cell hb 0).trans rfl, (blk_cell hb 1).trans rfl, (blk_cell hb 2).trans rfl⟩)
  have RB := Lib.hid (show ∀ X, Below Wa.heap.size Wa X → X.heap[w.heap.size + 1]? = some (.cells #[.int .i64 0, .int .i64 0, .slice none 0 0, .slice none 0 0, .slice none 0 0] 43 (0, 0)) by
    intro X hX
    have hlt : w.heap.size + 1 < Wa.heap.size := by rw [← hWa]; simp
    have e : (w.alloc (.cells #[.slice AC C.length cC, .int .i64 man, .slice AT T.length cT] 30)).heap.size = w.heap.size + 1 := by simp
    rw [hX.block _ hlt, ← hWa, ← e]
    exact heap_alloc_new _ _)
  rw [hWa]
  have hwa : w.heap.size + 1 < Wa.heap.size := by rw [← hWa]; simp
  clear hWa
  refine (spec_TxOK.calls k AC cC C man AT cT T true Wa (Kd.C_below HC.out BA.out) hcC (Kd.C_below HT.out BA.out) hcT HOK.out).mono ?_
  rintro e Wb ⟨rfl, hB⟩
  have BB := Lib.hid hB
  obtain ⟨p0, p1, p2⟩ := CB.out Wb hB
  clear hB
  go_wp2_with fail
  refine (l19BeginC Wb AC cC C man AT T.length cT (Kd.C_below HC.out (below_step BA.out BB.out)) hcC h1 (by omega) hn (by omega)).mono ?_
  rintro e Wc ⟨P, D, rfl, hPc, hPn, hPm, hPt, hPC, hPD, hR⟩
  have HR := Lib.hid hR
  have PC := Lib.hid hPc; have PN := Lib.hid hPn; have PM := Lib.hid hPm
  have PCC := Lib.hid hPC; have PDD := Lib.hid hPD
  clear hPC hPD
  have HP := Lib.hid (show Prg P Wb T from ⟨AT, cT, hPt, hcT, Kd.C_below HT.out (below_step BA.out BB.out), hPn.symm⟩)
  have BC := Lib.hid hR.below
  have FRE := Lib.hid (Run.fresh hR)
  obtain ⟨g, hg⟩ : ∃ g, D.blk .g = g := ⟨_, rfl⟩
  have HG1 := Lib.hid hg
  rw [hg]
  clear hR hPc hPn hPm hPt hg p0 p1 p2 q1 q2
  go_wp2_with ((with_reducible refine gate_dst (N := 25) rfl ?_); refine Kd.R_lit ki (w0 := Wb) Wb.heap.size 3 rfl (N := 25) rfl (xs := ([] : List Int)) (inner := []) (ok := Out P D (st0 C)) (okp := fun _ => False) (by go_simp) (Reps.none _ _) (fun _ hk => hk.elim) (FRE.out _ (Nat.le_refl _)) BC.out BC.out.size (by simp) ?_; intro v0 w0 hO0 hB0 hg0 hn0)
  have hrun0 : Run P Wb w0 D (st0 C) := HR.out.kept (v := .slice none 0 0) (fun b e => by simp [Value.ownBlock] at e) hg0 hB0
  have R0 := Lib.hid hrun0
  have O0 := Lib.hid hO0
  clear hrun0 hO0 hB0 hg0 hn0 FRE BC HR
  obtain ⟨F, hF⟩ : ∃ F, rnd man C.length T most (st0 C) = F := ⟨_, rfl⟩
  have FE := Lib.hid hF
  have GF := Lib.hid (show ∀ k, GoodF T.length T most (F k) by rw [← hF]; exact HG.out.rnd OK.out hm)
  have F0 : F 0 = ⟨st0 C, [], true⟩ := by rw [← hF]; rfl
  clear hF
  go_loopw [7, 8] (fun vo vs wr => ∃ (k : Nat) (D : Dyn), vs = .bool (F k).some_ ∧ Run P Wb wr D (F k).S ∧ D.blk .g = g ∧ ki.R 3 wr Wb.heap.size (Out P D (F k).S) vo (F k).out) (fun vo vs _ => trV vs * (201 - lnV vo))
  case atStart => exact ⟨0, D, by rw [F0], by rw [F0]; exact R0.out, HG1.out, by rw [F0]; exact O0.out⟩
  case round =>
    clear R0 O0 HG1 F0 D
    obtain ⟨k, D, rfl, hR, hgD, hO⟩ := hrel
    have HR := Lib.hid hR; have HO := Lib.hid hO; have HGD := Lib.hid hgD
    obtain ⟨Ao, co, eo, hco, -⟩ := Kd.R_reads hO
    clear hR hO hgD
    rcases hfl : (F k).some_ with _ | _
    · have hx : x = F k := HF.out.uniq ⟨k, by rw [FE.out], hfl⟩
      go_wp2_with fail
      rw [← HGD.out]
      refine (plainC P Wb wr D (F k).S HR.out).mono ?_
      rintro e W2 ⟨rfl, D2, hb2, hV2, hR2, hFr⟩
      have H2 := Lib.hid hR2
      have O2 := Lib.hid (out_fr HO.out hFr)
      have rb := RB.out W2 (below_step BB.out hR2.below)
      have r0 := blk_cell rb 0; have r1 := blk_cell rb 1; have r2 := blk_cell rb 2; have r3 := blk_cell rb 3; have r4 := blk_cell rb 4
      simp only [List.getElem?_toArray, List.getElem?_cons_succ, List.getElem?_cons_zero] at r0 r1 r2 r3 r4
      have z0 : ∀ o, W2.frozen? ⟨w.heap.size + 1, o, none⟩ = false := fun o => by simp [World.frozen?, rb]
      clear hR2 hFr
      obtain ⟨Ae, ce, ev, hce, -⟩ := Kd.R_reads HR.out.ev
      have EV := Lib.hid ev
      unfold logV
      rw [HGD.out, ev]
      clear ev
      go_wp2_with fail
      obtain ⟨W5, hW5⟩ : ∃ W5, (((((W2.setCell ⟨w.heap.size + 1, 0, none⟩ (.int .i64 0)).setCell ⟨w.heap.size + 1, 1, none⟩ (.int .i64 0)).setCell ⟨w.heap.size + 1, 2, none⟩ (.slice Ae (F k).S.events.length ce)).setCell ⟨w.heap.size + 1, 3, none⟩ (.slice (some ⟨D.blk .c, 0, none⟩) P.nc P.cC)).setCell ⟨w.heap.size + 1, 4, none⟩ (.slice (some ⟨D.blk .d, 0, none⟩) P.n P.cD)) = W5 := ⟨_, rfl⟩
      have hb5 : W5.heap[w.heap.size + 1]? = some (.cells #[.int .i64 0, .int .i64 0, .slice Ae (F k).S.events.length ce, .slice (some ⟨D.blk .c, 0, none⟩) P.nc P.cC, .slice (some ⟨D.blk .d, 0, none⟩) P.n P.cD] 43 (0, 0)) := by
        rw [← hW5]
        exact blk_set (blk_set (blk_set (blk_set (blk_set rb 0 _) 1 _) 2 _) 3 _) 4 _
      have hs5 : ∀ b, b ≠ w.heap.size + 1 → W5.heap[b]? = W2.heap[b]? := fun b hb => by
        rw [← hW5]
        exact (Below.heap_setCell _ _ _ b hb).trans ((Below.heap_setCell _ _ _ b hb).trans ((Below.heap_setCell _ _ _ b hb).trans ((Below.heap_setCell _ _ _ b hb).trans (Below.heap_setCell _ _ _ b hb))))
      have hB5 : Below w.heap.size w W5 := by
        rw [← hW5]
        have hle : w.heap.size ≤ w.heap.size + 1 := Nat.le_succ _
        exact (((((below_step (below_step BA.out BB.out) H2.out.below).setCell (p := ⟨w.heap.size + 1, 0, none⟩) hle _).setCell (p := ⟨w.heap.size + 1, 1, none⟩) hle _).setCell (p := ⟨w.heap.size + 1, 2, none⟩) hle _).setCell (p := ⟨w.heap.size + 1, 3, none⟩) hle _).setCell (p := ⟨w.heap.size + 1, 4, none⟩) hle _
      rw [hW5]
      clear hW5
      have hwb : w.heap.size + 1 < Wb.heap.size := Nat.lt_of_lt_of_le hwa BB.out.size
      refine bodyPost_ret (ret20 rfl _ _ (w.heap.size + 1) _ _ _ _ _ _ rfl rfl ((blk_cell hb5 0).trans rfl) ((blk_cell hb5 1).trans rfl) ((blk_cell hb5 2).trans rfl) ((blk_cell hb5 3).trans rfl) ((blk_cell hb5 4).trans rfl)) rfl ?_
      refine ⟨_, _, _, _, rfl, ?_, ?_, ?_, ?_, hB5⟩
      · rw [hx]
        exact Lie.of (Kd.R_lower (Kd.R_step (Kd.R_bound (eo ▸ O2.out)) (fun b hb _ => hs5 b (by have := hb.2.1; omega))) (by omega))
      · rw [hx, ← EV.out, ← hV2]
        exact Lie.of (Kd.R_lower (Kd.R_step (Kd.R_bound H2.out.ev) (fun b hb _ => hs5 b (by have := hb.2.1; omega))) (by omega))
      · rw [hx, ← PC.out, ← hb2]
        exact Lie.fn ((H2.out.lay.at_ .c trivial).move (hs5 _ (by have := H2.out.lay.ge .c trivial; omega))) (by have := H2.out.lay.ge .c trivial; omega) PCC.out (by rw [PC.out]; omega)
      · rw [hx, ← PN.out, ← hb2]
        exact Lie.fn ((H2.out.lay.at_ .d trivial).move (hs5 _ (by have := H2.out.lay.ge .d trivial; omega))) (by have := H2.out.lay.ge .d trivial; omega) PDD.out (by rw [PN.out]; omega)
    · go_wp2_with fail
      obtain ⟨X, hX⟩ : ∃ X, part man C.length T most (F k) = X := ⟨_, rfl⟩
      have XE := Lib.hid hX
      have X0 : X 0 = ⟨(F k).S, (F k).out, false⟩ := by rw [← hX]; rfl
      have XS : ∀ t, X (t + 1) = goOne man C.length T most (X t) t := by rw [← hX]; exact part_succ man C.length T most (F k)
      have GX := Lib.hid (show ∀ t, t ≤ T.length → GoodF T.length T most (X t) by rw [← hX]; exact (GF.out k).part OK.out hm)
      have XL := Lib.hid XS
      clear hX XS
      go_loopw [7, 8, 9] (fun vo vs vt wr => ∃ (t : Nat) (D : Dyn), t ≤ T.length ∧ vt = .int .i64 (t : Int) ∧ vs = .bool (X t).some_ ∧ Run P Wb wr D (X t).S ∧ D.blk .g = g ∧ ki.R 3 wr Wb.heap.size (Out P D (X t).S) vo (X t).out) (fun _ _ vt _ => T.length - (intOf vt).toNat)
      case atStart => exact ⟨0, D, Nat.zero_le _, rfl, by rw [X0], by rw [X0]; exact HR.out, HGD.out, by rw [X0]; exact HO.out⟩
      case round =>
        clear HR HO HGD D hco
        obtain ⟨t, D, ht, rfl, rfl, hR, hgD, hO⟩ := hrel
        have HR := Lib.hid hR; have HO := Lib.hid hO; have HGD := Lib.hid hgD
        obtain ⟨A1, c1, e1, hc1, -⟩ := Kd.R_reads hO
        obtain ⟨p0, p1, p2⟩ := CB.out wr (below_step BB.out hR.below)
        have GT := Lib.hid (GX.out t ht)
        clear hR hO hgD p0 p1
        by_cases hlt : t < T.length
        · have q0 := decide_eq_true (show (t : Int) < (T.length : Int) by omega)
          subst e1
          have p1 : IntKind.wrap .i64 ((t : Int) + 1) = (t : Int) + 1 := by rw [i64_w]; unfold wrap64; omega
          by_cases hlen : ((X t).out.length : Int) < most
          · have q3 := decide_eq_true hlen
            go_wp2_with fail
            rw [← HGD.out]
            refine (mayC P Wb wr D (X t).S T t HR.out HP.out (by rw [PN.out]; exact hlt) (by rw [PN.out]; omega)).mono ?_
            rintro e W2 ⟨rfl, hR2, hFr⟩
            have H2 := Lib.hid hR2
            have O2 := Lib.hid (out_fr HO.out hFr)
            clear hR2 hFr
            by_cases hmay : (X t).S.tx t < ((thr T t).length : Int)
            · have q4 := decide_eq_true hmay
              have hgo : X (t + 1) = ⟨{ stepS man C.length T (X t).S t with goes := inc (stepS man C.length T (X t).S t).goes }, (X t).out ++ [(t : Int)], true⟩ := by
                rw [XL.out]; unfold goOne; rw [if_pos ⟨hlen, hmay⟩]
              have HGO := Lib.hid hgo
              clear hgo
              have hmem := OK.out.ops t _ (opsOf_mem (X t).S t (GT.out.g.tx t).1 hmay)
              have hst := stepC P Wb W2 D (X t).S T t H2.out HP.out (by rw [PN.out]; exact hlt) (by rw [PN.out]; omega) (by rw [PC.out]; omega) (by rw [PC.out]; exact h1) (by have := GT.out.ev; omega) (by rw [PM.out]; exact hman) (fun c _ => by rw [PN.out]; exact (GT.out.g.own c).imp id (fun ⟨o, a, b, _⟩ => ⟨o, a, b⟩)) ⟨(GT.out.g.tx t).1, hmay⟩ (GT.out.g.at_ t) (fun y hy => ⟨(hmem.2 y hy).1, (hmem.2 y hy).2.1, by rw [PC.out]; exact (hmem.2 y hy).2.2.1⟩) (by omega)
              rw [PM.out, PC.out] at hst
              have HST := Lib.hid hst
              clear hst hmem
              rw [HGD.out]
              go_wp2_with fail
              rw [← HGD.out]
              refine HST.out.mono ?_
              rintro e W3 ⟨rfl, D', hgD', hR3, hFr⟩
              rw [HGD.out] at hgD' ⊢
              have O3 := Lib.hid (out_fr O2.out hFr)
              obtain ⟨S', hS'⟩ : ∃ S', stepS man C.length T (X t).S t = S' := ⟨_, rfl⟩
              have HGO := Lib.hid HGO.out
              rw [hS'] at hR3 HGO O3
              have g7 := hR3.g 7 (by decide)
              have t7 := hR3.thaw .g trivial 7
              simp only [gRow] at g7
              rw [hgD'] at g7 t7
              have p7 : IntKind.wrap .i64 (S'.goes + 1) = inc S'.goes := by rw [i64_w]
              have h4 := hR3.set_goes (inc S'.goes)
              rw [hgD'] at h4
              have H4 := Lib.hid h4
              have hO4 : ki.R 3 (W3.setCell ⟨g, 7, none⟩ (.int .i64 (inc S'.goes))) Wb.heap.size (Out P D' { S' with goes := inc S'.goes }) (.slice A1 (X t).out.length c1) (X t).out :=
                Kd.R_step (Kd.R_mono O3.out (fun b hb => hb)) (fun b hb hlt => Below.heap_setCell W3 _ _ b (by show b ≠ g; rw [← hgD']; exact hb.1 .g trivial))
              have O4 := Lib.hid hO4
              have hGD' := Lib.hid hgD'
              clear hO4 h4 hR3 hFr O3 HST hS' HO HR H2 O2 q4 hgD'
              have hll : (X t).out.length < 200 := by omega
              have hsz4 : (W3.setCell ⟨g, 7, none⟩ (Value.int .i64 (inc S'.goes))).heap.size = W3.heap.size := by simp [World.setCell]
              go_wp2_with ((with_reducible refine gate_builtin (b := .append) (xs := #[.tmp 53, .tmp 55]) rfl ?_); at_builtin; refine Kd.R_append ki (w0 := Wb) Wb.heap.size rfl (.tmp 53) (.tmp 55) 22 3 (.int .i64 0) 8 rfl Try.underlying22 info3 rfl (by decide) (by decide) (.slice A1 (X t).out.length c1) (X t).out (t : Int) [.int .i64 (t : Int)] (Out P D' { S' with goes := inc S'.goes }) (fun _ => False) rfl (by rw [hsz4]; rfl) rfl (fun _ h => h.elim) H4.out.fresh O4.out H4.out.below H4.out.below.size (by omega) ?_; intro v5 w5 hR5 hB5 hg5 hat5)
              go_roundw
              case measure => simp [intOf]; omega
              case rel => exact ⟨t + 1, D', hlt, rfl, by rw [HGO.out], by rw [HGO.out]; exact H4.out.kept (fun b e => O4.out.1 b e) hg5 hB5, hGD'.out, by rw [HGO.out]; exact hR5⟩
            · have q4 := decide_eq_false hmay
              have HGO := Lib.hid (show X (t + 1) = X t by rw [XL.out]; unfold goOne; rw [if_neg (fun h => hmay h.2)])
              rw [HGD.out]
              go_wp2_with fail
              go_roundw
              case measure => simp [intOf]; omega
              case rel => exact ⟨t + 1, D, hlt, rfl, by rw [HGO.out], by rw [HGO.out]; exact H2.out, HGD.out, by rw [HGO.out]; exact O2.out⟩
          · have q3 := decide_eq_false hlen
            have HGO := Lib.hid (show X (t + 1) = X t by rw [XL.out]; unfold goOne; rw [if_neg (fun h => hlen h.1)])
            go_wp2_with fail
            go_roundw
            case measure => simp [intOf]; omega
            case rel => exact ⟨t + 1, D, hlt, rfl, by rw [HGO.out], by rw [HGO.out]; exact HR.out, HGD.out, by rw [HGO.out]; exact HO.out⟩
        · have q0 := decide_eq_false (show ¬ (t : Int) < (T.length : Int) by omega)
          obtain rfl : t = T.length := by omega
          have hk1 : F (k + 1) = X T.length := by rw [← XE.out, ← FE.out]; rfl
          have hfl2 := part_flag man C.length T most (F k) T.length
          rw [XE.out] at hfl2
          have hl1 := (GX.out _ ht).len
          go_wp2_with fail
          refine ⟨⟨k + 1, D, by rw [hk1], by rw [hk1]; exact HR.out, HGD.out, by rw [hk1]; exact HO.out⟩, ?_⟩
          rw [eo, e1]
          rcases hq : (X T.length).some_ with _ | _
          · simp only [trV, lnV]; have := hfl2.2.2; omega
          · have := hfl2.1 hq
            simp only [trV, lnV]; omega
end Go.Proofs.Ytonhmkllfbagmaa.Tx
