/- FnMeasures, walked: it answers true. -/
import Derived.Test.YtjldnehlcplccaaMea
import Derived.Test.YtjldnehlcplccaaWavI
import Derived.Test.YtjldnehlcplccaaOwn
namespace Go.Proofs.Ytjldnehlcplccaa.Flo
open Go.RowKit Go.Proofs.YtjldnehlcplccaaW.PrintWords Go.Proofs.YtjldnehlcplccaaW.PrintLast Go.Proofs.YtjldnehlcplccaaW.PrintMore Go.Proofs.Ytjldnehlcplccaa.PFnMeasures Go.Proofs.Ytjldnehlcplccaa.Src
open Ieee
set_option linter.unusedSimpArgs false
set_option linter.unusedVariables false

@[local go_sem] theorem run_store_float2 {P : Program} {w : World} (a : Addr) (m : Mode) (k : FloatKind) (b : Nat) : (store a (.float k b) m).run P w = stored P w a (.float k b) m := run_store P w a _ m rfl
theorem run_eq_floatd {P : Program} (d : Nat) (t : TypeId) (k k' : FloatKind) (a b : Nat) (w : World) (h : P.underlying t = some (.float k')) : (Op.equalIn (d + 1) t (.float k a) (.float k b)).run P w = .ok (k.format.order a b == some .eq) w := by
  simp [Op.equalIn, run_underlying h, Op.floatEq]
@[local go_sem] theorem run_eq_float (w : World) (a b : Nat) : (Op.equalIn 9999 23 (.float .f64 a) (.float .f64 b)).run Try.prog w = .ok (FloatKind.f64.format.order a b == some .eq) w := run_eq_floatd 9998 23 .f64 .f64 a b w Try.underlying23
theorem lit_RI (L : List Int) (W : World) (base : Nat) (hb : base ≤ W.heap.size) (hl : L.length ≤ 9223372036854775807) :
    il.R 3 (W.alloc (.cells (L.map (Value.int .i64)).toArray 3)) base (fun _ => True) (.slice (some ⟨W.heap.size, 0, none⟩) L.length L.length) L := by
  refine Kd.R_of_own ?_ (fun _ _ => trivial)
  have h2 := World.ownsRow_lit (base := base) (e := 3) (size := 1) W (L.map (Value.int .i64)).toArray L.length hb (by simpa [maxLen] using hl) (by simp)
  unfold encs
  simpa using h2
theorem wp_floatG {P : Program} {ops : Array Oper} {rest : List Oper} {o : Oper} {a : Act} {Q : Exit → Act → World → Prop} (w : World) (hw : Region.wanted o (yielded ops a.tmps) = true) (op : BinOp) (h4 : op = .add ∨ op = .sub ∨ op = .mul ∨ op = .quo) (t t' : TypeId) (x y : Operand) (hop : o.op = Op.binOp op t x y t') (bx bz : Nat)
    (hx : a.eval x = .float .f64 bx) (hy : a.eval y = .float .f64 bz)
    (hK : ∀ r n, cd r = fop op (cd bx) (cd bz) → wpList P ops Q rest (a.put o.dst (.float .f64 r)) (w.drewN n)) : wpList P ops Q (o :: rest) a w := by
  refine BigFrame.wpList_want hw fun K' hK' => ?_
  cases hf : floatBits op .f64 bx bz with
  | some r =>
    have hrun := run_float_arith (P := P) w op t .f64 bx bz r hf
    have hr : cd r = fop op (cd bx) (cd bz) := by
      rw [floatBits_raw] at hf
      unfold fop
      cases hq : raw op (cd bx) (cd bz) with
      | none => rw [hq] at hf; cases hf
      | some d => rw [hq] at hf; simp only [Option.map_some, Option.some.injEq] at hf; subst hf; rfl
    unfold Oper.wp
    rcases h4 with rfl | rfl | rfl | rfl <;> simp [execOp, hop, hx, hy, hrun, eqGuard, Result.andThen] <;> exact hK' _ _ (hK r 0 hr)
  | none =>
    have hfm : raw op (cd bx) (cd bz) = none := by
      rw [floatBits_raw] at hf
      cases hq : raw op (cd bx) (cd bz) with
      | none => rfl
      | some d => rw [hq] at hf; cases hf
    have hn : ∀ t, cd (Question.cut (.nanBits .f64 bx bz) t) = fop op (cd bx) (cd bz) := by
      intro t
      unfold fop
      rw [hfm]
      exact cd_drawn t
    have hrun : (binOp op t (.float .f64 bx) (.float .f64 bz)).run P w = .ok (.float .f64 (Question.cut (.nanBits .f64 bx bz) (w.tape w.drawn (.nanBits .f64 bx bz)))) (w.drewN 1) := by
      unfold floatBits at hf
      rcases h4 with rfl | rfl | rfl | rfl <;> simp only at hf <;> simp [binOp, Op.floatArith, hf, Question.forced, World.drewN]
    unfold Oper.wp
    rcases h4 with rfl | rfl | rfl | rfl <;> simp [execOp, hop, hx, hy, hrun, eqGuard, Result.andThen] <;> exact hK' _ _ (hK _ 1 (hn _))
theorem add_at0 (g k : Nat) : (⟨g, 0, none⟩ : Addr).add k = ⟨g, k, none⟩ := by
  unfold Addr.add
  split
  · rename_i h; subst h; rfl
  · simp
noncomputable def negC (n : Nat) : Bool := frc (floatOfInt .f64 (n : Int)) fun x => cd (Nat.xor x 9223372036854775808) == (cd x).opposite
theorem neg_all : allK negC 1 1000 = true := by decide +kernel
theorem neg_ok {n : Nat} (h0 : 1 ≤ n) (h : n ≤ 1000) : cd (Op.negFloat .f64 (floatOfInt .f64 (n : Int))) = (cd (floatOfInt .f64 (n : Int))).opposite := by
  have h1 := all_part neg_all n h0 (by omega)
  unfold negC at h1
  rw [frc_eq] at h1
  exact beq_iff_eq.1 h1
@[local go_sem] theorem run_unary_negf {P : Program} {w : World} (b : Nat) : (Op.unary .neg (.float .f64 b)).run P w = .ok (.float .f64 (Op.negFloat .f64 b)) w := by simp [Op.unary]
theorem drawn_below {w w' : World} (h : Drawn0 w w') : Below w.heap.size w w' := by
  obtain ⟨n, rfl⟩ := h
  exact pw_below_drewN (Below.refl _ _) n
theorem at_some {l : List Int} {a n : Int} (hF : Bytes l) (ha : 0 ≤ a ∧ a ≤ 1) (hn : 2 ≤ n ∧ n ≤ 1000) : ∃ r, laws_at.f l a n = some r ∧ 0 ≤ r ∧ r < n := by
  have hw : ∀ x : Int, -100000000 ≤ x → x ≤ 100000000 → wrap64 x = x := fun x h0 h1 => wrap_ok (by omega) (by omega)
  unfold laws_at.f
  rw [if_neg (by omega)]
  by_cases hl : (l.length : Int) = 0
  · rw [if_pos hl, if_neg (by omega), hw _ (by omega) (by omega)]
    exact ⟨_, rfl, Int.tmod_nonneg _ (by omega), Int.tmod_lt_of_pos _ (by omega)⟩
  · have hp : 0 < (l.length : Int) := by omega
    have e1 : wrap64 (a + 1) = a + 1 := hw _ (by omega) (by omega)
    have m1 := Int.tmod_nonneg (l.length : Int) (show 0 ≤ a by omega)
    have m2 := Int.tmod_lt_of_pos a hp
    have m3 := Int.tmod_nonneg (l.length : Int) (show 0 ≤ a + 1 by omega)
    have m4 := Int.tmod_lt_of_pos (a + 1) hp
    have m5 : 0 ≤ Int.tdiv a (l.length : Int) := Int.tdiv_nonneg (by omega) (by omega)
    have m6 : Int.tdiv a (l.length : Int) ≤ 1 := by
      rw [Int.tdiv_eq_ediv_of_nonneg (by omega)]
      exact Int.le_trans (Int.ediv_le_self _ (by omega)) (by omega)
    rw [if_neg hl, if_pos m1, if_pos m2, e1, if_pos m3, if_pos m4, if_neg (by omega)]
    have b1 := hF.2 _ m1 m2
    have b2 := hF.2 _ m3 m4
    obtain ⟨x, hx⟩ : ∃ x, rd l (Int.tmod a (l.length : Int)) = x := ⟨_, rfl⟩
    obtain ⟨y, hy⟩ : ∃ y, rd l (Int.tmod (a + 1) (l.length : Int)) = y := ⟨_, rfl⟩
    obtain ⟨q, hq⟩ : ∃ q, Int.tdiv a (l.length : Int) = q := ⟨_, rfl⟩
    rw [hx] at b1
    rw [hy] at b2
    rw [hq] at m5 m6
    rw [hx, hy, hq, hw x (by omega) (by omega), hw y (by omega) (by omega), hw q (by omega) (by omega), hw (x * 31) (by omega) (by omega), hw (x * 31 + y) (by omega) (by omega), hw (x * 31 + y + q) (by omega) (by omega)]
    exact ⟨_, rfl, Int.tmod_nonneg _ (by omega), Int.tmod_lt_of_pos _ (by omega)⟩
theorem atC (A0 : Option Addr) (c0 : Nat) (l0 : List Int) (a n : Int) (w : World) (hr0 : Kd.C (Kd.int .u8) w A0 l0.length l0) (hc0 : l0.length ≤ c0) (hF : Bytes l0) (ha : 0 ≤ a ∧ a ≤ 1) (hn : 2 ≤ n ∧ n ≤ 1000) :
    Calls Try.prog 29 #[.slice A0 l0.length c0, .int .i64 a, .int .i64 n] w fun e w' => ∃ r : Nat, e = .returned (.int .i64 (r : Int)) ∧ (r : Int) < n ∧ Below w.heap.size w w' := by
  obtain ⟨r, h, h0, h1⟩ := at_some hF ha hn
  refine (laws_at.calls A0 c0 l0 a n r w hr0 hc0 h).mono ?_
  rintro e w' ⟨rfl, hd⟩
  exact ⟨r.toNat, by rw [show ((r.toNat : Nat) : Int) = r by omega], by omega, drawn_below hd⟩

theorem shr_ok {N : Nat} (h0 : 1 ≤ N) (h : N ≤ 1000) : shCode [(N : Int), (N : Int)] = 0 ∧ shOut [(N : Int), (N : Int)] = [fop .quo (cd (floatOfInt .f64 (N : Int))) (cd (floatOfInt .f64 (2 * N : Nat))), fop .quo (cd (floatOfInt .f64 (N : Int))) (cd (floatOfInt .f64 (2 * N : Nat)))] := by
  have hg : good (N : Int) = true := by unfold good; simp; omega
  have hc : shCode [(N : Int), (N : Int)] = 0 := by
    unfold shCode
    rw [if_neg (by simp), if_pos (by simp [hg])]
  refine ⟨hc, ?_⟩
  unfold shOut
  rw [if_pos hc]
  have hs : sumTo [(N : Int), (N : Int)] 2 = ((2 * N : Nat) : Int) := by
    show (0 + (N : Int)) + (N : Int) = _
    omega
  show [shAt _ 0, shAt _ 1] = _
  unfold shAt
  show [if 0 < sumTo [(N : Int), (N : Int)] 2 then fop .quo (cd (floatOfInt .f64 (N : Int))) (cd (floatOfInt .f64 (sumTo [(N : Int), (N : Int)] 2))) else cd 0, if 0 < sumTo [(N : Int), (N : Int)] 2 then fop .quo (cd (floatOfInt .f64 (N : Int))) (cd (floatOfInt .f64 (sumTo [(N : Int), (N : Int)] 2))) else cd 0] = _
  rw [hs, if_pos (by omega)]

theorem wv_get {out : List Nat} {X : Nat → Datum} (h : out.map cd = wvTo X 8) : out.length = 16 ∧ ∀ k : Nat, k < 8 → cd (rdOf 0 out ((2 * k : Nat) : Int)) = reAt X k 8 ∧ cd (rdOf 0 out ((2 * k + 1 : Nat) : Int)) = imAt X k 8 := by
  have hl : out.length = 16 := by
    have := congrArg List.length h
    rw [wvTo_len] at this
    simpa using this
  refine ⟨hl, fun k hk => ?_⟩
  have hg : ∀ j : Nat, j < 16 → some (cd (rdOf 0 out (j : Int))) = (wvTo X 8)[j]? := by
    intro j hj
    have h1 := congrArg (fun l => l[j]?) h
    simp only [List.getElem?_map] at h1
    have h2 := rdOf_get 0 out (j : Int) (by omega) (by omega)
    rw [show ((j : Int)).toNat = j by omega] at h2
    rw [h2] at h1
    exact h1
  have h0 := hg (2 * k) (by omega)
  have h1 := hg (2 * k + 1) (by omega)
  rcases k with _ | _ | _ | _ | _ | _ | _ | _ | k <;> first | omega | exact ⟨Option.some.inj h0, Option.some.inj h1⟩

set_option maxHeartbeats 4000000 in
set_option maxRecDepth 100000 in
theorem lawMeasures (A1 A2 : Option Addr) (c1 c2 : Nat) (l1 l2 : List Int) (w : World) (hr1 : Kd.C (Kd.int .u8) w A1 l1.length l1) (hc1 : l1.length ≤ c1) (hr2 : Kd.C (Kd.int .u8) w A2 l2.length l2) (hc2 : l2.length ≤ c2)
    (hb1 : ∀ k : Int, 0 ≤ k → k < l1.length → 0 ≤ rd l1 k ∧ rd l1 k ≤ 255) (hb2 : ∀ k : Int, 0 ≤ k → k < l2.length → 0 ≤ rd l2 k ∧ rd l2 k ≤ 255) :
    Calls Try.prog 8 #[.slice A1 l1.length c1, .slice A2 l2.length c2] w fun e w' => e = .returned (.bool true) ∧ Below w.heap.size w w' := by
  have H1 := Lib.hid hr1; have H2 := Lib.hid hr2
  clear hr1 hr2
  by_cases hl1 : 1048576 < (l1.length : Int)
  · have q1 := decide_eq_true hl1
    go_enter Try.func8, Try.ntmps8
    go_wp2_with fail
    go_ret
    exact ⟨rfl, Below.refl _ _⟩
  by_cases hl2 : 1048576 < (l2.length : Int)
  · have q1 := decide_eq_false hl1
    have q2 := decide_eq_true hl2
    go_enter Try.func8, Try.ntmps8
    go_wp2_with fail
    go_ret
    exact ⟨rfl, Below.refl _ _⟩
  have F1 := Lib.hid (show Bytes l1 from ⟨by omega, hb1⟩); have F2 := Lib.hid (show Bytes l2 from ⟨by omega, hb2⟩)
  have q1 := decide_eq_false hl1
  have q2 := decide_eq_false hl2
  clear hb1 hb2 hl1 hl2
  go_enter Try.func8, Try.ntmps8
  go_wp2_with fail
  refine (samplesC A1 c1 l1 w H1.out hc1 F1.out).mono ?_
  rintro e w1 ⟨vx, xs, rfl, hR, hx1, hx2, hsm, hB⟩
  clear H1 F1
  obtain ⟨Ax, cx, rfl, hcx, hrx⟩ := Rd.of hR
  clear hrx
  have OX := Lib.hid (Own.new hR (Nat.le_refl w.heap.size)); have SM := Lib.hid hsm; have BB := Lib.hid hB
  clear hR hsm hB
  go_wp2_with fail
  refine (atC A2 c2 l2 0 100 w1 (Kd.C_below H2.out BB.out) hc2 F2.out (by omega) (by omega)).mono ?_
  rintro e w2 ⟨r, rfl, hr, hB⟩
  have OX2 := Lib.hid (OX.out.below hB); have BB2 := Lib.hid (below_step BB.out hB)
  clear hB OX BB
  go_wp2_with fail
  obtain ⟨E, hE⟩ : ∃ E, w2.alloc (.cells #[.float .f64 13860109328209412096, .float .f64 (floatOfInt .f64 (r : Int)), .float .f64 4639481672377565184] 23) = E := ⟨_, rfl⟩
  rw [hE]
  have HBS := Lib.hid (show Rd fl E (.slice (some ⟨w2.heap.size, 0, none⟩) 3 3) [13860109328209412096, floatOfInt .f64 (r : Int), 4639481672377565184] by rw [← hE]; exact Rd.of (lit_R [13860109328209412096, floatOfInt .f64 (r : Int), 4639481672377565184] w2 w2.heap.size (Nat.le_refl _) (by simp)))
  have hBE : Below w2.heap.size w2 E := by rw [← hE]; exact (Below.refl _ w2).alloc (Nat.le_refl _) _
  have OX := Lib.hid (OX2.out.below hBE); have BB := Lib.hid (below_step BB2.out hBE)
  clear hE hBE OX2 BB2
  obtain ⟨hbc, hcn⟩ := buk_ok (xs := xs) hx2 r (by omega)
  refine (implBuckets (.slice Ax xs.length cx) _ xs _ E OX.out.rd HBS.out).mono ?_
  rintro e w3 ⟨vc, rfl, hRc, hB⟩
  rw [hbc]
  obtain ⟨C, hC⟩ : ∃ C, bkOut xs [13860109328209412096, floatOfInt .f64 (r : Int), 4639481672377565184] = C := ⟨_, rfl⟩
  rw [hC] at hRc hcn
  clear hC hbc HBS
  have hC4 := hcn.len
  have CN := Lib.hid hcn
  have OX2 := Lib.hid (OX.out.below hB); have BB2 := Lib.hid (below_step BB.out hB)
  obtain ⟨Ac, cc, rfl, hcc, hrc⟩ := Rd.of hRc
  have RC := Lib.hid hrc
  clear hB OX BB hRc hcn hrc
  rw [hC4] at RC hcc ⊢
  go_wp2_with fail
  go_loopw [9, 10] (fun sv iv wr => ∃ x : Int, 0 ≤ x ∧ x ≤ 4 ∧ iv = .int .i64 x ∧ sv = .int .i64 (sumTo C x.toNat) ∧ wr = w3) (fun _ iv _ => (4 - intOf iv).toNat)
  case atStart => exact ⟨0, by omega, by omega, rfl, rfl, rfl⟩
  case round =>
    obtain ⟨x, hx0, hx4, rfl, rfl, rfl⟩ := hrel
    by_cases hlt : x < 4
    · obtain ⟨ad, eA, g0⟩ := at_scalar 0 RC.out x hx0 hlt
      subst eA
      have p1 := CN.out.part (x + 1).toNat (by omega)
      have e1 : (x + 1).toNat = x.toNat + 1 := by omega
      have e2 : sumTo C (x.toNat + 1) = sumTo C x.toNat + rdOf 0 C x := by
        show sumTo C x.toNat + rdOf 0 C ((x.toNat : Nat) : Int) = _
        rw [show ((x.toNat : Nat) : Int) = x by omega]
      rw [e1, e2] at p1
      have p2 : IntKind.wrap .i64 (sumTo C x.toNat + rdOf 0 C x) = sumTo C x.toNat + rdOf 0 C x := by rw [i64_w]; exact wrap_ok (by omega) (by omega)
      go_wp2_with fail
      go_roundw
      case measure => simp [intOf]; omega
      case rel => exact ⟨x + 1, by omega, by omega, rfl, by rw [e1, e2], by first | trivial | rfl⟩
    · have hx : x = 4 := by omega
      subst hx
      have hsum := CN.out.all
      rw [show (4 : Int).toNat = 4 from rfl, hsum]
      clear hsum CN RC
      go_wp2_with fail
      have MMF := Lib.hid (mm_ok (X := fun i => rdOf 0 xs (i : Int)) (N := xs.length) (by omega) (fun j hj => (SM.out j hj).num))
      have MB := Lib.hid (mean_bd (X := fun i => cd (rdOf 0 xs (i : Int))) (smp_all SM.out) xs.length hx2)
      have VB := Lib.hid (var_bd (X := fun i => cd (rdOf 0 xs (i : Int))) (smp_all SM.out) xs.length hx1 hx2)
      obtain ⟨mn, hmn⟩ : ∃ mn, minAt (fun i => rdOf 0 xs (i : Int)) xs.length = mn := ⟨_, rfl⟩
      obtain ⟨mx, hmx⟩ : ∃ mx, maxAt (fun i => rdOf 0 xs (i : Int)) xs.length = mx := ⟨_, rfl⟩
      obtain ⟨me, hme⟩ : ∃ me, meanAt (fun i => cd (rdOf 0 xs (i : Int))) xs.length = me := ⟨_, rfl⟩
      obtain ⟨va, hva⟩ : ∃ va, fop .quo (sqAt (fun i => cd (rdOf 0 xs (i : Int))) xs.length) (cd (floatOfInt .f64 (xs.length : Int))) = va := ⟨_, rfl⟩
      have cI := fun W (hW : Rd fl W (.slice Ax xs.length cx) xs) => implSummary0 _ xs W hW (by omega) (by omega)
      have cS := fun W (hW : Rd fl W (.slice Ax xs.length cx) xs) => specSummary0 _ xs W hW (by omega) (by omega)
      rw [hmn, hmx, hme, hva] at cI cS
      rw [hmn, hmx] at MMF
      rw [hme] at MB
      rw [hva] at VB
      clear hmn hmx hme hva
      refine (cI _ OX2.out.rd).mono ?_
      rintro e w4 ⟨a, b, rfl, ha, hb, hB⟩
      have OX := Lib.hid (OX2.out.below hB); have BB := Lib.hid (below_step BB2.out hB)
      clear hB OX2 BB2 cI
      go_wp2_with fail
      obtain ⟨Bm, hBm⟩ : ∃ Bm, w4.heap.size = Bm := ⟨_, rfl⟩
      obtain ⟨E, hE⟩ : ∃ E, w4.alloc (.cells #[.int .i64 (xs.length : Int), .float .f64 a, .float .f64 b, .float .f64 mn, .float .f64 mx] 31) = E := ⟨_, rfl⟩
      rw [hE, hBm]
      have hM : E.heap[Bm]? = some (.cells #[.int .i64 (xs.length : Int), .float .f64 a, .float .f64 b, .float .f64 mn, .float .f64 mx] 31 (0, 0)) := by rw [← hE, ← hBm]; exact heap_alloc_new w4 _
      have hBE : Below w4.heap.size w4 E := by rw [← hE]; exact (Below.refl _ w4).alloc (Nat.le_refl _) _
      have OX2 := Lib.hid (OX.out.below hBE); have BB2 := Lib.hid (below_step BB.out hBE)
      have hltm : Bm < E.heap.size := blk_lt hM
      clear hE hBE OX BB
      refine (cS _ OX2.out.rd).mono ?_
      rintro e w5 ⟨a', b', rfl, ha', hb', hB⟩
      have OX := Lib.hid (OX2.out.below hB); have BB := Lib.hid (below_step BB2.out hB)
      have hM5 := (hB.block Bm hltm).trans hM
      clear hB OX2 BB2 cS hM hltm
      have oa : FloatKind.f64.format.order a a' = some .eq := by rw [order_cd, ha, ha']; obtain ⟨_, _, _, e, _⟩ := MB.out; exact order_self _ (fun s f h => by rw [e] at h; cases h)
      have ob : FloatKind.f64.format.order b b' = some .eq := by rw [order_cd, hb, hb']; obtain ⟨_, _, _, e, _⟩ := VB.out; exact order_self _ (fun s f h => by rw [e] at h; cases h)
      have on : FloatKind.f64.format.order mn mn = some .eq := by rw [order_cd]; exact order_self _ (num_ne MMF.out.nmn)
      have ox : FloatKind.f64.format.order mx mx = some .eq := by rw [order_cd]; exact order_self _ (num_ne MMF.out.nmx)
      clear ha hb ha' hb'
      have HM5 := Lib.hid hM5
      have k0 := (blk_cell hM5 0).trans rfl; have k1 := (blk_cell hM5 1).trans rfl; have k2 := (blk_cell hM5 2).trans rfl; have k3 := (blk_cell hM5 3).trans rfl; have k4 := (blk_cell hM5 4).trans rfl
      have hne : Bm < w5.heap.size := blk_lt hM5
      clear hM5
      go_wp2_with fail
      have HM6 := Lib.hid (show Below w5.heap.size w5 (w5.alloc (.cells #[.int .i64 (xs.length : Int), .float .f64 a', .float .f64 b', .float .f64 mn, .float .f64 mx] 31)) from (Below.refl _ w5).alloc (Nat.le_refl _) _)
      obtain ⟨V, hV⟩ : ∃ V, w5.alloc (.cells #[.int .i64 (xs.length : Int), .float .f64 a', .float .f64 b', .float .f64 mn, .float .f64 mx] 31) = V := ⟨_, rfl⟩
      rw [hV] at HM6
      first | rw [hV] | skip
      clear hV k0 k1 k2 oa ob on ox
      replace k3 := (HM6.out.cell (p := ⟨Bm, 3, none⟩) hne).trans k3
      replace k4 := (HM6.out.cell (p := ⟨Bm, 4, none⟩) hne).trans k4
      have OX2 := Lib.hid (OX.out.below HM6.out); have BB2 := Lib.hid (below_step BB.out HM6.out)
      clear HM6 OX BB HM5 hne MB VB
      go_loopw [14, 15, 16] (fun lo hi iv wr => ∃ x : Int, 0 ≤ x ∧ x ≤ (xs.length : Int) ∧ iv = .int .i64 x ∧ lo = .bool (isAt (fun i => rdOf 0 xs (i : Int)) mn x.toNat) ∧ hi = .bool (isAt (fun i => rdOf 0 xs (i : Int)) mx x.toNat) ∧ ∃ n, wr = V.drewN n) (fun _ _ iv _ => xs.length - (intOf iv).toNat)
      case atStart => exact ⟨0, by omega, by omega, rfl, rfl, rfl, 0, rfl⟩
      case round =>
        obtain ⟨x, hx0, hxn, rfl, rfl, rfl, n, rfl⟩ := hrel
        by_cases hlt : x < (xs.length : Int)
        · obtain ⟨Ax', cx', eX, hcx', hrx'⟩ := OX2.out.rd
          injection eX with eX1 eX2 eX3
          subst eX1; subst eX3; clear eX2
          obtain ⟨ad, eA, g0⟩ := at_scalar 0 hrx' x hx0 hlt
          subst eA
          clear hrx'
          have e1 : (x + 1).toNat = x.toNat + 1 := by omega
          have e2 : ((x.toNat : Nat) : Int) = x := by omega
          have m1 := MMF.out.ge x.toNat (by omega)
          have m2 := MMF.out.le x.toNat (by omega)
          have s1 : isAt (fun i => rdOf 0 xs (i : Int)) mn (x.toNat + 1) = (isAt (fun i => rdOf 0 xs (i : Int)) mn x.toNat || (FloatKind.f64.format.order (rdOf 0 xs ((x.toNat : Nat) : Int)) mn == some .eq)) := rfl
          have s2 : isAt (fun i => rdOf 0 xs (i : Int)) mx (x.toNat + 1) = (isAt (fun i => rdOf 0 xs (i : Int)) mx x.toNat || (FloatKind.f64.format.order (rdOf 0 xs ((x.toNat : Nat) : Int)) mx == some .eq)) := rfl
          rw [e2] at s1 s2
          simp only [e2] at m1 m2
          rw [← e1] at s1 s2
          obtain ⟨L, hL⟩ : ∃ L, isAt (fun i => rdOf 0 xs (i : Int)) mn x.toNat = L := ⟨_, rfl⟩
          obtain ⟨H, hH⟩ : ∃ H, isAt (fun i => rdOf 0 xs (i : Int)) mx x.toNat = H := ⟨_, rfl⟩
          rw [hL] at s1
          rw [hH] at s2
          rw [hL, hH]
          clear hL hH
          have S1 := Lib.hid s1; have S2 := Lib.hid s2
          clear s1 s2
          obtain ⟨X, hX⟩ : ∃ X, rdOf 0 xs x = X := ⟨_, rfl⟩
          rw [hX] at g0 m1 m2 S1 S2
          clear hX
          rcases L with _ | _ <;> rcases H with _ | _
          all_goals (
            go_wp2_with fail
            go_quiet (fail)
            go_wp2_with fail
            go_quiet (fail)
            go_wp2_with fail
            go_quiet (fail)
            go_wp2_with fail
            go_roundw
            case measure => simp [intOf]; omega
            case rel => exact ⟨x + 1, by omega, by omega, rfl, by rw [S1.out]; rfl, by rw [S2.out]; rfl, _, rfl⟩)
        · have hxe : x.toNat = xs.length := by omega
          have lo := MMF.out.low
          have hi := MMF.out.high
          rw [hxe, lo, hi]
          clear lo hi k3 k4 MMF
          obtain ⟨V2, hV2⟩ : ∃ V2, V2 = V.drewN n := ⟨_, rfl⟩
          have hVB : Below V.heap.size V V2 := by rw [hV2]; exact pw_below_drewN (Below.refl _ _) _
          rw [← hV2]
          have OX := Lib.hid (OX2.out.below hVB); have BB := Lib.hid (below_step BB2.out hVB)
          clear hV2 hVB OX2 BB2
          go_wp2_with fail
          refine (implSmooth _ xs 0 _ OX.out.rd).mono ?_
          rintro e w7 ⟨vf, fl1, rfl, hRf, hof, hB⟩
          rw [show many xs.length = 0 by unfold many; rw [if_neg (by omega)]]
          obtain ⟨hfl, hfe⟩ := flat_ok hx2 SM.out hof
          clear hof
          obtain ⟨Af, cf, rfl, hcf, hrf⟩ := Rd.of hRf
          have RF := Lib.hid hrf; have FE := Lib.hid hfe
          clear hrf hfe hRf
          rw [hfl] at RF hcf ⊢
          have OX2 := Lib.hid (OX.out.below hB); have BB2 := Lib.hid (below_step BB.out hB)
          clear hB OX BB
          go_wp2_with fail
          go_loopw [18] (fun iv wr => ∃ x : Int, 0 ≤ x ∧ x ≤ (xs.length : Int) ∧ iv = .int .i64 x ∧ ∃ n, wr = w7.drewN n) (fun iv _ => xs.length - (intOf iv).toNat)
          case atStart => exact ⟨0, by omega, by omega, rfl, 0, rfl⟩
          case round =>
            obtain ⟨x, hx0, hxn, rfl, m, rfl⟩ := hrel
            by_cases hlt : x < (xs.length : Int)
            · obtain ⟨Ax', cx', eX, hcx', hrx'⟩ := OX2.out.rd
              injection eX with eX1 eX2 eX3
              subst eX1; subst eX3; clear eX2
              obtain ⟨ad, eA, g0⟩ := at_scalar 0 hrx' 0 (by omega) (by omega)
              subst eA
              obtain ⟨af, eF, g1⟩ := at_scalar 0 RF.out x hx0 hlt
              subst eF
              clear hrx'
              have m1 := FE.out x.toNat (by omega)
              have hp : (0 : Int) < (xs.length : Int) := by omega
              have b1 := eq_true hp
              have b2 := eq_true hlt
              have b3 := eq_true hx0
              have b4 : 0 < xs.length := by omega
              have b5 := eq_true b4
              rw [show ((x.toNat : Nat) : Int) = x by omega] at m1
              obtain ⟨X, hX⟩ : ∃ X, rdOf 0 xs 0 = X := ⟨_, rfl⟩
              obtain ⟨Y, hY⟩ : ∃ Y, rdOf 0 fl1 x = Y := ⟨_, rfl⟩
              rw [show Int.toNat 0 = 0 from rfl, Addr.add_zero'] at g0
              rw [hX] at g0 m1
              rw [hY] at g1 m1
              have m2 : (FloatKind.f64.format.order Y X != some .eq) = false := by rw [bne, m1]; rfl
              have m3 : FloatKind.f64.format.order Y X = some .eq := by simpa using m1
              clear hX hY
              go_wp2_with fail
              go_quiet (fail)
              go_wp2_with fail
              go_roundw
              case measure => simp [intOf]; omega
              case rel => exact ⟨x + 1, by omega, by omega, rfl, _, rfl⟩
            · clear RF FE
              obtain ⟨V2, hV2⟩ : ∃ V2, V2 = w7.drewN m := ⟨_, rfl⟩
              have hVB : Below w7.heap.size w7 V2 := by rw [hV2]; exact pw_below_drewN (Below.refl _ _) _
              rw [← hV2]
              have BB := Lib.hid (below_step BB2.out hVB)
              clear hV2 hVB OX2 BB2 SM
              go_wp2_with fail
              refine (atC A2 c2 l2 1 1000 V2 (Kd.C_below H2.out BB.out) hc2 F2.out (by omega) (by omega)).mono ?_
              rintro e w8 ⟨s, rfl, hs, hB⟩
              have BB2 := Lib.hid (below_step BB.out hB)
              clear hB BB H2 F2
              have p1 : IntKind.wrap .i64 (1 + (s : Int)) = ((s + 1 : Nat) : Int) := by rw [i64_w, show 1 + (s : Int) = ((s + 1 : Nat) : Int) by omega]; exact wrap_ok (by omega) (by omega)
              obtain ⟨N, hN⟩ : ∃ N, s + 1 = N := ⟨_, rfl⟩
              have hN1 : 1 ≤ N ∧ N ≤ 1000 := by omega
              rw [hN] at p1
              go_wp2_with fail
              obtain ⟨E, hE⟩ : ∃ E, w8.alloc (.cells #[.int .i64 (N : Int), .int .i64 (N : Int)] 3) = E := ⟨_, rfl⟩
              rw [hE]
              have HBS := Lib.hid (show Rd il E (.slice (some ⟨w8.heap.size, 0, none⟩) 2 2) [(N : Int), (N : Int)] by rw [← hE]; exact Rd.of (lit_RI [(N : Int), (N : Int)] w8 w8.heap.size (Nat.le_refl _) (by simp)))
              have hBE : Below w8.heap.size w8 E := by rw [← hE]; exact (Below.refl _ w8).alloc (Nat.le_refl _) _
              have BB := Lib.hid (below_step BB2.out hBE)
              clear hE hBE BB2
              refine (implShares _ [(N : Int), (N : Int)] E HBS.out).mono ?_
              rintro e w9 hA
              obtain ⟨hsc, hso⟩ := shr_ok (N := N) (by omega) (by omega)
              obtain ⟨vp, op, rfl, hRp, hop, hB⟩ := hA
              rw [hsc]
              rw [hso] at hop
              obtain ⟨P0, P1, rfl⟩ : ∃ P0 P1, op = [P0, P1] := by
                have hl := congrArg List.length hop
                simp only [List.length_map, List.length_cons, List.length_nil] at hl
                match op, hl with
                | [a, b], _ => exact ⟨a, b, rfl⟩
              have hop0 : cd P0 = fop .quo (cd (floatOfInt .f64 (N : Int))) (cd (floatOfInt .f64 (2 * N : Nat))) ∧ cd P1 = fop .quo (cd (floatOfInt .f64 (N : Int))) (cd (floatOfInt .f64 (2 * N : Nat))) := by
                simp only [List.map_cons, List.map_nil, List.cons.injEq, and_true] at hop
                exact hop
              have WO := Lib.hid (wav_ok (n := N) (by omega) (by omega) (fun i => cd (rdOf 0 (List.replicate 8 (floatOfInt .f64 (N : Int))) (i : Int))) (fun i hi => by
                rcases i with _ | _ | _ | _ | _ | _ | _ | _ | i <;> first | rfl | omega))
              have o0 : (FloatKind.f64.format.order P0 4602678819172646912 == some .eq) = true := by rw [order_cd, hop0.1]; exact WO.out.half
              have o1 : (FloatKind.f64.format.order P1 4602678819172646912 == some .eq) = true := by rw [order_cd, hop0.2]; exact WO.out.half
              have o2 : FloatKind.f64.format.order P0 4602678819172646912 = some .eq := by simpa using o0
              have o3 : FloatKind.f64.format.order P1 4602678819172646912 = some .eq := by simpa using o1
              have BB2 := Lib.hid (below_step BB.out hB)
              obtain ⟨gp, cp, evp, -, -, -⟩ := Kd.R_form hRp (by simp)
              subst evp
              obtain ⟨Ap, cp', eP0, hcp, hrp⟩ := Rd.of hRp
              injection eP0 with eP1 eP2 eP3
              subst eP1
              obtain ⟨ap, eP, g0⟩ := at_scalar 0 hrp 0 (by omega) (by simp)
              obtain ⟨ap', eP', g1⟩ := at_scalar 0 hrp 1 (by omega) (by simp)
              injection eP with eP
              subst eP
              injection eP' with eP'
              subst eP'
              replace g0 : w9.cell? ⟨gp, 0, none⟩ = some (.float .f64 P0) := g0
              replace g1 : w9.cell? ⟨gp, 1, none⟩ = some (.float .f64 P1) := g1
              clear hrp hB BB hRp hop hop0 HBS eP2 eP3 hcp
              simp only [List.length_cons, List.length_nil]
              go_wp2_with fail
              obtain ⟨x8, hx8⟩ : ∃ x8, floatOfInt .f64 (N : Int) = x8 := ⟨_, rfl⟩
              rw [hx8] at WO
              have W1 := WO.out.first; have W2 := WO.out.second
              rw [hx8] at W1
              have W3 := Lib.hid WO.out.re; have W4 := Lib.hid WO.out.im
              have HN := Lib.hid (neg_ok (n := N) (by omega) (by omega))
              rw [hx8] at HN
              rw [hx8] at W3 W4
              rw [hx8]
              obtain ⟨E2, hE2⟩ : ∃ E2, w9.alloc (.cells #[.float .f64 x8, .float .f64 x8, .float .f64 x8, .float .f64 x8, .float .f64 x8, .float .f64 x8, .float .f64 x8, .float .f64 x8] 23) = E2 := ⟨_, rfl⟩
              rw [hE2]
              have HBS := Lib.hid (show Rd fl E2 (.slice (some ⟨w9.heap.size, 0, none⟩) 8 8) (List.replicate 8 x8) by rw [← hE2]; exact Rd.of (lit_R (List.replicate 8 x8) w9 w9.heap.size (Nat.le_refl _) (by simp)))
              have hBE : Below w9.heap.size w9 E2 := by rw [← hE2]; exact (Below.refl _ w9).alloc (Nat.le_refl _) _
              have BB := Lib.hid (below_step BB2.out hBE)
              clear hE2 hBE BB2 WO g0 g1 o0 o1 o2 o3
              refine (implWaves _ (List.replicate 8 x8) E2 HBS.out).mono ?_
              rintro e wA ⟨vw, ow, rfl, hRw, how, hB⟩
              have hwc : wvCode (List.replicate 8 x8) = 0 := rfl
              have hwo : wvOut (List.replicate 8 x8) = wvTo (fun i => cd (rdOf 0 (List.replicate 8 x8) (i : Int))) 8 := rfl
              rw [hwc]
              rw [hwo] at how
              obtain ⟨hwl, hwg⟩ := wv_get how
              have WG := Lib.hid hwg
              have BB2 := Lib.hid (below_step BB.out hB)
              obtain ⟨gw, cw, evw, -, -, -⟩ := Kd.R_form hRw (by omega)
              subst evw
              obtain ⟨Aw, cw', eP0, hcw, hrw⟩ := Rd.of hRw
              injection eP0 with eP1 eP2 eP3
              subst eP1
              have RW := Lib.hid hrw
              clear hB BB hRw how hwo hwc hwg HBS eP2 eP3 hcw hrw
              rw [hwl] at RW ⊢
              obtain ⟨ap, eP, g0⟩ := at_scalar 0 RW.out 0 (by omega) (by omega)
              obtain ⟨ap', eP', g1⟩ := at_scalar 0 RW.out 1 (by omega) (by omega)
              injection eP with eP
              subst eP
              injection eP' with eP'
              subst eP'
              obtain ⟨Q0, hQ0⟩ : ∃ Q0, rdOf 0 ow 0 = Q0 := ⟨_, rfl⟩
              obtain ⟨Q1, hQ1⟩ : ∃ Q1, rdOf 0 ow 1 = Q1 := ⟨_, rfl⟩
              have c0 := (WG.out 0 (by omega)).1
              have c1 := (WG.out 0 (by omega)).2
              rw [show ((2 * 0 : Nat) : Int) = 0 from rfl, hQ0] at c0
              rw [show ((2 * 0 + 1 : Nat) : Int) = 1 from rfl, hQ1] at c1
              rw [hQ0] at g0
              rw [hQ1] at g1
              rw [← c0] at W1
              rw [← c1] at W2
              replace g0 : wA.cell? ⟨gw, 0, none⟩ = some (.float .f64 Q0) := g0
              replace g1 : wA.cell? ⟨gw, 1, none⟩ = some (.float .f64 Q1) := g1
              have o1 : FloatKind.f64.format.order Q1 0 = some .eq := by rw [order_cd]; simpa using W2
              have HW1 := Lib.hid W1
              clear W1 W2 c0 c1 hQ0 hQ1
              go_wp2_with (refine wp_floatG _ (by rfl) _ (by first | exact .inl rfl | exact .inr (.inl rfl) | exact .inr (.inr (.inl rfl)) | exact .inr (.inr (.inr rfl))) _ _ _ _ rfl _ _ rfl rfl ?_; intro y n hy; have o0 : FloatKind.f64.format.order Q0 y = some .eq := (by rw [order_cd, hy]; simpa using HW1.out))
              obtain ⟨V3, hV3⟩ : ∃ V3, V3 = wA.drewN n := ⟨_, rfl⟩
              go_loopw [23] (fun iv wr => ∃ x : Int, 2 ≤ x ∧ x ≤ 16 ∧ iv = .int .i64 x ∧ ∃ n, wr = wA.drewN n) (fun iv _ => (16 - intOf iv).toNat)
              case atStart => exact ⟨2, by omega, by omega, rfl, _, rfl⟩
              case round =>
                obtain ⟨x, hx2, hx16, rfl, m, rfl⟩ := hrel
                by_cases hlt : x < 16
                · obtain ⟨ap, eP, g2⟩ := at_scalar 0 RW.out x (by omega) (by omega)
                  injection eP with eP
                  subst eP
                  rw [add_at0] at g2
                  obtain ⟨Y, hY⟩ : ∃ Y, rdOf 0 ow x = Y := ⟨_, rfl⟩
                  rw [hY] at g2
                  have hF : ((cd Y).order (fop .quo (cd x8) (cd 4652007308841189376)) == some .gt) = false ∧ ((cd Y).order (fop .quo (cd x8).opposite (cd 4652007308841189376)) == some .lt) = false := by
                    rw [← hY]
                    obtain ⟨k, hk⟩ : ∃ k : Nat, x = ((2 * k : Nat) : Int) ∨ x = ((2 * k + 1 : Nat) : Int) := ⟨(x / 2).toNat, by omega⟩
                    rcases hk with hk | hk
                    · rw [hk, (WG.out k (by omega)).1]; exact W3.out k (by omega) (by omega)
                    · rw [hk, (WG.out k (by omega)).2]; exact W4.out k (by omega) (by omega)
                  have FH : ∀ y, cd y = fop .quo (cd x8) (cd 4652007308841189376) → (FloatKind.f64.format.order Y y == some .gt) = false := fun y hy => by rw [order_cd, hy]; exact hF.1
                  have FL : ∀ z y, cd z = (cd x8).opposite → cd y = fop .quo (cd z) (cd 4652007308841189376) → (FloatKind.f64.format.order Y y == some .lt) = false := fun z y hz hy => by rw [order_cd, hy, hz]; exact hF.2
                  have FN : ∀ y, cd y = fop .quo (cd (Op.negFloat .f64 x8)) (cd 4652007308841189376) → (FloatKind.f64.format.order Y y == some .lt) = false := fun y hy => FL _ y HN.out hy
                  clear hF hY FL
                  go_wp2_with (refine wp_floatG _ (by rfl) _ (by first | exact .inl rfl | exact .inr (.inl rfl) | exact .inr (.inr (.inl rfl)) | exact .inr (.inr (.inr rfl))) _ _ _ _ rfl _ _ rfl rfl ?_; intro y n hy; have oo := (by first | exact FH y hy | exact FN y hy))
                  go_roundw
                  case measure => simp [intOf]; omega
                  case rel => exact ⟨x + 1, by omega, by omega, rfl, _, rfl⟩
                · go_wp2_with fail
                  go_ret
                  exact ⟨rfl, pw_below_drewN BB2.out _⟩
theorem bytes_of {l : List Int} (h : ∀ y ∈ l, (Lit.int .u8 y).wf = true) (k : Int) (h0 : 0 ≤ k) (h1 : k < l.length) : 0 ≤ rd l k ∧ rd l k ≤ 255 := by
  have e : l[k.toNat]? = some (rd l k) := rdOf_get 0 l k h0 h1
  have hm := h _ (List.mem_of_getElem? e)
  simp [Lit.wf, IntKind.min, IntKind.max, IntKind.signed, IntKind.bits] at hm
  omega
end Go.Proofs.Ytjldnehlcplccaa.Flo
