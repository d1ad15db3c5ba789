/- Transactions: the reference's step. -/
import Derived.Test.YtonhmkllfbagmaaRunF
namespace Go.Proofs.Ytonhmkllfbagmaa.Tx
open Go.RowKit Go.Proofs.YtonhmkllfbagmaaW.PrintWords Go.Proofs.YtonhmkllfbagmaaW.PrintLast Go.Proofs.YtonhmkllfbagmaaW.PrintMore Go.Proofs.Ytonhmkllfbagmaa.PFnExactTxFair
set_option linter.unusedVariables false
set_option linter.unusedSimpArgs false
section
variable (P : Par) (w0 w : World) (D : Dyn) (S : St) (i : Nat) (g : Nat) (hg : D.blk .g = g)
include hg
theorem eventG (op cell num : Int) (h : Run P w0 w D S) (hi : i < P.n) (hn : P.n ≤ 1000) (hl : S.events.length ≤ 100000) :
    Calls Try.prog 61 #[.pointer (some ⟨g, 0, none⟩), .int .i64 (i : Int), .int .i64 op, .int .i64 cell, .int .i64 num] w fun e w' => e = .returned (.tuple #[]) ∧ ∃ V, Run P w0 w' { D with V := V } (event S i op cell num) ∧ Fr P w w' D { D with V := V } S (event S i op cell num) := by subst hg; exact eventC P w0 w D S i op cell num h hi hn hl
theorem giveUpG (h : Run P w0 w D S) (hi : i < P.n) (hn : P.n ≤ 1000) (hnc : P.nc ≤ 1000) (hl : S.events.length ≤ 100000) :
    Calls Try.prog 57 #[.pointer (some ⟨g, 0, none⟩), .int .i64 (i : Int)] w fun e w' => e = .returned (.tuple #[]) ∧ ∃ V, Run P w0 w' { D with V := V } (giveUp S i) ∧ Fr P w w' D { D with V := V } S (giveUp S i) := by subst hg; exact giveUpC P w0 w D S i h hi hn hnc hl
theorem ownG (c : Nat) (h : Run P w0 w D S) (hi : i < P.n) (hc : c < P.nc) (hn : P.n ≤ 1000) (hnc : P.nc ≤ 1000) (hl : S.events.length ≤ 100000) (hman : 1 ≤ P.man ∧ P.man ≤ 4) (ho : S.owners c = -1 ∨ ∃ o : Nat, o < P.n ∧ S.owners c = (o : Int)) :
    Calls Try.prog 59 #[.pointer (some ⟨g, 0, none⟩), .int .i64 (i : Int), .int .i64 (c : Int)] w fun e w' => e = .returned (.bool (own P.man S i c).1) ∧ ∃ V, Run P w0 w' { D with V := V } (own P.man S i c).2 ∧ Fr P w w' D { D with V := V } S (own P.man S i c).2 := by subst hg; exact ownC P w0 w D S i c h hi hc hn hnc hl hman ho
theorem seeG (c : Nat) (h : Run P w0 w D S) (hi : i < P.n) (hb : S.begun i = true) (hc : c < P.nc) (hn : P.n ≤ 1000) (hnc : P.nc ≤ 1000) :
    Calls Try.prog 60 #[.pointer (some ⟨g, 0, none⟩), .int .i64 (i : Int), .int .i64 (c : Int)] w fun e w' => e = .returned (.int .i64 (see S i c).1) ∧ Run P w0 w' D (see S i c).2 ∧ Fr P w w' D D S (see S i c).2 := by subst hg; exact seeC P w0 w D S i c h hi hb hc hn hnc
theorem commitG (h : Run P w0 w D S) (hi : i < P.n) (hb : S.begun i = true) (hn : P.n ≤ 1000) (hnc : P.nc ≤ 1000) (hl : S.events.length ≤ 100000) :
    Calls Try.prog 58 #[.pointer (some ⟨g, 0, none⟩), .int .i64 (i : Int)] w fun e w' => e = .returned (.tuple #[]) ∧ ∃ D', D'.blk = D.blk ∧ Run P w0 w' D' (commit S i) ∧ Fr P w w' D D' S (commit S i) := by subst hg; exact commitC P w0 w D S i h hi hb hn hnc hl
theorem Run.gG (h : Run P w0 w D S) (k : Nat) (hk : k < 13) : w.cell? ⟨g, k, none⟩ = some (gRow P D S k) := by subst hg; exact h.g k hk
end
theorem Out.new {P : Par} {w0 w : World} {D : Dyn} {S : St} (h : Run P w0 w D S) (b : Nat) (hb : w.heap.size ≤ b) : Out P D S b :=
  ⟨fun j hj e => by have := h.lt j hj; omega, fun e => by have := ((Kd.R_bound h.ev).1 b e.symm).2.2.1; omega⟩
theorem own_begun (man : Int) (S : St) (i c : Nat) (ho : S.owners c = -1 ∨ ∃ o : Nat, S.owners c = (o : Int)) (h : (own man S i c).1 = true) : (own man S i c).2.begun i = S.begun i := by
  unfold own at h ⊢
  by_cases h1 : S.owners c = -1 ∨ S.owners c = (i : Int)
  · rw [if_pos h1]
  · rw [if_neg h1] at h ⊢
    by_cases h2 : man = 3 ∧ S.start (S.owners c).toNat ≤ S.start i
    · rw [if_pos h2] at h; cases h
    · rw [if_neg h2] at h ⊢
      by_cases h3 : man = 2 ∨ man = 3 ∨ (man = 4 ∧ S.weight (S.owners c).toNat < S.weight i)
      · rw [if_pos h3]
        refine up_ne _ _ _ _ (fun hh => h1 (.inr ?_))
        rcases ho with ho | ⟨o, ho⟩
        · exact absurd (.inl ho) h1
        · rw [ho] at hh ⊢
          rw [hh, Int.toNat_natCast]
      · rw [if_neg h3] at h; cases h
theorem own_len (man : Int) (S : St) (i c : Nat) : (own man S i c).2.events.length ≤ S.events.length + 1 := by
  unfold own
  split
  · exact Nat.le_succ _
  · split
    · show (S.events ++ [_]).length ≤ _
      rw [List.length_append]; exact Nat.le_refl _
    · split
      · show (S.events ++ [_]).length ≤ _
        rw [List.length_append]; exact Nat.le_refl _
      · show (S.events ++ [_]).length ≤ _
        rw [List.length_append]; exact Nat.le_refl _
theorem see_len (S : St) (i c : Nat) : (see S i c).2.events.length = S.events.length ∧ (see S i c).2.begun = S.begun := by
  unfold see
  split <;> exact ⟨rfl, rfl⟩
def oRow (f0 f1 f2 : Int) : Nat → Value
  | 0 => .int .i64 f0
  | 1 => .int .i64 f1
  | _ => .int .i64 f2
set_option maxHeartbeats 16000000 in
set_option maxRecDepth 100000 in
theorem stepC (P : Par) (w0 w : World) (D : Dyn) (S : St) (T : List (List (List S63))) (i : Nat) (h : Run P w0 w D S) (hP : Prg P w0 T) (hi : i < P.n) (hn : P.n ≤ 1000) (hnc : P.nc ≤ 1000) (hnc0 : 0 < P.nc) (hl : S.events.length ≤ 90000) (hman : 1 ≤ P.man ∧ P.man ≤ 4)
    (hown : ∀ c, c < P.nc → S.owners c = -1 ∨ ∃ o : Nat, o < P.n ∧ S.owners c = (o : Int)) (htx : 0 ≤ S.tx i ∧ S.tx i < ((thr T i).length : Int)) (hat : S.begun i = true → 0 ≤ S.at_ i ∧ S.at_ i ≤ ((opsOf T S i).length : Int))
    (hops : ∀ x, x ∈ opsOf T S i → (x.f0 = 1 ∨ x.f0 = 2 ∨ x.f0 = 3) ∧ 0 ≤ x.f1 ∧ x.f1 < (P.nc : Int)) (hopl : (opsOf T S i).length ≤ 1000) :
    Calls Try.prog 40 #[.pointer (some ⟨D.blk .g, 0, none⟩), .int .i64 (i : Int)] w fun e w' => e = .returned (.tuple #[]) ∧ ∃ D', D'.blk .g = D.blk .g ∧ Run P w0 w' D' (stepS P.man P.nc T S i) ∧ Fr P w w' D D' S (stepS P.man P.nc T S i) := by
  have hin := eq_true (show (i : Int) < (P.n : Int) by omega)
  have g6 := h.g 6 (by decide)
  simp only [gRow] at g6
  have t2 := h.t i 2 hi (by decide)
  simp only [tRow] at t2
  have cB := beginC P w0 w D S i h hi hn hnc hnc0
  have H0 := Lib.hid h
  obtain ⟨g, hg⟩ : ∃ g, D.blk .g = g := ⟨_, rfl⟩
  rw [hg] at g6 cB ⊢
  have HP := Lib.hid hP
  clear h hP
  rcases hbg : S.begun i with _ | _
  · rw [hbg] at t2
    go_enter Try.func40, Try.ntmps40
    go_wp2_with fail
    refine cB.mono ?_
    rintro e wA ⟨rfl, DA, hgA0, hA, kA⟩
    have hgA : DA.blk .g = g := hgA0
    have HA := Lib.hid hA
    have KA := Lib.hid kA
    have HS := Lib.hid (show stepS P.man P.nc T S i = step1 P.man P.nc T (begin_ S i) i by unfold stepS; rw [if_neg (by rw [hbg]; decide)])
    obtain ⟨S1, hS1⟩ : ∃ S1, begin_ S i = S1 := ⟨_, rfl⟩
    have hb1 : S1.begun i = true := by rw [← hS1]; exact up_self _ _ _
    have hl1 : S1.events.length ≤ 90000 := by rw [← hS1]; exact hl
    have hown1 : ∀ c, c < P.nc → S1.owners c = -1 ∨ ∃ o : Nat, o < P.n ∧ S1.owners c = (o : Int) := by rw [← hS1]; exact hown
    have hO1 : opsOf T S1 i = opsOf T S i := by rw [← hS1]; rfl
    have htx1 : S1.tx i = S.tx i := by rw [← hS1]; rfl
    have hat1 : 0 ≤ S1.at_ i ∧ S1.at_ i ≤ ((opsOf T S1 i).length : Int) := by rw [hO1, ← hS1]; show 0 ≤ up S.at_ i 0 i ∧ up S.at_ i 0 i ≤ _; rw [up_self]; omega
    rw [hS1] at HA KA HS
    rw [← htx1] at htx
    rw [← hO1] at hops hopl
    clear hA kA hgA0 g6 t2 H0 hS1 hown hat hl cB htx1 hO1
    go_wp2_with fail
    have hcn := eq_true (show (0 : Int) ≤ (i : Int) by omega)
    go_loopw [4] (fun iv wr => ∃ x : Nat, x ≤ P.nc ∧ iv = .int .i64 (x : Int) ∧ Below wA.heap.size wA wr ∧ ∀ c, c < x → (decide (S1.read i c ≥ 0) && (S1.read i c != S1.vers c)) = false) (fun iv _ => P.nc - (intOf iv).toNat)
    case atStart => exact ⟨0, Nat.zero_le _, rfl, Below.refl _ _, fun c hc => absurd hc (Nat.not_lt_zero c)⟩
    case round =>
      obtain ⟨x, hx, rfl, hB, hno⟩ := hrel
      have HR := Lib.hid (HA.out.step hB)
      have KR := Lib.hid (KA.out.trans (Fr.below DA S1 hB))
      have NO := Lib.hid hno
      have BW := Lib.hid hB
      clear hno hB HA KA
      have g3 := Run.gG P w0 wr DA S1 g hgA HR.out 3 (by decide); have g6 := Run.gG P w0 wr DA S1 g hgA HR.out 6 (by decide); have g4 := Run.gG P w0 wr DA S1 g hgA HR.out 4 (by decide)
      simp only [gRow] at g3 g4 g6
      obtain ⟨c7, c8, c9, t7, t8, t9⟩ := HR.out.t789 i hi hb1
      by_cases hlt : x < P.nc
      · have q0 := decide_eq_true (show (x : Int) < (P.nc : Int) by omega)
        have hxn := eq_true (show (x : Int) < (P.nc : Int) by omega)
        have r1 := HR.out.rd_ i x hi hb1 hlt
        have v1 := HR.out.v x hlt
        have p1 : IntKind.wrap .i64 ((x : Int) + 1) = (x : Int) + 1 := by rw [i64_w]; unfold wrap64; omega
        have nx : (decide (S1.read i x ≥ 0) && (S1.read i x != S1.vers x)) = false → ∀ wr', Below wA.heap.size wA wr' → ∃ y : Nat, y ≤ P.nc ∧ Value.int .i64 ((x : Int) + 1) = .int .i64 (y : Int) ∧ Below wA.heap.size wA wr' ∧ ∀ c, c < y → (decide (S1.read i c ≥ 0) && (S1.read i c != S1.vers c)) = false := fun hz wr' hb => ⟨x + 1, hlt, rfl, hb, fun c hc => by
          by_cases e : c = x
          · rw [e]; exact hz
          · exact NO.out c (by omega)⟩
        clear t8 t9
        rcases k1 : decide (S1.read i x ≥ 0) with _ | _
        · have hz : (decide (S1.read i x ≥ 0) && (S1.read i x != S1.vers x)) = false := by rw [k1]; rfl
          go_wp2_with fail
          go_quiet (fail)
          go_wp2_with fail
          refine ⟨nx hz _ (pw_below_drewN BW.out _), ?_⟩
          simp [intOf]
          omega
        · rcases k2 : (S1.read i x != S1.vers x) with _ | _
          · have hz : (decide (S1.read i x ≥ 0) && (S1.read i x != S1.vers x)) = false := by rw [k1, k2]; rfl
            go_wp2_with fail
            go_quiet (fail)
            go_wp2_with fail
            refine ⟨nx hz _ (pw_below_drewN BW.out _), ?_⟩
            simp [intOf]
            omega
          · have hconf : conf S1 P.nc i = true := by
              unfold conf
              rw [List.any_eq_true]
              exact ⟨x, List.mem_range.2 hlt, by rw [k1, k2]; rfl⟩
            have hres : stepS P.man P.nc T S i = giveUp S1 i := by rw [HS.out]; unfold step1; rw [if_pos hconf]
            go_wp2_with fail
            go_quiet (fail)
            go_wp2_with fail
            refine (giveUpG P w0 _ DA S1 i g hgA (HR.out.step (pw_below_drewN (Below.refl _ _) _)) hi hn hnc (by omega)).mono ?_
            rintro e w3 ⟨rfl, V, h3, k3⟩
            have H3 := Lib.hid h3
            have K3 := Lib.hid ((KR.out.trans (Fr.below DA S1 (pw_below_drewN (Below.refl _ _) _))).trans k3)
            clear h3 k3
            go_wp2_with fail
            (try simp only [Exit.inBlock, Exit.then])
            refine bodyPost_ret (results_none rfl _ _ _) rfl ?_
            rw [hres]
            exact ⟨rfl, { DA with V := V }, hgA, H3.out, K3.out⟩
      · have q0 := decide_eq_false (show ¬ (x : Int) < (P.nc : Int) by omega)
        obtain rfl : x = P.nc := by omega
        have hconf : ¬ conf S1 P.nc i = true := by
          unfold conf
          rw [List.any_eq_true]
          rintro ⟨c, hc, he⟩
          rw [NO.out c (List.mem_range.1 hc)] at he
          cases he
        clear NO
        obtain ⟨ad, cV, A0, c0, g2, l1, hle, hr⟩ := Run.thr HR.out HP.out i hi
        obtain ⟨ad5, A5, c5, rfl, l5, le5, hr5⟩ := at_L5 hr (S1.tx i) (by omega) (by omega)
        rw [hgA] at g2
        have eO : rd_L5 (Tx.thr T i) (S1.tx i) = opsOf T S1 i := rfl
        rw [eO] at l5 le5 hr5
        have t0 := HR.out.t0 i hi
        have t4 := HR.out.t i 4 hi (by decide)
        simp only [tRow] at t0 t4
        obtain ⟨O, hO⟩ : ∃ O, opsOf T S1 i = O := ⟨_, rfl⟩
        rw [hO] at l5 le5 hr5 hat1 hops hopl
        obtain ⟨m, hm⟩ : ∃ m, (Tx.thr T i).length = m := ⟨_, rfl⟩
        rw [hm] at l1 htx
        have z1 := eq_true (show (0 : Int) ≤ S1.tx i by omega)
        have z2 := eq_true (show S1.tx i < (m : Int) by omega)
        obtain ⟨mo, hmo⟩ : ∃ mo, O.length = mo := ⟨_, rfl⟩
        have HMO := Lib.hid hmo
        rw [hmo] at l5 hat1 hopl
        clear hle hr t8 t9 t7 eO hm
        rcases ke : (S1.at_ i == (mo : Int)) with _ | _
        · have hat2 : S1.at_ i < (mo : Int) := by
            have : S1.at_ i ≠ (mo : Int) := by simpa using ke
            omega
          obtain ⟨ad6, e6, m0, m1, m2⟩ := at_T63 hr5 (S1.at_ i) hat1.1 (by omega)
          subst e6
          have hX : rd_T63 O (S1.at_ i) = O.getD (S1.at_ i).toNat z63 := rfl
          rw [hX] at m0 m1 m2
          have hmem : O.getD (S1.at_ i).toNat z63 ∈ O := by
            rw [List.getD_eq_getElem?_getD, List.getElem?_eq_getElem (show (S1.at_ i).toNat < O.length by omega)]
            exact List.getElem_mem _
          have hxo := hops _ hmem
          have hstep : stepS P.man P.nc T S i = (if (O.getD (S1.at_ i).toNat z63).f0 = 1 then act S1 i (O.getD (S1.at_ i).toNat z63) else if (own P.man S1 i (O.getD (S1.at_ i).toNat z63).f1.toNat).1 = true then act (own P.man S1 i (O.getD (S1.at_ i).toNat z63).f1.toNat).2 i (O.getD (S1.at_ i).toNat z63) else (own P.man S1 i (O.getD (S1.at_ i).toNat z63).f1.toNat).2) := by
            rw [HS.out]; unfold step1; rw [if_neg hconf, hO, if_neg (by rw [hmo]; simpa using ke)]
          obtain ⟨X, hXX⟩ : ∃ X, O.getD (S1.at_ i).toNat z63 = X := ⟨_, rfl⟩
          rw [hXX] at m0 m1 m2 hxo hstep
          obtain ⟨f0, f1, f2⟩ := X
          simp only at m0 m1 m2 hxo hstep
          obtain ⟨hf0, hf1, hf1n⟩ := hxo
          obtain ⟨c, rfl⟩ : ∃ c : Nat, f1 = (c : Int) := ⟨f1.toNat, by omega⟩
          rw [Int.toNat_natCast] at hstep
          have hcc : c < P.nc := by omega
          have z3 := eq_true hat1.1
          have z4 := eq_true hat2
          have HST := Lib.hid hstep
          clear hX hXX hmem hr5 le5 hmo hstep hops hO
          go_wp2_with fail
          go_quiet (fail)
          obtain ⟨E, hE⟩ : ∃ E, wr.drewN nq = E := ⟨_, rfl⟩
          rw [hE]
          have HE := Lib.hid (show Run P w0 E DA S1 by rw [← hE]; exact HR.out.step (pw_below_drewN (Below.refl _ _) _))
          have KE := Lib.hid (show Fr P w E D DA S S1 by rw [← hE]; exact KR.out.trans (Fr.below DA S1 (pw_below_drewN (Below.refl _ _) _)))
          have n0 : E.cell? (ad6.add ((S1.at_ i).toNat * 3)) = some (.int .i64 f0) := by rw [← hE]; exact m0
          have n1 : E.cell? ⟨(ad6.add ((S1.at_ i).toNat * 3)).block, (ad6.add ((S1.at_ i).toNat * 3)).off + 1, none⟩ = some (.int .i64 (c : Int)) := by rw [← hE]; exact m1
          have n2 : E.cell? ⟨(ad6.add ((S1.at_ i).toNat * 3)).block, (ad6.add ((S1.at_ i).toNat * 3)).off + 2, none⟩ = some (.int .i64 f2) := by rw [← hE]; exact m2
          have g6 := Run.gG P w0 E DA S1 g hgA HE.out 6 (by decide)
          have t4 := HE.out.t i 4 hi (by decide)
          simp only [gRow, tRow] at g6 t4
          clear hE m0 m1 m2 HR KR l1 l5 t0 g2 g3 g4
          rcases hf0 with rfl | rfl | rfl
          · have HW : Run P w0 (E.alloc (.cells #[.int .i64 1, .int .i64 (c : Int), .int .i64 f2] 63)) DA S1 := HE.out.step (below_alloc (Below.refl _ _) _)
            have KW : Fr P w (E.alloc (.cells #[.int .i64 1, .int .i64 (c : Int), .int .i64 f2] 63)) D DA S S1 := KE.out.trans (Fr.below DA S1 (below_alloc (Below.refl _ _) _))
            have LB0 : Fn (E.alloc (.cells #[.int .i64 1, .int .i64 (c : Int), .int .i64 f2] 63)) E.heap.size 63 3 (oRow 1 (c : Int) f2) := Fn.new E _ 63 3 _ (by simp) (fun k hk => by match k with | 0 | 1 | 2 => rfl | k + 3 => omega)
            have OT : Out P DA S1 E.heap.size := Out.new HE.out _ (Nat.le_refl _)
            have HWh := Lib.hid HW; have KWh := Lib.hid KW; have LBh := Lib.hid LB0; have OTh := Lib.hid OT
            clear HW KW LB0 OT
            go_wp2_with fail
            have hb2 := hb1
            refine (seeG P w0 _ DA S1 i g hgA c HWh.out hi hb2 hcc hn hnc).mono ?_
            rintro e w5 ⟨rfl, h5, k5⟩
            have L5 := k5.fn LBh.out OTh.out
            have O5 := (k5.2 _ (LBh.out).lt OTh.out).1
            have hsl := see_len S1 i c
            obtain ⟨S5, hS5⟩ : ∃ S5, (Tx.see S1 i c).2 = S5 := ⟨_, rfl⟩
            obtain ⟨sv, hsv⟩ : ∃ sv, (Tx.see S1 i c).1 = sv := ⟨_, rfl⟩
            rw [hS5] at h5 k5 hsl O5
            rw [hsv]
            have hb5 : S5.begun i = true := by rw [hsl.2]; exact hb2
            have hl5 : S5.events.length ≤ 95000 := by have := hsl.1; omega
            have H5 := Lib.hid h5
            have K5 := Lib.hid (KWh.out.trans k5)
            have SV := Lib.hid hsv
            have SS := Lib.hid hS5
            have x0 := L5.cell 0 (by decide); have x1 := L5.cell 1 (by decide); have x2 := L5.cell 2 (by decide)
            simp only [oRow] at x0 x1 x2
            clear h5 k5 hsl hsv hS5
            go_wp2_with fail
            refine (eventG P w0 _ DA S5 i g hgA 1 (c : Int) (wrap64 (f2 + sv)) H5.out hi hn (by omega)).mono ?_
            rintro e w9 ⟨rfl, V9, h9, k9⟩
            have y6 := Run.gG P w0 w9 { DA with V := V9 } _ g hgA h9 6 (by decide)
            have y4 : w9.cell? ⟨DA.blk .t, i * 10 + 4, none⟩ = some (.int .i64 (S5.at_ i)) := h9.t i 4 hi (by decide)
            have y5 : w9.cell? ⟨DA.blk .t, i * 10 + 6, none⟩ = some (.int .i64 (S5.weight i)) := h9.t i 6 hi (by decide)
            simp only [gRow] at y6
            have u4 := h9.thaw .t trivial (i * 10 + 4)
            have u6 := h9.thaw .t trivial (i * 10 + 6)
            have hA9 := h9.set_at_ i hi (inc (S5.at_ i))
            have y7 := Run.gG P w0 _ { DA with V := V9 } _ g hgA hA9 6 (by decide)
            have y8 : (w9.setCell ⟨DA.blk .t, i * 10 + 4, none⟩ (.int .i64 (inc (S5.at_ i)))).cell? ⟨DA.blk .t, i * 10 + 6, none⟩ = some (.int .i64 (S5.weight i)) := hA9.t i 6 hi (by decide)
            simp only [gRow] at y7
            have H9 := Lib.hid (show Run P w0 ((w9.setCell ⟨DA.blk .t, i * 10 + 4, none⟩ (.int .i64 (inc (S5.at_ i)))).setCell ⟨DA.blk .t, i * 10 + 6, none⟩ (.int .i64 (inc (S5.weight i)))) { DA with V := V9 } (adv (event (S5) i 1 (c : Int) (wrap64 (f2 + sv))) i) from hA9.set_weight i hi (inc (S5.weight i)))
            have K9 := Lib.hid (((K5.out.trans k9).trans (Fr.set { DA with V := V9 } _ { event (S5) i 1 (c : Int) (wrap64 (f2 + sv)) with at_ := up (S5).at_ i (inc (S5.at_ i)) } .t trivial (fun _ h => h) (i * 10 + 4) (.int .i64 (inc (S5.at_ i))))).trans (Fr.set { DA with V := V9 } _ (adv (event (S5) i 1 (c : Int) (wrap64 (f2 + sv))) i) .t trivial (fun _ h => h) (i * 10 + 6) (.int .i64 (inc (S5.weight i)))))
            clear h9 k9 hA9
            go_wp2_with fail
            go_end0
            have hres := HST.out
            first | rw [if_pos rfl] at hres | rw [if_pos trivial] at hres
            unfold act at hres
            first | rw [if_pos rfl] at hres | rw [if_pos trivial] at hres
            simp only [Int.toNat_natCast] at hres
            rw [SS.out, SV.out] at hres
            rw [hres]
            exact ⟨rfl, { DA with V := V9 }, hgA, H9.out, K9.out⟩
          · skip
            have HW : Run P w0 (E.alloc (.cells #[.int .i64 2, .int .i64 (c : Int), .int .i64 f2] 63)) DA S1 := HE.out.step (below_alloc (Below.refl _ _) _)
            have KW : Fr P w (E.alloc (.cells #[.int .i64 2, .int .i64 (c : Int), .int .i64 f2] 63)) D DA S S1 := KE.out.trans (Fr.below DA S1 (below_alloc (Below.refl _ _) _))
            have LB0 : Fn (E.alloc (.cells #[.int .i64 2, .int .i64 (c : Int), .int .i64 f2] 63)) E.heap.size 63 3 (oRow 2 (c : Int) f2) := Fn.new E _ 63 3 _ (by simp) (fun k hk => by match k with | 0 | 1 | 2 => rfl | k + 3 => omega)
            have OT : Out P DA S1 E.heap.size := Out.new HE.out _ (Nat.le_refl _)
            have HWh := Lib.hid HW; have KWh := Lib.hid KW; have LBh := Lib.hid LB0; have OTh := Lib.hid OT
            clear HW KW LB0 OT
            go_wp2_with fail
            refine (ownG P w0 _ DA S1 i g hgA c HWh.out hi hcc hn hnc (by omega) hman (hown1 c hcc)).mono ?_
            rintro e w3 ⟨rfl, V3, h3, k3⟩
            have L3 := k3.fn LBh.out OTh.out
            have O3 := (k3.2 _ LBh.out.lt OTh.out).1
            have hol := own_len P.man S1 i c
            have hob := own_begun P.man S1 i c ((hown1 c hcc).imp id (fun ⟨o, _, ho⟩ => ⟨o, ho⟩))
            obtain ⟨Q, hQ⟩ : ∃ Q, Tx.own P.man S1 i c = Q := ⟨_, rfl⟩
            have HQ := Lib.hid hQ
            rw [hQ] at h3 k3 hol hob O3 ⊢
            obtain ⟨q1, S2⟩ := Q
            simp only at h3 k3 hol hob O3 ⊢
            have H3 := Lib.hid h3
            have K3 := Lib.hid (KWh.out.trans k3)
            have x0 := L3.cell 0 (by decide); have x1 := L3.cell 1 (by decide); have x2 := L3.cell 2 (by decide)
            simp only [oRow] at x0 x1 x2
            clear h3 k3 hQ
            rcases q1 with _ | _
            · go_wp2_with fail
              (try simp only [Exit.inBlock, Exit.then])
              refine bodyPost_ret (results_none rfl _ _ _) rfl ?_
              have hres := HST.out
              rw [if_neg (by simp), HQ.out, if_neg (by simp)] at hres
              rw [hres]
              exact ⟨rfl, { DA with V := V3 }, hgA, H3.out, K3.out⟩
            · have hbp : S2.begun i = true := (hob rfl).trans hb1
              have y6 := Run.gG P w0 _ { DA with V := V3 } S2 g hgA H3.out 6 (by decide)
              simp only [gRow] at y6
              obtain ⟨d7, d8, d9, v7, v8, v9⟩ := (H3.out).t789 i hi hbp
              have vw := (H3.out).wr_ i c hi hbp hcc
              have fw := (H3.out).thaw (.w i) ⟨hi, hbp⟩ c
              go_wp2_with fail
              go_region
              go_wp2_with fail
              refine name_w fun E7 hE7 => ?_
              have H7 := Lib.hid (show Run P w0 E7 { DA with V := V3 } { S2 with wrote := up S2.wrote i (up (S2.wrote i) c true) } by rw [hE7]; exact ((H3.out).set_wrote i c hi hbp hcc true).step (below_drew1 (Below.refl _ _)))
              have K7 := Lib.hid (show Fr P w E7 D { DA with V := V3 } S { S2 with wrote := up S2.wrote i (up (S2.wrote i) c true) } by rw [hE7]; exact ((K3.out).trans (Fr.set { DA with V := V3 } _ { S2 with wrote := up S2.wrote i (up (S2.wrote i) c true) } (.w i) ⟨hi, hbp⟩ (fun _ h => h) c (.bool true))).trans (Fr.below _ _ (below_drew1 (Below.refl _ _))))
              have L7 : Fn E7 E.heap.size 63 3 (oRow 2 (c : Int) f2) := by rw [hE7]; exact ((L3).far (p := ⟨{ DA with V := V3 }.blk (.w i), c, none⟩) ((O3).1 (.w i) ⟨hi, hbp⟩) _).below (below_drew1 (Below.refl _ _))
              clear hE7 y6 v7 v8 v9 vw fw x0 x1 x2
              have y6 := Run.gG P w0 E7 { DA with V := V3 } _ g hgA H7.out 6 (by decide)
              simp only [gRow] at y6
              obtain ⟨d7, d8, d9, v7, v8, v9⟩ := H7.out.t789 i hi hbp
              have vk := H7.out.kp_ i c hi hbp hcc
              have fk := H7.out.thaw (.k i) ⟨hi, hbp⟩ c
              have x0 := L7.cell 0 (by decide); have x1 := L7.cell 1 (by decide); have x2 := L7.cell 2 (by decide)
              have L8 : Fn (E7.setCell ⟨{ DA with V := V3 }.blk (.k i), c, none⟩ (.int .i64 (f2))) E.heap.size 63 3 (oRow 2 (c : Int) f2) := L7.far (p := ⟨{ DA with V := V3 }.blk (.k i), c, none⟩) ((O3).1 (.k i) ⟨hi, hbp⟩) _
              have p0 := L8.cell 0 (by decide); have p1 := L8.cell 1 (by decide)
              simp only [oRow] at x0 x1 x2 p0 p1
              have H8 := Lib.hid (show Run P w0 (E7.setCell ⟨{ DA with V := V3 }.blk (.k i), c, none⟩ (.int .i64 (f2))).drew { DA with V := V3 } (put_ S2 i c (f2)) from (H7.out.set_kept i c hi hbp hcc (f2)).step (below_drew1 (Below.refl _ _)))
              have K8 := Lib.hid (show Fr P w (E7.setCell ⟨{ DA with V := V3 }.blk (.k i), c, none⟩ (.int .i64 (f2))).drew D { DA with V := V3 } S (put_ S2 i c (f2)) from (K7.out.trans (Fr.set { DA with V := V3 } _ (put_ S2 i c (f2)) (.k i) ⟨hi, hbp⟩ (fun _ h => h) c (.int .i64 (f2)))).trans (Fr.below _ _ (below_drew1 (Below.refl _ _))))
              clear L7 L8 H7 K7
              go_region
              go_wp2_with fail
              refine (eventG P w0 _ { DA with V := V3 } (put_ S2 i c f2) i g hgA 2 (c : Int) (f2) H8.out hi hn (show S2.events.length ≤ 100000 by omega)).mono ?_
              rintro e w9 ⟨rfl, V9, h9, k9⟩
              have y6 := Run.gG P w0 w9 { { DA with V := V3 } with V := V9 } _ g hgA h9 6 (by decide)
              have y4 : w9.cell? ⟨{ DA with V := V3 }.blk .t, i * 10 + 4, none⟩ = some (.int .i64 ((put_ S2 i c f2).at_ i)) := h9.t i 4 hi (by decide)
              have y5 : w9.cell? ⟨{ DA with V := V3 }.blk .t, i * 10 + 6, none⟩ = some (.int .i64 ((put_ S2 i c f2).weight i)) := h9.t i 6 hi (by decide)
              simp only [gRow] at y6
              have u4 := h9.thaw .t trivial (i * 10 + 4)
              have u6 := h9.thaw .t trivial (i * 10 + 6)
              have hA9 := h9.set_at_ i hi (inc ((put_ S2 i c f2).at_ i))
              have y7 := Run.gG P w0 _ { { DA with V := V3 } with V := V9 } _ g hgA hA9 6 (by decide)
              have y8 : (w9.setCell ⟨{ DA with V := V3 }.blk .t, i * 10 + 4, none⟩ (.int .i64 (inc ((put_ S2 i c f2).at_ i)))).cell? ⟨{ DA with V := V3 }.blk .t, i * 10 + 6, none⟩ = some (.int .i64 ((put_ S2 i c f2).weight i)) := hA9.t i 6 hi (by decide)
              simp only [gRow] at y7
              have H9 := Lib.hid (show Run P w0 ((w9.setCell ⟨{ DA with V := V3 }.blk .t, i * 10 + 4, none⟩ (.int .i64 (inc ((put_ S2 i c f2).at_ i)))).setCell ⟨{ DA with V := V3 }.blk .t, i * 10 + 6, none⟩ (.int .i64 (inc ((put_ S2 i c f2).weight i)))) { { DA with V := V3 } with V := V9 } (adv (event ((put_ S2 i c f2)) i 2 (c : Int) (f2)) i) from hA9.set_weight i hi (inc ((put_ S2 i c f2).weight i)))
              have K9 := Lib.hid (((K8.out.trans k9).trans (Fr.set { { DA with V := V3 } with V := V9 } _ { event ((put_ S2 i c f2)) i 2 (c : Int) (f2) with at_ := up ((put_ S2 i c f2)).at_ i (inc ((put_ S2 i c f2).at_ i)) } .t trivial (fun _ h => h) (i * 10 + 4) (.int .i64 (inc ((put_ S2 i c f2).at_ i))))).trans (Fr.set { { DA with V := V3 } with V := V9 } _ (adv (event ((put_ S2 i c f2)) i 2 (c : Int) (f2)) i) .t trivial (fun _ h => h) (i * 10 + 6) (.int .i64 (inc ((put_ S2 i c f2).weight i)))))
              clear h9 k9 hA9
              go_wp2_with fail
              go_end0
              have hres := HST.out
              rw [if_neg (by simp), HQ.out, if_pos rfl] at hres
              unfold act at hres
              rw [if_neg (show ¬ (2 : Int) = 1 by decide), if_pos rfl] at hres
              simp only [Int.toNat_natCast] at hres
              rw [hres]
              exact ⟨rfl, { { DA with V := V3 } with V := V9 }, hgA, H9.out, K9.out⟩
          · have HW : Run P w0 (E.alloc (.cells #[.int .i64 3, .int .i64 (c : Int), .int .i64 f2] 63)) DA S1 := HE.out.step (below_alloc (Below.refl _ _) _)
            have KW : Fr P w (E.alloc (.cells #[.int .i64 3, .int .i64 (c : Int), .int .i64 f2] 63)) D DA S S1 := KE.out.trans (Fr.below DA S1 (below_alloc (Below.refl _ _) _))
            have LB0 : Fn (E.alloc (.cells #[.int .i64 3, .int .i64 (c : Int), .int .i64 f2] 63)) E.heap.size 63 3 (oRow 3 (c : Int) f2) := Fn.new E _ 63 3 _ (by simp) (fun k hk => by match k with | 0 | 1 | 2 => rfl | k + 3 => omega)
            have OT : Out P DA S1 E.heap.size := Out.new HE.out _ (Nat.le_refl _)
            have HWh := Lib.hid HW; have KWh := Lib.hid KW; have LBh := Lib.hid LB0; have OTh := Lib.hid OT
            clear HW KW LB0 OT
            go_wp2_with fail
            refine (ownG P w0 _ DA S1 i g hgA c HWh.out hi hcc hn hnc (by omega) hman (hown1 c hcc)).mono ?_
            rintro e w3 ⟨rfl, V3, h3, k3⟩
            have L3 := k3.fn LBh.out OTh.out
            have O3 := (k3.2 _ LBh.out.lt OTh.out).1
            have hol := own_len P.man S1 i c
            have hob := own_begun P.man S1 i c ((hown1 c hcc).imp id (fun ⟨o, _, ho⟩ => ⟨o, ho⟩))
            obtain ⟨Q, hQ⟩ : ∃ Q, Tx.own P.man S1 i c = Q := ⟨_, rfl⟩
            have HQ := Lib.hid hQ
            rw [hQ] at h3 k3 hol hob O3 ⊢
            obtain ⟨q1, S2⟩ := Q
            simp only at h3 k3 hol hob O3 ⊢
            have H3 := Lib.hid h3
            have K3 := Lib.hid (KWh.out.trans k3)
            have x0 := L3.cell 0 (by decide); have x1 := L3.cell 1 (by decide); have x2 := L3.cell 2 (by decide)
            simp only [oRow] at x0 x1 x2
            clear h3 k3 hQ
            rcases q1 with _ | _
            · go_wp2_with fail
              (try simp only [Exit.inBlock, Exit.then])
              refine bodyPost_ret (results_none rfl _ _ _) rfl ?_
              have hres := HST.out
              rw [if_neg (by simp), HQ.out, if_neg (by simp)] at hres
              rw [hres]
              exact ⟨rfl, { DA with V := V3 }, hgA, H3.out, K3.out⟩
            · have hb2 : S2.begun i = true := (hob rfl).trans hb1
              go_wp2_with fail
              refine (seeG P w0 _ { DA with V := V3 } S2 i g hgA c H3.out hi hb2 hcc hn hnc).mono ?_
              rintro e w5 ⟨rfl, h5, k5⟩
              have L5 := k5.fn L3 O3
              have O5 := (k5.2 _ (L3).lt O3).1
              have hsl := see_len S2 i c
              obtain ⟨S5, hS5⟩ : ∃ S5, (Tx.see S2 i c).2 = S5 := ⟨_, rfl⟩
              obtain ⟨sv, hsv⟩ : ∃ sv, (Tx.see S2 i c).1 = sv := ⟨_, rfl⟩
              rw [hS5] at h5 k5 hsl O5
              rw [hsv]
              have hb5 : S5.begun i = true := by rw [hsl.2]; exact hb2
              have hl5 : S5.events.length ≤ 95000 := by have := hsl.1; omega
              have H5 := Lib.hid h5
              have K5 := Lib.hid (K3.out.trans k5)
              have SV := Lib.hid hsv
              have SS := Lib.hid hS5
              have x0 := L5.cell 0 (by decide); have x1 := L5.cell 1 (by decide); have x2 := L5.cell 2 (by decide)
              simp only [oRow] at x0 x1 x2
              clear h5 k5 hsl hsv hS5
              have hbp := hb5
              have y6 := Run.gG P w0 _ { DA with V := V3 } S5 g hgA H5.out 6 (by decide)
              simp only [gRow] at y6
              obtain ⟨d7, d8, d9, v7, v8, v9⟩ := (H5.out).t789 i hi hbp
              have vw := (H5.out).wr_ i c hi hbp hcc
              have fw := (H5.out).thaw (.w i) ⟨hi, hbp⟩ c
              go_wp2_with fail
              go_region
              go_wp2_with fail
              refine name_w fun E7 hE7 => ?_
              have H7 := Lib.hid (show Run P w0 E7 { DA with V := V3 } { S5 with wrote := up S5.wrote i (up (S5.wrote i) c true) } by rw [hE7]; exact ((H5.out).set_wrote i c hi hbp hcc true).step (below_drew1 (Below.refl _ _)))
              have K7 := Lib.hid (show Fr P w E7 D { DA with V := V3 } S { S5 with wrote := up S5.wrote i (up (S5.wrote i) c true) } by rw [hE7]; exact ((K5.out).trans (Fr.set { DA with V := V3 } _ { S5 with wrote := up S5.wrote i (up (S5.wrote i) c true) } (.w i) ⟨hi, hbp⟩ (fun _ h => h) c (.bool true))).trans (Fr.below _ _ (below_drew1 (Below.refl _ _))))
              have L7 : Fn E7 E.heap.size 63 3 (oRow 3 (c : Int) f2) := by rw [hE7]; exact ((L5).far (p := ⟨{ DA with V := V3 }.blk (.w i), c, none⟩) ((O5).1 (.w i) ⟨hi, hbp⟩) _).below (below_drew1 (Below.refl _ _))
              clear hE7 y6 v7 v8 v9 vw fw x0 x1 x2
              have y6 := Run.gG P w0 E7 { DA with V := V3 } _ g hgA H7.out 6 (by decide)
              simp only [gRow] at y6
              obtain ⟨d7, d8, d9, v7, v8, v9⟩ := H7.out.t789 i hi hbp
              have vk := H7.out.kp_ i c hi hbp hcc
              have fk := H7.out.thaw (.k i) ⟨hi, hbp⟩ c
              have x0 := L7.cell 0 (by decide); have x1 := L7.cell 1 (by decide); have x2 := L7.cell 2 (by decide)
              have L8 : Fn (E7.setCell ⟨{ DA with V := V3 }.blk (.k i), c, none⟩ (.int .i64 (wrap64 (f2 + sv)))) E.heap.size 63 3 (oRow 3 (c : Int) f2) := L7.far (p := ⟨{ DA with V := V3 }.blk (.k i), c, none⟩) ((O5).1 (.k i) ⟨hi, hbp⟩) _
              have p0 := L8.cell 0 (by decide); have p1 := L8.cell 1 (by decide)
              simp only [oRow] at x0 x1 x2 p0 p1
              have H8 := Lib.hid (show Run P w0 (E7.setCell ⟨{ DA with V := V3 }.blk (.k i), c, none⟩ (.int .i64 (wrap64 (f2 + sv)))).drew { DA with V := V3 } (put_ S5 i c (wrap64 (f2 + sv))) from (H7.out.set_kept i c hi hbp hcc (wrap64 (f2 + sv))).step (below_drew1 (Below.refl _ _)))
              have K8 := Lib.hid (show Fr P w (E7.setCell ⟨{ DA with V := V3 }.blk (.k i), c, none⟩ (.int .i64 (wrap64 (f2 + sv)))).drew D { DA with V := V3 } S (put_ S5 i c (wrap64 (f2 + sv))) from (K7.out.trans (Fr.set { DA with V := V3 } _ (put_ S5 i c (wrap64 (f2 + sv))) (.k i) ⟨hi, hbp⟩ (fun _ h => h) c (.int .i64 (wrap64 (f2 + sv))))).trans (Fr.below _ _ (below_drew1 (Below.refl _ _))))
              clear L7 L8 H7 K7
              go_region
              go_wp2_with fail
              refine (eventG P w0 _ { DA with V := V3 } (put_ S5 i c (wrap64 (f2 + sv))) i g hgA 3 (c : Int) (wrap64 (f2 + sv)) H8.out hi hn (show S5.events.length ≤ 100000 by omega)).mono ?_
              rintro e w9 ⟨rfl, V9, h9, k9⟩
              have y6 := Run.gG P w0 w9 { { DA with V := V3 } with V := V9 } _ g hgA h9 6 (by decide)
              have y4 : w9.cell? ⟨{ DA with V := V3 }.blk .t, i * 10 + 4, none⟩ = some (.int .i64 ((put_ S5 i c (wrap64 (f2 + sv))).at_ i)) := h9.t i 4 hi (by decide)
              have y5 : w9.cell? ⟨{ DA with V := V3 }.blk .t, i * 10 + 6, none⟩ = some (.int .i64 ((put_ S5 i c (wrap64 (f2 + sv))).weight i)) := h9.t i 6 hi (by decide)
              simp only [gRow] at y6
              have u4 := h9.thaw .t trivial (i * 10 + 4)
              have u6 := h9.thaw .t trivial (i * 10 + 6)
              have hA9 := h9.set_at_ i hi (inc ((put_ S5 i c (wrap64 (f2 + sv))).at_ i))
              have y7 := Run.gG P w0 _ { { DA with V := V3 } with V := V9 } _ g hgA hA9 6 (by decide)
              have y8 : (w9.setCell ⟨{ DA with V := V3 }.blk .t, i * 10 + 4, none⟩ (.int .i64 (inc ((put_ S5 i c (wrap64 (f2 + sv))).at_ i)))).cell? ⟨{ DA with V := V3 }.blk .t, i * 10 + 6, none⟩ = some (.int .i64 ((put_ S5 i c (wrap64 (f2 + sv))).weight i)) := hA9.t i 6 hi (by decide)
              simp only [gRow] at y7
              have H9 := Lib.hid (show Run P w0 ((w9.setCell ⟨{ DA with V := V3 }.blk .t, i * 10 + 4, none⟩ (.int .i64 (inc ((put_ S5 i c (wrap64 (f2 + sv))).at_ i)))).setCell ⟨{ DA with V := V3 }.blk .t, i * 10 + 6, none⟩ (.int .i64 (inc ((put_ S5 i c (wrap64 (f2 + sv))).weight i)))) { { DA with V := V3 } with V := V9 } (adv (event ((put_ S5 i c (wrap64 (f2 + sv)))) i 3 (c : Int) (wrap64 (f2 + sv))) i) from hA9.set_weight i hi (inc ((put_ S5 i c (wrap64 (f2 + sv))).weight i)))
              have K9 := Lib.hid (((K8.out.trans k9).trans (Fr.set { { DA with V := V3 } with V := V9 } _ { event ((put_ S5 i c (wrap64 (f2 + sv)))) i 3 (c : Int) (wrap64 (f2 + sv)) with at_ := up ((put_ S5 i c (wrap64 (f2 + sv)))).at_ i (inc ((put_ S5 i c (wrap64 (f2 + sv))).at_ i)) } .t trivial (fun _ h => h) (i * 10 + 4) (.int .i64 (inc ((put_ S5 i c (wrap64 (f2 + sv))).at_ i))))).trans (Fr.set { { DA with V := V3 } with V := V9 } _ (adv (event ((put_ S5 i c (wrap64 (f2 + sv)))) i 3 (c : Int) (wrap64 (f2 + sv))) i) .t trivial (fun _ h => h) (i * 10 + 6) (.int .i64 (inc ((put_ S5 i c (wrap64 (f2 + sv))).weight i)))))
              clear h9 k9 hA9
              go_wp2_with fail
              go_end0
              have hres := HST.out
              rw [if_neg (by simp), HQ.out, if_pos rfl] at hres
              unfold act at hres
              rw [if_neg (show ¬ (3 : Int) = 1 by decide), if_neg (show ¬ (3 : Int) = 2 by decide)] at hres
              simp only [Int.toNat_natCast] at hres
              rw [SS.out, SV.out] at hres
              rw [hres]
              exact ⟨rfl, { { DA with V := V3 } with V := V9 }, hgA, H9.out, K9.out⟩
        · have hres : stepS P.man P.nc T S i = commit S1 i := by rw [HS.out]; unfold step1; rw [if_neg hconf, hO, if_pos (by rw [hmo]; simpa using ke)]
          clear hmo hO
          go_wp2_with fail
          go_quiet (fail)
          go_wp2_with fail
          refine (commitG P w0 _ DA S1 i g hgA (HR.out.step (pw_below_drewN (Below.refl _ _) _)) hi hb1 hn hnc (by omega)).mono ?_
          rintro e w3 ⟨rfl, D3, hd3, h3, k3⟩
          have H3 := Lib.hid h3
          have K3 := Lib.hid ((KR.out.trans (Fr.below DA S1 (pw_below_drewN (Below.refl _ _) _))).trans k3)
          clear h3 k3
          go_wp2_with fail
          (try simp only [Exit.inBlock, Exit.then])
          refine bodyPost_ret (results_none rfl _ _ _) rfl ?_
          rw [hres]
          exact ⟨rfl, D3, by rw [hd3]; exact hgA, H3.out, K3.out⟩
  · rw [hbg] at t2
    have HA := H0
    have KA := Lib.hid (Fr.refl P w D S)
    have hgA := hg
    have HS := Lib.hid (show stepS P.man P.nc T S i = step1 P.man P.nc T S i by unfold stepS; rw [if_pos hbg])
    have hb1 := hbg
    have hl1 := hl
    have hown1 := hown
    have hat1 := hat hbg
    clear H0 hown hat hl cB hbg
    go_enter Try.func40, Try.ntmps40
    go_wp2_with fail
    clear g6 t2
    have hcn := eq_true (show (0 : Int) ≤ (i : Int) by omega)
    go_loopw [4] (fun iv wr => ∃ x : Nat, x ≤ P.nc ∧ iv = .int .i64 (x : Int) ∧ Below w.heap.size w wr ∧ ∀ c, c < x → (decide (S.read i c ≥ 0) && (S.read i c != S.vers c)) = false) (fun iv _ => P.nc - (intOf iv).toNat)
    case atStart => exact ⟨0, Nat.zero_le _, rfl, Below.refl _ _, fun c hc => absurd hc (Nat.not_lt_zero c)⟩
    case round =>
      obtain ⟨x, hx, rfl, hB, hno⟩ := hrel
      have HR := Lib.hid (HA.out.step hB)
      have KR := Lib.hid (KA.out.trans (Fr.below D S hB))
      have NO := Lib.hid hno
      have BW := Lib.hid hB
      clear hno hB HA KA
      have g3 := Run.gG P w0 wr D S g hgA HR.out 3 (by decide); have g6 := Run.gG P w0 wr D S g hgA HR.out 6 (by decide); have g4 := Run.gG P w0 wr D S g hgA HR.out 4 (by decide)
      simp only [gRow] at g3 g4 g6
      obtain ⟨c7, c8, c9, t7, t8, t9⟩ := HR.out.t789 i hi hb1
      by_cases hlt : x < P.nc
      · have q0 := decide_eq_true (show (x : Int) < (P.nc : Int) by omega)
        have hxn := eq_true (show (x : Int) < (P.nc : Int) by omega)
        have r1 := HR.out.rd_ i x hi hb1 hlt
        have v1 := HR.out.v x hlt
        have p1 : IntKind.wrap .i64 ((x : Int) + 1) = (x : Int) + 1 := by rw [i64_w]; unfold wrap64; omega
        have nx : (decide (S.read i x ≥ 0) && (S.read i x != S.vers x)) = false → ∀ wr', Below w.heap.size w wr' → ∃ y : Nat, y ≤ P.nc ∧ Value.int .i64 ((x : Int) + 1) = .int .i64 (y : Int) ∧ Below w.heap.size w wr' ∧ ∀ c, c < y → (decide (S.read i c ≥ 0) && (S.read i c != S.vers c)) = false := fun hz wr' hb => ⟨x + 1, hlt, rfl, hb, fun c hc => by
          by_cases e : c = x
          · rw [e]; exact hz
          · exact NO.out c (by omega)⟩
        clear t8 t9
        rcases k1 : decide (S.read i x ≥ 0) with _ | _
        · have hz : (decide (S.read i x ≥ 0) && (S.read i x != S.vers x)) = false := by rw [k1]; rfl
          go_wp2_with fail
          go_quiet (fail)
          go_wp2_with fail
          refine ⟨nx hz _ (pw_below_drewN BW.out _), ?_⟩
          simp [intOf]
          omega
        · rcases k2 : (S.read i x != S.vers x) with _ | _
          · have hz : (decide (S.read i x ≥ 0) && (S.read i x != S.vers x)) = false := by rw [k1, k2]; rfl
            go_wp2_with fail
            go_quiet (fail)
            go_wp2_with fail
            refine ⟨nx hz _ (pw_below_drewN BW.out _), ?_⟩
            simp [intOf]
            omega
          · have hconf : conf S P.nc i = true := by
              unfold conf
              rw [List.any_eq_true]
              exact ⟨x, List.mem_range.2 hlt, by rw [k1, k2]; rfl⟩
            have hres : stepS P.man P.nc T S i = giveUp S i := by rw [HS.out]; unfold step1; rw [if_pos hconf]
            go_wp2_with fail
            go_quiet (fail)
            go_wp2_with fail
            refine (giveUpG P w0 _ D S i g hgA (HR.out.step (pw_below_drewN (Below.refl _ _) _)) hi hn hnc (by omega)).mono ?_
            rintro e w3 ⟨rfl, V, h3, k3⟩
            have H3 := Lib.hid h3
            have K3 := Lib.hid ((KR.out.trans (Fr.below D S (pw_below_drewN (Below.refl _ _) _))).trans k3)
            clear h3 k3
            go_wp2_with fail
            (try simp only [Exit.inBlock, Exit.then])
            refine bodyPost_ret (results_none rfl _ _ _) rfl ?_
            rw [hres]
            exact ⟨rfl, { D with V := V }, hgA, H3.out, K3.out⟩
      · have q0 := decide_eq_false (show ¬ (x : Int) < (P.nc : Int) by omega)
        obtain rfl : x = P.nc := by omega
        have hconf : ¬ conf S P.nc i = true := by
          unfold conf
          rw [List.any_eq_true]
          rintro ⟨c, hc, he⟩
          rw [NO.out c (List.mem_range.1 hc)] at he
          cases he
        clear NO
        obtain ⟨ad, cV, A0, c0, g2, l1, hle, hr⟩ := Run.thr HR.out HP.out i hi
        obtain ⟨ad5, A5, c5, rfl, l5, le5, hr5⟩ := at_L5 hr (S.tx i) (by omega) (by omega)
        rw [hgA] at g2
        have eO : rd_L5 (Tx.thr T i) (S.tx i) = opsOf T S i := rfl
        rw [eO] at l5 le5 hr5
        have t0 := HR.out.t0 i hi
        have t4 := HR.out.t i 4 hi (by decide)
        simp only [tRow] at t0 t4
        obtain ⟨O, hO⟩ : ∃ O, opsOf T S i = O := ⟨_, rfl⟩
        rw [hO] at l5 le5 hr5 hat1 hops hopl
        obtain ⟨m, hm⟩ : ∃ m, (Tx.thr T i).length = m := ⟨_, rfl⟩
        rw [hm] at l1 htx
        have z1 := eq_true (show (0 : Int) ≤ S.tx i by omega)
        have z2 := eq_true (show S.tx i < (m : Int) by omega)
        obtain ⟨mo, hmo⟩ : ∃ mo, O.length = mo := ⟨_, rfl⟩
        have HMO := Lib.hid hmo
        rw [hmo] at l5 hat1 hopl
        clear hle hr t8 t9 t7 eO hm
        rcases ke : (S.at_ i == (mo : Int)) with _ | _
        · have hat2 : S.at_ i < (mo : Int) := by
            have : S.at_ i ≠ (mo : Int) := by simpa using ke
            omega
          obtain ⟨ad6, e6, m0, m1, m2⟩ := at_T63 hr5 (S.at_ i) hat1.1 (by omega)
          subst e6
          have hX : rd_T63 O (S.at_ i) = O.getD (S.at_ i).toNat z63 := rfl
          rw [hX] at m0 m1 m2
          have hmem : O.getD (S.at_ i).toNat z63 ∈ O := by
            rw [List.getD_eq_getElem?_getD, List.getElem?_eq_getElem (show (S.at_ i).toNat < O.length by omega)]
            exact List.getElem_mem _
          have hxo := hops _ hmem
          have hstep : stepS P.man P.nc T S i = (if (O.getD (S.at_ i).toNat z63).f0 = 1 then act S i (O.getD (S.at_ i).toNat z63) else if (own P.man S i (O.getD (S.at_ i).toNat z63).f1.toNat).1 = true then act (own P.man S i (O.getD (S.at_ i).toNat z63).f1.toNat).2 i (O.getD (S.at_ i).toNat z63) else (own P.man S i (O.getD (S.at_ i).toNat z63).f1.toNat).2) := by
            rw [HS.out]; unfold step1; rw [if_neg hconf, hO, if_neg (by rw [hmo]; simpa using ke)]
          obtain ⟨X, hXX⟩ : ∃ X, O.getD (S.at_ i).toNat z63 = X := ⟨_, rfl⟩
          rw [hXX] at m0 m1 m2 hxo hstep
          obtain ⟨f0, f1, f2⟩ := X
          simp only at m0 m1 m2 hxo hstep
          obtain ⟨hf0, hf1, hf1n⟩ := hxo
          obtain ⟨c, rfl⟩ : ∃ c : Nat, f1 = (c : Int) := ⟨f1.toNat, by omega⟩
          rw [Int.toNat_natCast] at hstep
          have hcc : c < P.nc := by omega
          have z3 := eq_true hat1.1
          have z4 := eq_true hat2
          have HST := Lib.hid hstep
          clear hX hXX hmem hr5 le5 hmo hstep hops hO
          go_wp2_with fail
          go_quiet (fail)
          obtain ⟨E, hE⟩ : ∃ E, wr.drewN nq = E := ⟨_, rfl⟩
          rw [hE]
          have HE := Lib.hid (show Run P w0 E D S by rw [← hE]; exact HR.out.step (pw_below_drewN (Below.refl _ _) _))
          have KE := Lib.hid (show Fr P w E D D S S by rw [← hE]; exact KR.out.trans (Fr.below D S (pw_below_drewN (Below.refl _ _) _)))
          have n0 : E.cell? (ad6.add ((S.at_ i).toNat * 3)) = some (.int .i64 f0) := by rw [← hE]; exact m0
          have n1 : E.cell? ⟨(ad6.add ((S.at_ i).toNat * 3)).block, (ad6.add ((S.at_ i).toNat * 3)).off + 1, none⟩ = some (.int .i64 (c : Int)) := by rw [← hE]; exact m1
          have n2 : E.cell? ⟨(ad6.add ((S.at_ i).toNat * 3)).block, (ad6.add ((S.at_ i).toNat * 3)).off + 2, none⟩ = some (.int .i64 f2) := by rw [← hE]; exact m2
          have g6 := Run.gG P w0 E D S g hgA HE.out 6 (by decide)
          have t4 := HE.out.t i 4 hi (by decide)
          simp only [gRow, tRow] at g6 t4
          clear hE m0 m1 m2 HR KR l1 l5 t0 g2 g3 g4
          rcases hf0 with rfl | rfl | rfl
          · have HW : Run P w0 (E.alloc (.cells #[.int .i64 1, .int .i64 (c : Int), .int .i64 f2] 63)) D S := HE.out.step (below_alloc (Below.refl _ _) _)
            have KW : Fr P w (E.alloc (.cells #[.int .i64 1, .int .i64 (c : Int), .int .i64 f2] 63)) D D S S := KE.out.trans (Fr.below D S (below_alloc (Below.refl _ _) _))
            have LB0 : Fn (E.alloc (.cells #[.int .i64 1, .int .i64 (c : Int), .int .i64 f2] 63)) E.heap.size 63 3 (oRow 1 (c : Int) f2) := Fn.new E _ 63 3 _ (by simp) (fun k hk => by match k with | 0 | 1 | 2 => rfl | k + 3 => omega)
            have OT : Out P D S E.heap.size := Out.new HE.out _ (Nat.le_refl _)
            have HWh := Lib.hid HW; have KWh := Lib.hid KW; have LBh := Lib.hid LB0; have OTh := Lib.hid OT
            clear HW KW LB0 OT
            go_wp2_with fail
            have hb2 := hb1
            refine (seeG P w0 _ D S i g hgA c HWh.out hi hb2 hcc hn hnc).mono ?_
            rintro e w5 ⟨rfl, h5, k5⟩
            have L5 := k5.fn LBh.out OTh.out
            have O5 := (k5.2 _ (LBh.out).lt OTh.out).1
            have hsl := see_len S i c
            obtain ⟨S5, hS5⟩ : ∃ S5, (Tx.see S i c).2 = S5 := ⟨_, rfl⟩
            obtain ⟨sv, hsv⟩ : ∃ sv, (Tx.see S i c).1 = sv := ⟨_, rfl⟩
            rw [hS5] at h5 k5 hsl O5
            rw [hsv]
            have hb5 : S5.begun i = true := by rw [hsl.2]; exact hb2
            have hl5 : S5.events.length ≤ 95000 := by have := hsl.1; omega
            have H5 := Lib.hid h5
            have K5 := Lib.hid (KWh.out.trans k5)
            have SV := Lib.hid hsv
            have SS := Lib.hid hS5
            have x0 := L5.cell 0 (by decide); have x1 := L5.cell 1 (by decide); have x2 := L5.cell 2 (by decide)
            simp only [oRow] at x0 x1 x2
            clear h5 k5 hsl hsv hS5
            go_wp2_with fail
            refine (eventG P w0 _ D S5 i g hgA 1 (c : Int) (wrap64 (f2 + sv)) H5.out hi hn (by omega)).mono ?_
            rintro e w9 ⟨rfl, V9, h9, k9⟩
            have y6 := Run.gG P w0 w9 { D with V := V9 } _ g hgA h9 6 (by decide)
            have y4 : w9.cell? ⟨D.blk .t, i * 10 + 4, none⟩ = some (.int .i64 (S5.at_ i)) := h9.t i 4 hi (by decide)
            have y5 : w9.cell? ⟨D.blk .t, i * 10 + 6, none⟩ = some (.int .i64 (S5.weight i)) := h9.t i 6 hi (by decide)
            simp only [gRow] at y6
            have u4 := h9.thaw .t trivial (i * 10 + 4)
            have u6 := h9.thaw .t trivial (i * 10 + 6)
            have hA9 := h9.set_at_ i hi (inc (S5.at_ i))
            have y7 := Run.gG P w0 _ { D with V := V9 } _ g hgA hA9 6 (by decide)
            have y8 : (w9.setCell ⟨D.blk .t, i * 10 + 4, none⟩ (.int .i64 (inc (S5.at_ i)))).cell? ⟨D.blk .t, i * 10 + 6, none⟩ = some (.int .i64 (S5.weight i)) := hA9.t i 6 hi (by decide)
            simp only [gRow] at y7
            have H9 := Lib.hid (show Run P w0 ((w9.setCell ⟨D.blk .t, i * 10 + 4, none⟩ (.int .i64 (inc (S5.at_ i)))).setCell ⟨D.blk .t, i * 10 + 6, none⟩ (.int .i64 (inc (S5.weight i)))) { D with V := V9 } (adv (event (S5) i 1 (c : Int) (wrap64 (f2 + sv))) i) from hA9.set_weight i hi (inc (S5.weight i)))
            have K9 := Lib.hid (((K5.out.trans k9).trans (Fr.set { D with V := V9 } _ { event (S5) i 1 (c : Int) (wrap64 (f2 + sv)) with at_ := up (S5).at_ i (inc (S5.at_ i)) } .t trivial (fun _ h => h) (i * 10 + 4) (.int .i64 (inc (S5.at_ i))))).trans (Fr.set { D with V := V9 } _ (adv (event (S5) i 1 (c : Int) (wrap64 (f2 + sv))) i) .t trivial (fun _ h => h) (i * 10 + 6) (.int .i64 (inc (S5.weight i)))))
            clear h9 k9 hA9
            go_wp2_with fail
            go_end0
            have hres := HST.out
            first | rw [if_pos rfl] at hres | rw [if_pos trivial] at hres
            unfold act at hres
            first | rw [if_pos rfl] at hres | rw [if_pos trivial] at hres
            simp only [Int.toNat_natCast] at hres
            rw [SS.out, SV.out] at hres
            rw [hres]
            exact ⟨rfl, { D with V := V9 }, hgA, H9.out, K9.out⟩
          · skip
            have HW : Run P w0 (E.alloc (.cells #[.int .i64 2, .int .i64 (c : Int), .int .i64 f2] 63)) D S := HE.out.step (below_alloc (Below.refl _ _) _)
            have KW : Fr P w (E.alloc (.cells #[.int .i64 2, .int .i64 (c : Int), .int .i64 f2] 63)) D D S S := KE.out.trans (Fr.below D S (below_alloc (Below.refl _ _) _))
            have LB0 : Fn (E.alloc (.cells #[.int .i64 2, .int .i64 (c : Int), .int .i64 f2] 63)) E.heap.size 63 3 (oRow 2 (c : Int) f2) := Fn.new E _ 63 3 _ (by simp) (fun k hk => by match k with | 0 | 1 | 2 => rfl | k + 3 => omega)
            have OT : Out P D S E.heap.size := Out.new HE.out _ (Nat.le_refl _)
            have HWh := Lib.hid HW; have KWh := Lib.hid KW; have LBh := Lib.hid LB0; have OTh := Lib.hid OT
            clear HW KW LB0 OT
            go_wp2_with fail
            refine (ownG P w0 _ D S i g hgA c HWh.out hi hcc hn hnc (by omega) hman (hown1 c hcc)).mono ?_
            rintro e w3 ⟨rfl, V3, h3, k3⟩
            have L3 := k3.fn LBh.out OTh.out
            have O3 := (k3.2 _ LBh.out.lt OTh.out).1
            have hol := own_len P.man S i c
            have hob := own_begun P.man S i c ((hown1 c hcc).imp id (fun ⟨o, _, ho⟩ => ⟨o, ho⟩))
            obtain ⟨Q, hQ⟩ : ∃ Q, Tx.own P.man S i c = Q := ⟨_, rfl⟩
            have HQ := Lib.hid hQ
            rw [hQ] at h3 k3 hol hob O3 ⊢
            obtain ⟨q1, S2⟩ := Q
            simp only at h3 k3 hol hob O3 ⊢
            have H3 := Lib.hid h3
            have K3 := Lib.hid (KWh.out.trans k3)
            have x0 := L3.cell 0 (by decide); have x1 := L3.cell 1 (by decide); have x2 := L3.cell 2 (by decide)
            simp only [oRow] at x0 x1 x2
            clear h3 k3 hQ
            rcases q1 with _ | _
            · go_wp2_with fail
              (try simp only [Exit.inBlock, Exit.then])
              refine bodyPost_ret (results_none rfl _ _ _) rfl ?_
              have hres := HST.out
              rw [if_neg (by simp), HQ.out, if_neg (by simp)] at hres
              rw [hres]
              exact ⟨rfl, { D with V := V3 }, hgA, H3.out, K3.out⟩
            · have hbp : S2.begun i = true := (hob rfl).trans hb1
              have y6 := Run.gG P w0 _ { D with V := V3 } S2 g hgA H3.out 6 (by decide)
              simp only [gRow] at y6
              obtain ⟨d7, d8, d9, v7, v8, v9⟩ := (H3.out).t789 i hi hbp
              have vw := (H3.out).wr_ i c hi hbp hcc
              have fw := (H3.out).thaw (.w i) ⟨hi, hbp⟩ c
              go_wp2_with fail
              go_region
              go_wp2_with fail
              refine name_w fun E7 hE7 => ?_
              have H7 := Lib.hid (show Run P w0 E7 { D with V := V3 } { S2 with wrote := up S2.wrote i (up (S2.wrote i) c true) } by rw [hE7]; exact ((H3.out).set_wrote i c hi hbp hcc true).step (below_drew1 (Below.refl _ _)))
              have K7 := Lib.hid (show Fr P w E7 D { D with V := V3 } S { S2 with wrote := up S2.wrote i (up (S2.wrote i) c true) } by rw [hE7]; exact ((K3.out).trans (Fr.set { D with V := V3 } _ { S2 with wrote := up S2.wrote i (up (S2.wrote i) c true) } (.w i) ⟨hi, hbp⟩ (fun _ h => h) c (.bool true))).trans (Fr.below _ _ (below_drew1 (Below.refl _ _))))
              have L7 : Fn E7 E.heap.size 63 3 (oRow 2 (c : Int) f2) := by rw [hE7]; exact ((L3).far (p := ⟨{ D with V := V3 }.blk (.w i), c, none⟩) ((O3).1 (.w i) ⟨hi, hbp⟩) _).below (below_drew1 (Below.refl _ _))
              clear hE7 y6 v7 v8 v9 vw fw x0 x1 x2
              have y6 := Run.gG P w0 E7 { D with V := V3 } _ g hgA H7.out 6 (by decide)
              simp only [gRow] at y6
              obtain ⟨d7, d8, d9, v7, v8, v9⟩ := H7.out.t789 i hi hbp
              have vk := H7.out.kp_ i c hi hbp hcc
              have fk := H7.out.thaw (.k i) ⟨hi, hbp⟩ c
              have x0 := L7.cell 0 (by decide); have x1 := L7.cell 1 (by decide); have x2 := L7.cell 2 (by decide)
              have L8 : Fn (E7.setCell ⟨{ D with V := V3 }.blk (.k i), c, none⟩ (.int .i64 (f2))) E.heap.size 63 3 (oRow 2 (c : Int) f2) := L7.far (p := ⟨{ D with V := V3 }.blk (.k i), c, none⟩) ((O3).1 (.k i) ⟨hi, hbp⟩) _
              have p0 := L8.cell 0 (by decide); have p1 := L8.cell 1 (by decide)
              simp only [oRow] at x0 x1 x2 p0 p1
              have H8 := Lib.hid (show Run P w0 (E7.setCell ⟨{ D with V := V3 }.blk (.k i), c, none⟩ (.int .i64 (f2))).drew { D with V := V3 } (put_ S2 i c (f2)) from (H7.out.set_kept i c hi hbp hcc (f2)).step (below_drew1 (Below.refl _ _)))
              have K8 := Lib.hid (show Fr P w (E7.setCell ⟨{ D with V := V3 }.blk (.k i), c, none⟩ (.int .i64 (f2))).drew D { D with V := V3 } S (put_ S2 i c (f2)) from (K7.out.trans (Fr.set { D with V := V3 } _ (put_ S2 i c (f2)) (.k i) ⟨hi, hbp⟩ (fun _ h => h) c (.int .i64 (f2)))).trans (Fr.below _ _ (below_drew1 (Below.refl _ _))))
              clear L7 L8 H7 K7
              go_region
              go_wp2_with fail
              refine (eventG P w0 _ { D with V := V3 } (put_ S2 i c f2) i g hgA 2 (c : Int) (f2) H8.out hi hn (show S2.events.length ≤ 100000 by omega)).mono ?_
              rintro e w9 ⟨rfl, V9, h9, k9⟩
              have y6 := Run.gG P w0 w9 { { D with V := V3 } with V := V9 } _ g hgA h9 6 (by decide)
              have y4 : w9.cell? ⟨{ D with V := V3 }.blk .t, i * 10 + 4, none⟩ = some (.int .i64 ((put_ S2 i c f2).at_ i)) := h9.t i 4 hi (by decide)
              have y5 : w9.cell? ⟨{ D with V := V3 }.blk .t, i * 10 + 6, none⟩ = some (.int .i64 ((put_ S2 i c f2).weight i)) := h9.t i 6 hi (by decide)
              simp only [gRow] at y6
              have u4 := h9.thaw .t trivial (i * 10 + 4)
              have u6 := h9.thaw .t trivial (i * 10 + 6)
              have hA9 := h9.set_at_ i hi (inc ((put_ S2 i c f2).at_ i))
              have y7 := Run.gG P w0 _ { { D with V := V3 } with V := V9 } _ g hgA hA9 6 (by decide)
              have y8 : (w9.setCell ⟨{ D with V := V3 }.blk .t, i * 10 + 4, none⟩ (.int .i64 (inc ((put_ S2 i c f2).at_ i)))).cell? ⟨{ D with V := V3 }.blk .t, i * 10 + 6, none⟩ = some (.int .i64 ((put_ S2 i c f2).weight i)) := hA9.t i 6 hi (by decide)
              simp only [gRow] at y7
              have H9 := Lib.hid (show Run P w0 ((w9.setCell ⟨{ D with V := V3 }.blk .t, i * 10 + 4, none⟩ (.int .i64 (inc ((put_ S2 i c f2).at_ i)))).setCell ⟨{ D with V := V3 }.blk .t, i * 10 + 6, none⟩ (.int .i64 (inc ((put_ S2 i c f2).weight i)))) { { D with V := V3 } with V := V9 } (adv (event ((put_ S2 i c f2)) i 2 (c : Int) (f2)) i) from hA9.set_weight i hi (inc ((put_ S2 i c f2).weight i)))
              have K9 := Lib.hid (((K8.out.trans k9).trans (Fr.set { { D with V := V3 } with V := V9 } _ { event ((put_ S2 i c f2)) i 2 (c : Int) (f2) with at_ := up ((put_ S2 i c f2)).at_ i (inc ((put_ S2 i c f2).at_ i)) } .t trivial (fun _ h => h) (i * 10 + 4) (.int .i64 (inc ((put_ S2 i c f2).at_ i))))).trans (Fr.set { { D with V := V3 } with V := V9 } _ (adv (event ((put_ S2 i c f2)) i 2 (c : Int) (f2)) i) .t trivial (fun _ h => h) (i * 10 + 6) (.int .i64 (inc ((put_ S2 i c f2).weight i)))))
              clear h9 k9 hA9
              go_wp2_with fail
              go_end0
              have hres := HST.out
              rw [if_neg (by simp), HQ.out, if_pos rfl] at hres
              unfold act at hres
              rw [if_neg (show ¬ (2 : Int) = 1 by decide), if_pos rfl] at hres
              simp only [Int.toNat_natCast] at hres
              rw [hres]
              exact ⟨rfl, { { D with V := V3 } with V := V9 }, hgA, H9.out, K9.out⟩
          · have HW : Run P w0 (E.alloc (.cells #[.int .i64 3, .int .i64 (c : Int), .int .i64 f2] 63)) D S := HE.out.step (below_alloc (Below.refl _ _) _)
            have KW : Fr P w (E.alloc (.cells #[.int .i64 3, .int .i64 (c : Int), .int .i64 f2] 63)) D D S S := KE.out.trans (Fr.below D S (below_alloc (Below.refl _ _) _))
            have LB0 : Fn (E.alloc (.cells #[.int .i64 3, .int .i64 (c : Int), .int .i64 f2] 63)) E.heap.size 63 3 (oRow 3 (c : Int) f2) := Fn.new E _ 63 3 _ (by simp) (fun k hk => by match k with | 0 | 1 | 2 => rfl | k + 3 => omega)
            have OT : Out P D S E.heap.size := Out.new HE.out _ (Nat.le_refl _)
            have HWh := Lib.hid HW; have KWh := Lib.hid KW; have LBh := Lib.hid LB0; have OTh := Lib.hid OT
            clear HW KW LB0 OT
            go_wp2_with fail
            refine (ownG P w0 _ D S i g hgA c HWh.out hi hcc hn hnc (by omega) hman (hown1 c hcc)).mono ?_
            rintro e w3 ⟨rfl, V3, h3, k3⟩
            have L3 := k3.fn LBh.out OTh.out
            have O3 := (k3.2 _ LBh.out.lt OTh.out).1
            have hol := own_len P.man S i c
            have hob := own_begun P.man S i c ((hown1 c hcc).imp id (fun ⟨o, _, ho⟩ => ⟨o, ho⟩))
            obtain ⟨Q, hQ⟩ : ∃ Q, Tx.own P.man S i c = Q := ⟨_, rfl⟩
            have HQ := Lib.hid hQ
            rw [hQ] at h3 k3 hol hob O3 ⊢
            obtain ⟨q1, S2⟩ := Q
            simp only at h3 k3 hol hob O3 ⊢
            have H3 := Lib.hid h3
            have K3 := Lib.hid (KWh.out.trans k3)
            have x0 := L3.cell 0 (by decide); have x1 := L3.cell 1 (by decide); have x2 := L3.cell 2 (by decide)
            simp only [oRow] at x0 x1 x2
            clear h3 k3 hQ
            rcases q1 with _ | _
            · go_wp2_with fail
              (try simp only [Exit.inBlock, Exit.then])
              refine bodyPost_ret (results_none rfl _ _ _) rfl ?_
              have hres := HST.out
              rw [if_neg (by simp), HQ.out, if_neg (by simp)] at hres
              rw [hres]
              exact ⟨rfl, { D with V := V3 }, hgA, H3.out, K3.out⟩
            · have hb2 : S2.begun i = true := (hob rfl).trans hb1
              go_wp2_with fail
              refine (seeG P w0 _ { D with V := V3 } S2 i g hgA c H3.out hi hb2 hcc hn hnc).mono ?_
              rintro e w5 ⟨rfl, h5, k5⟩
              have L5 := k5.fn L3 O3
              have O5 := (k5.2 _ (L3).lt O3).1
              have hsl := see_len S2 i c
              obtain ⟨S5, hS5⟩ : ∃ S5, (Tx.see S2 i c).2 = S5 := ⟨_, rfl⟩
              obtain ⟨sv, hsv⟩ : ∃ sv, (Tx.see S2 i c).1 = sv := ⟨_, rfl⟩
              rw [hS5] at h5 k5 hsl O5
              rw [hsv]
              have hb5 : S5.begun i = true := by rw [hsl.2]; exact hb2
              have hl5 : S5.events.length ≤ 95000 := by have := hsl.1; omega
              have H5 := Lib.hid h5
              have K5 := Lib.hid (K3.out.trans k5)
              have SV := Lib.hid hsv
              have SS := Lib.hid hS5
              have x0 := L5.cell 0 (by decide); have x1 := L5.cell 1 (by decide); have x2 := L5.cell 2 (by decide)
              simp only [oRow] at x0 x1 x2
              clear h5 k5 hsl hsv hS5
              have hbp := hb5
              have y6 := Run.gG P w0 _ { D with V := V3 } S5 g hgA H5.out 6 (by decide)
              simp only [gRow] at y6
              obtain ⟨d7, d8, d9, v7, v8, v9⟩ := (H5.out).t789 i hi hbp
              have vw := (H5.out).wr_ i c hi hbp hcc
              have fw := (H5.out).thaw (.w i) ⟨hi, hbp⟩ c
              go_wp2_with fail
              go_region
              go_wp2_with fail
              refine name_w fun E7 hE7 => ?_
              have H7 := Lib.hid (show Run P w0 E7 { D with V := V3 } { S5 with wrote := up S5.wrote i (up (S5.wrote i) c true) } by rw [hE7]; exact ((H5.out).set_wrote i c hi hbp hcc true).step (below_drew1 (Below.refl _ _)))
              have K7 := Lib.hid (show Fr P w E7 D { D with V := V3 } S { S5 with wrote := up S5.wrote i (up (S5.wrote i) c true) } by rw [hE7]; exact ((K5.out).trans (Fr.set { D with V := V3 } _ { S5 with wrote := up S5.wrote i (up (S5.wrote i) c true) } (.w i) ⟨hi, hbp⟩ (fun _ h => h) c (.bool true))).trans (Fr.below _ _ (below_drew1 (Below.refl _ _))))
              have L7 : Fn E7 E.heap.size 63 3 (oRow 3 (c : Int) f2) := by rw [hE7]; exact ((L5).far (p := ⟨{ D with V := V3 }.blk (.w i), c, none⟩) ((O5).1 (.w i) ⟨hi, hbp⟩) _).below (below_drew1 (Below.refl _ _))
              clear hE7 y6 v7 v8 v9 vw fw x0 x1 x2
              have y6 := Run.gG P w0 E7 { D with V := V3 } _ g hgA H7.out 6 (by decide)
              simp only [gRow] at y6
              obtain ⟨d7, d8, d9, v7, v8, v9⟩ := H7.out.t789 i hi hbp
              have vk := H7.out.kp_ i c hi hbp hcc
              have fk := H7.out.thaw (.k i) ⟨hi, hbp⟩ c
              have x0 := L7.cell 0 (by decide); have x1 := L7.cell 1 (by decide); have x2 := L7.cell 2 (by decide)
              have L8 : Fn (E7.setCell ⟨{ D with V := V3 }.blk (.k i), c, none⟩ (.int .i64 (wrap64 (f2 + sv)))) E.heap.size 63 3 (oRow 3 (c : Int) f2) := L7.far (p := ⟨{ D with V := V3 }.blk (.k i), c, none⟩) ((O5).1 (.k i) ⟨hi, hbp⟩) _
              have p0 := L8.cell 0 (by decide); have p1 := L8.cell 1 (by decide)
              simp only [oRow] at x0 x1 x2 p0 p1
              have H8 := Lib.hid (show Run P w0 (E7.setCell ⟨{ D with V := V3 }.blk (.k i), c, none⟩ (.int .i64 (wrap64 (f2 + sv)))).drew { D with V := V3 } (put_ S5 i c (wrap64 (f2 + sv))) from (H7.out.set_kept i c hi hbp hcc (wrap64 (f2 + sv))).step (below_drew1 (Below.refl _ _)))
              have K8 := Lib.hid (show Fr P w (E7.setCell ⟨{ D with V := V3 }.blk (.k i), c, none⟩ (.int .i64 (wrap64 (f2 + sv)))).drew D { D with V := V3 } S (put_ S5 i c (wrap64 (f2 + sv))) from (K7.out.trans (Fr.set { D with V := V3 } _ (put_ S5 i c (wrap64 (f2 + sv))) (.k i) ⟨hi, hbp⟩ (fun _ h => h) c (.int .i64 (wrap64 (f2 + sv))))).trans (Fr.below _ _ (below_drew1 (Below.refl _ _))))
              clear L7 L8 H7 K7
              go_region
              go_wp2_with fail
              refine (eventG P w0 _ { D with V := V3 } (put_ S5 i c (wrap64 (f2 + sv))) i g hgA 3 (c : Int) (wrap64 (f2 + sv)) H8.out hi hn (show S5.events.length ≤ 100000 by omega)).mono ?_
              rintro e w9 ⟨rfl, V9, h9, k9⟩
              have y6 := Run.gG P w0 w9 { { D with V := V3 } with V := V9 } _ g hgA h9 6 (by decide)
              have y4 : w9.cell? ⟨{ D with V := V3 }.blk .t, i * 10 + 4, none⟩ = some (.int .i64 ((put_ S5 i c (wrap64 (f2 + sv))).at_ i)) := h9.t i 4 hi (by decide)
              have y5 : w9.cell? ⟨{ D with V := V3 }.blk .t, i * 10 + 6, none⟩ = some (.int .i64 ((put_ S5 i c (wrap64 (f2 + sv))).weight i)) := h9.t i 6 hi (by decide)
              simp only [gRow] at y6
              have u4 := h9.thaw .t trivial (i * 10 + 4)
              have u6 := h9.thaw .t trivial (i * 10 + 6)
              have hA9 := h9.set_at_ i hi (inc ((put_ S5 i c (wrap64 (f2 + sv))).at_ i))
              have y7 := Run.gG P w0 _ { { D with V := V3 } with V := V9 } _ g hgA hA9 6 (by decide)
              have y8 : (w9.setCell ⟨{ D with V := V3 }.blk .t, i * 10 + 4, none⟩ (.int .i64 (inc ((put_ S5 i c (wrap64 (f2 + sv))).at_ i)))).cell? ⟨{ D with V := V3 }.blk .t, i * 10 + 6, none⟩ = some (.int .i64 ((put_ S5 i c (wrap64 (f2 + sv))).weight i)) := hA9.t i 6 hi (by decide)
              simp only [gRow] at y7
              have H9 := Lib.hid (show Run P w0 ((w9.setCell ⟨{ D with V := V3 }.blk .t, i * 10 + 4, none⟩ (.int .i64 (inc ((put_ S5 i c (wrap64 (f2 + sv))).at_ i)))).setCell ⟨{ D with V := V3 }.blk .t, i * 10 + 6, none⟩ (.int .i64 (inc ((put_ S5 i c (wrap64 (f2 + sv))).weight i)))) { { D with V := V3 } with V := V9 } (adv (event ((put_ S5 i c (wrap64 (f2 + sv)))) i 3 (c : Int) (wrap64 (f2 + sv))) i) from hA9.set_weight i hi (inc ((put_ S5 i c (wrap64 (f2 + sv))).weight i)))
              have K9 := Lib.hid (((K8.out.trans k9).trans (Fr.set { { D with V := V3 } with V := V9 } _ { event ((put_ S5 i c (wrap64 (f2 + sv)))) i 3 (c : Int) (wrap64 (f2 + sv)) with at_ := up ((put_ S5 i c (wrap64 (f2 + sv)))).at_ i (inc ((put_ S5 i c (wrap64 (f2 + sv))).at_ i)) } .t trivial (fun _ h => h) (i * 10 + 4) (.int .i64 (inc ((put_ S5 i c (wrap64 (f2 + sv))).at_ i))))).trans (Fr.set { { D with V := V3 } with V := V9 } _ (adv (event ((put_ S5 i c (wrap64 (f2 + sv)))) i 3 (c : Int) (wrap64 (f2 + sv))) i) .t trivial (fun _ h => h) (i * 10 + 6) (.int .i64 (inc ((put_ S5 i c (wrap64 (f2 + sv))).weight i)))))
              clear h9 k9 hA9
              go_wp2_with fail
              go_end0
              have hres := HST.out
              rw [if_neg (by simp), HQ.out, if_pos rfl] at hres
              unfold act at hres
              rw [if_neg (show ¬ (3 : Int) = 1 by decide), if_neg (show ¬ (3 : Int) = 2 by decide)] at hres
              simp only [Int.toNat_natCast] at hres
              rw [SS.out, SV.out] at hres
              rw [hres]
              exact ⟨rfl, { { D with V := V3 } with V := V9 }, hgA, H9.out, K9.out⟩
        · have hres : stepS P.man P.nc T S i = commit S i := by rw [HS.out]; unfold step1; rw [if_neg hconf, hO, if_pos (by rw [hmo]; simpa using ke)]
          clear hmo hO
          go_wp2_with fail
          go_quiet (fail)
          go_wp2_with fail
          refine (commitG P w0 _ D S i g hgA (HR.out.step (pw_below_drewN (Below.refl _ _) _)) hi hb1 hn hnc (by omega)).mono ?_
          rintro e w3 ⟨rfl, D3, hd3, h3, k3⟩
          have H3 := Lib.hid h3
          have K3 := Lib.hid ((KR.out.trans (Fr.below D S (pw_below_drewN (Below.refl _ _) _))).trans k3)
          clear h3 k3
          go_wp2_with fail
          (try simp only [Exit.inBlock, Exit.then])
          refine bodyPost_ret (results_none rfl _ _ _) rfl ?_
          rw [hres]
          exact ⟨rfl, D3, by rw [hd3]; exact hgA, H3.out, K3.out⟩
end Go.Proofs.Ytonhmkllfbagmaa.Tx
