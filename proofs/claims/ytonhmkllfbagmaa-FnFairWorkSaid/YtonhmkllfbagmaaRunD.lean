/- Transactions: the reference's see and may. -/
import Derived.Test.YtonhmkllfbagmaaRunC
namespace Go.Proofs.Ytonhmkllfbagmaa.Tx
open Go.RowKit Go.Proofs.YtonhmkllfbagmaaW.PrintWords Go.Proofs.YtonhmkllfbagmaaW.PrintLast Go.Proofs.YtonhmkllfbagmaaW.PrintMore Go.Proofs.Ytonhmkllfbagmaa.PFnExactTxFair
set_option linter.unusedVariables false
set_option linter.unusedSimpArgs false
section
variable {P : Par} {w0 w : World} {D : Dyn} {S : St}
theorem Run.t789 (h : Run P w0 w D S) (i : Nat) (hi : i < P.n) (hb : S.begun i = true) : ∃ c7 c8 c9, w.cell? ⟨D.blk .t, i * 10 + 7, none⟩ = some (.slice (some ⟨D.blk (.r i), 0, none⟩) P.nc c7) ∧ w.cell? ⟨D.blk .t, i * 10 + 8, none⟩ = some (.slice (some ⟨D.blk (.w i), 0, none⟩) P.nc c8) ∧ w.cell? ⟨D.blk .t, i * 10 + 9, none⟩ = some (.slice (some ⟨D.blk (.k i), 0, none⟩) P.nc c9) := by
  obtain ⟨c7, c8, c9, -, -, -, e7, e8, e9⟩ := h.inn i hi hb
  have h7 := h.t i 7 hi (by decide); have h8 := h.t i 8 hi (by decide); have h9 := h.t i 9 hi (by decide)
  simp only [tRow, e7, e8, e9] at h7 h8 h9
  exact ⟨c7, c8, c9, h7, h8, h9⟩
end
set_option maxHeartbeats 8000000 in
set_option maxRecDepth 100000 in
theorem seeC (P : Par) (w0 w : World) (D : Dyn) (S : St) (i c : Nat) (h : Run P w0 w D S) (hi : i < P.n) (hb : S.begun i = true) (hc : c < P.nc) (hn : P.n ≤ 1000) (hnc : P.nc ≤ 1000) :
    Calls Try.prog 60 #[.pointer (some ⟨D.blk .g, 0, none⟩), .int .i64 (i : Int), .int .i64 (c : Int)] w fun e w' => e = .returned (.int .i64 (see S i c).1) ∧ Run P w0 w' D (see S i c).2 ∧ Fr P w w' D D S (see S i c).2 := by
  have hin := eq_true (show (i : Int) < (P.n : Int) by omega)
  have hcn := eq_true (show (c : Int) < (P.nc : Int) by omega)
  have g6 := h.g 6 (by decide); have g4 := h.g 4 (by decide); have g3 := h.g 3 (by decide)
  simp only [gRow] at g6 g4 g3
  obtain ⟨c7, c8, c9, t7, t8, t9⟩ := h.t789 i hi hb
  have r1 := h.rd_ i c hi hb hc; have r2 := h.wr_ i c hi hb hc; have r3 := h.kp_ i c hi hb hc
  have v1 := h.v c hc; have c1 := h.c c hc
  have fr := h.thaw (.r i) ⟨hi, hb⟩ c
  rcases hw : S.wrote i c with _ | _
  · have e : see S i c = (S.cells c, { S with read := up S.read i (up (S.read i) c (S.vers c)) }) := by unfold see; rw [if_neg (by rw [hw]; decide)]
    rw [e]
    rw [hw] at r2
    have hS := h.set_read i c hi hb hc (S.vers c)
    have a3 := hS.g 3 (by decide); have a1 := hS.c c hc
    simp only [gRow] at a3
    have HB := Lib.hid hS
    have KB := Lib.hid (Fr.set (P := P) (w := w) D S { S with read := up S.read i (up (S.read i) c (S.vers c)) } (.r i) ⟨hi, hb⟩ (fun _ h => h) c (.int .i64 (S.vers c)))
    clear h e hw hS
    go_enter Try.func60, Try.ntmps60
    go_wp2_with fail
    go_region
    go_wp2_with fail
    go_ret
    exact ⟨rfl, HB.out.step (below_drew1 (Below.refl _ _)), KB.out.trans (Fr.below D _ (below_drew1 (Below.refl _ _)))⟩
  · have e : see S i c = (S.kept i c, S) := by unfold see; rw [if_pos hw]
    rw [e]
    rw [hw] at r2
    have HB := Lib.hid h
    clear h e hw
    go_enter Try.func60, Try.ntmps60
    go_wp2_with fail
    go_ret
    exact ⟨rfl, HB.out, Fr.refl P w D S⟩
/-- The threads of the program, read where the call began. -/
def Prg (P : Par) (w0 : World) (T : List (List (List S63))) : Prop := ∃ AV cV, P.vT = .slice AV T.length cV ∧ T.length ≤ cV ∧ Kd.C (Kd.slice 61 (Kd.slice 63 k63)) w0 AV T.length T ∧ T.length = P.n
theorem Run.thr {P : Par} {w0 w : World} {D : Dyn} {S : St} {T : List (List (List S63))} (h : Run P w0 w D S) (hP : Prg P w0 T) (i : Nat) (hi : i < P.n) : ∃ ad cV A0 c0, w.cell? ⟨D.blk .g, 2, none⟩ = some (.slice (some ad) P.n cV) ∧ w.cell? (ad.add i) = some (.slice A0 (thr T i).length c0) ∧ (thr T i).length ≤ c0 ∧ (Kd.slice 63 k63).C w A0 (thr T i).length (thr T i) := by
  obtain ⟨AV, cV, e, hc, hC, hn⟩ := hP
  obtain ⟨ad, A0, c0, rfl, h1, h2, h3⟩ := at_L6 (Kd.C_below hC h.below) (i : Int) (by omega) (by omega)
  have g2 := h.g 2 (by decide)
  simp only [gRow, e] at g2
  rw [hn] at g2
  exact ⟨ad, cV, A0, c0, g2, h1, h2, h3⟩
set_option maxHeartbeats 8000000 in
set_option maxRecDepth 100000 in
theorem mayC (P : Par) (w0 w : World) (D : Dyn) (S : St) (T : List (List (List S63))) (i : Nat) (h : Run P w0 w D S) (hP : Prg P w0 T) (hi : i < P.n) (hn : P.n ≤ 1000) :
    Calls Try.prog 39 #[.pointer (some ⟨D.blk .g, 0, none⟩), .int .i64 (i : Int)] w fun e w' => e = .returned (.bool (decide (S.tx i < ((thr T i).length : Int)))) ∧ Run P w0 w' D S ∧ Fr P w w' D D S S := by
  have hin := eq_true (show (i : Int) < (P.n : Int) by omega)
  have hind := decide_eq_true (show (i : Int) < (P.n : Int) by omega)
  have hi0 := eq_true (show (0 : Int) ≤ (i : Int) by omega)
  have hi1 := decide_eq_true (show (i : Int) ≥ 0 by omega)
  have g6 := h.g 6 (by decide)
  simp only [gRow] at g6
  have t0 := h.t0 i hi
  simp only [tRow] at t0
  obtain ⟨ad, cV, A0, c0, g2, l1, hl, hr⟩ := h.thr hP i hi
  obtain ⟨m, hm⟩ : ∃ m, (thr T i).length = m := ⟨_, rfl⟩
  rw [hm] at l1 ⊢
  have H := Lib.hid h
  clear h hr hl hm hP
  go_enter Try.func39, Try.ntmps39
  go_wp2_with fail
  go_quiet (fail)
  go_wp2_with fail
  go_ret
  exact ⟨rfl, H.out.step (pw_below_drewN (Below.refl _ _) _), Fr.below D S (pw_below_drewN (Below.refl _ _) _)⟩
end Go.Proofs.Ytonhmkllfbagmaa.Tx
