/- The source of draws: byte and next, by their bounds. -/
import Derived.Test.YtonhmkllfbagmaaSrcA
import Derived.StillTailTactics
import Derived.BigRegion
import Derived.Great.Walk
import Derived.Lib.Hide
namespace Go.Proofs.Ytonhmkllfbagmaa.Src
open Go.RowKit Go.Proofs.YtonhmkllfbagmaaW.PrintWords Go.Proofs.YtonhmkllfbagmaaW.PrintLast Go.Proofs.YtonhmkllfbagmaaW.PrintMore Go.Proofs.Ytonhmkllfbagmaa.PFnExactTxFair
set_option linter.unusedSimpArgs false
set_option linter.unusedVariables false

theorem blk_thaw {W : World} {g : Nat} {cs : Array Value} {t : TypeId} (h : W.heap[g]? = some (.cells cs t (0, 0))) (o : Nat) : W.frozen? ⟨g, o, none⟩ = false := by
  simp [World.frozen?, h]
/-- The source at block g: where it stands, at most m; its seed. -/
def Sr (w0 w : World) (g : Nat) (f0 : List Int) (m : Int) : Prop := ∃ x sd : Int, IsS104 w0 w g f0 x sd ∧ 0 ≤ x ∧ x ≤ m ∧ 0 ≤ sd ∧ sd < 2147483648 ∧ Below w0.heap.size w0 w
def Bytes (f0 : List Int) : Prop := f0.length ≤ 1048576 ∧ ∀ k : Int, 0 ≤ k → k < f0.length → 0 ≤ rd f0 k ∧ rd f0 k ≤ 255
theorem name_w {P : Program} {c : Code} {Q : Exit → Act → World → Prop} {a : Act} {w : World} (h : ∀ E, E = w → c.wp P Q a E) : c.wp P Q a w := h w rfl

theorem wrap_ok {x : Int} (h0 : -9223372036854775808 ≤ x) (h1 : x ≤ 9223372036854775807) : wrap64 x = x := by
  unfold wrap64
  omega
theorem IsB.facts {W : World} {g : Nat} {v0 v1 v2 : Value} {t : TypeId} (h : W.heap[g]? = some (.cells #[v0, v1, v2] t (0, 0))) :
    W.cell? ⟨g, 0, none⟩ = some v0 ∧ W.cell? ⟨g, 1, none⟩ = some v1 ∧ W.cell? ⟨g, 2, none⟩ = some v2 ∧ W.frozen? ⟨g, 0, none⟩ = false ∧ W.frozen? ⟨g, 1, none⟩ = false ∧ W.frozen? ⟨g, 2, none⟩ = false :=
  ⟨(blk_cell h 0).trans rfl, (blk_cell h 1).trans rfl, (blk_cell h 2).trans rfl, blk_thaw h 0, blk_thaw h 1, blk_thaw h 2⟩

set_option maxHeartbeats 4000000 in
set_option maxRecDepth 100000 in
theorem byteC (g : Nat) (f0 : List Int) (m : Int) (w0 w : World) (hI : Sr w0 w g f0 m) (hm : m ≤ 1099511627776) (hF : Bytes f0) :
    Calls Try.prog 69 #[.pointer (some ⟨g, 0, none⟩)] w fun e w' => ∃ r, e = .returned (.int .i64 r) ∧ 0 ≤ r ∧ r < 256 ∧ Sr w0 w' g f0 (m + 1) ∧ KeepBut w w' g none := by
  obtain ⟨x, sd, hI, hx0, hxm, hs0, hs1, hB⟩ := hI
  obtain ⟨A, c, hb, hg, hr⟩ := hI
  have hlt := blk_lt hb
  have c1 := cellS104_1 hb
  have t1 := blk_thaw hb 1
  have HB := Lib.hid hb
  have HBL := Lib.hid hB
  have HR := Lib.hid hr
  clear hb hB hr
  have p1 : IntKind.wrap .i64 (x + 1) = x + 1 := by rw [i64_w]; exact wrap_ok (by omega) (by omega)
  go_enter Try.func69, Try.ntmps69
  go_wp2_with fail
  refine name_w fun E hE => ?_
  have hbE : E.heap[g]? = some (.cells #[.slice A f0.length c, .int .i64 (x + 1), .int .i64 sd] 104 (0, 0)) := by rw [hE]; simpa using blk_set HB.out 1 (.int .i64 (x + 1))
  have HKE := Lib.hid (show KeepBut w E g none by rw [hE]; exact (KeepBut.refl w g none).set_ 1 _)
  have HBE := Lib.hid (show Below w0.heap.size w0 E by rw [hE]; exact HBL.out.setCell (p := ⟨g, 1, none⟩) hg _)
  clear hE c1 t1
  obtain ⟨e0, e1, e2, t0, t1, t2⟩ := IsB.facts hbE
  have HE := Lib.hid hbE
  clear hbE
  by_cases hle : x + 1 ≤ (f0.length : Int)
  · have q1 := decide_eq_true hle
    go_quiet (fail)
    go_wp2_with fail
    have h0n : (0 : Int) ≤ x := hx0
    have hxn : x < (f0.length : Int) := by omega
    obtain ⟨ad, rfl, g0⟩ := Kd.at_int HR.out x h0n hxn
    have hab := World.block_lt_of_cell? w0 _ g0
    replace g0 := (HBE.out.cell (World.block_lt_of_cell? w0 _ g0)).trans g0
    have hv := hF.2 x h0n hxn
    obtain ⟨v, hvv⟩ : ∃ v, rd f0 x = v := ⟨_, rfl⟩
    rw [hvv] at g0 hv
    clear hvv
    have p3 : IntKind.wrap .i64 (x + 1 - 1) = x := by rw [i64_w, show x + 1 - 1 = x by omega]; exact wrap_ok (by omega) (by omega)
    have p4 : IntKind.wrap .i64 (sd * 31) = sd * 31 := by rw [i64_w]; exact wrap_ok (by omega) (by omega)
    have p5 : IntKind.wrap .i64 v = v := by rw [i64_w]; exact wrap_ok (by omega) (by omega)
    have p6 : IntKind.wrap .i64 (sd * 31 + v) = sd * 31 + v := by rw [i64_w]; exact wrap_ok (by omega) (by omega)
    have p7 : IntKind.wrap .i64 (sd * 31 + v + 7) = sd * 31 + v + 7 := by rw [i64_w]; exact wrap_ok (by omega) (by omega)
    have b1 := eq_true h0n
    have b2 := eq_true hxn
    refine name_w fun F hF2 => ?_
    have hFE : Below E.heap.size E F := by rw [hF2]; exact pw_below_drewN (Below.refl _ _) _
    clear hF2
    replace e0 := (hFE.cell (p := ⟨g, 0, none⟩) (blk_lt HE.out)).trans e0
    replace e1 := (hFE.cell (p := ⟨g, 1, none⟩) (blk_lt HE.out)).trans e1
    replace e2 := (hFE.cell (p := ⟨g, 2, none⟩) (blk_lt HE.out)).trans e2
    replace g0 := (hFE.cell (World.block_lt_of_cell? E _ g0)).trans g0
    have HFF := Lib.hid (show F.heap[g]? = _ from (hFE.block g (blk_lt HE.out)).trans HE.out)
    have t2F := blk_thaw HFF.out 2
    have HKF := Lib.hid (HKE.out.trans (KeepBut.of_below hFE g none) (.inl rfl))
    have HBF := Lib.hid (below_step HBE.out hFE)
    clear hFE t0 t1 t2 HKE HBE HE
    go_region
    have r0 := Int.emod_nonneg (sd * 31 + v + 7) (b := 2147483648) (by decide)
    have r1 := Int.emod_lt_of_pos (sd * 31 + v + 7) (b := 2147483648) (by decide)
    obtain ⟨sd', hsd'⟩ : ∃ z, (sd * 31 + v + 7) % 2147483648 = z := ⟨_, rfl⟩
    rw [hsd'] at r0 r1 ⊢
    clear hsd'
    go_wp2_with fail
    refine name_w fun G hG => ?_
    have hbG : G.heap[g]? = some (.cells #[.slice (some ad) f0.length c, .int .i64 (x + 1), .int .i64 sd'] 104 (0, 0)) := by rw [hG]; show (F.setCell ⟨g, 2, none⟩ (.int .i64 sd')).heap[g]? = _; simpa using blk_set (w := F) (g := g) HFF.out 2 (.int .i64 sd')
    have HKG := Lib.hid (show KeepBut w G g none by rw [hG]; exact HKF.out.set_ 2 _)
    have HBG := Lib.hid (show Below w0.heap.size w0 G by rw [hG]; exact (HBF.out.setCell (p := ⟨g, 2, none⟩) hg _).drew)
    have g1 : G.cell? (ad.add x.toNat) = some (.int .u8 v) := by rw [hG]; refine Eq.trans ?_ g0; exact World.cell?_setCell_other _ _ _ _ (by intro hh; rw [← hh] at hab; exact absurd hab (Nat.not_lt.2 hg))
    clear hG g0 e0 e1 e2 t2F
    obtain ⟨e0, e1, e2, -, -, -⟩ := IsB.facts hbG
    have HG := Lib.hid hbG
    clear hbG
    go_quiet (fail)
    go_wp2_with fail
    go_ret
    exact ⟨_, rfl, by omega, by omega, ⟨x + 1, sd', ⟨some ad, c, HG.out, hg, HR.out⟩, by omega, by omega, r0, r1, pw_below_drewN HBG.out _⟩, HKG.out⟩
  · have q1 := decide_eq_false hle
    have r0 := Int.emod_nonneg (sd * 1103515245 + 12345) (b := 2147483648) (by decide)
    have r1 := Int.emod_lt_of_pos (sd * 1103515245 + 12345) (b := 2147483648) (by decide)
    go_quiet (fail)
    go_wp2_with fail
    · go_ret
      exact ⟨0, rfl, by omega, by omega, ⟨x + 1, sd, ⟨A, c, HE.out, hg, HR.out⟩, by omega, by omega, by omega, by omega, pw_below_drewN HBE.out _⟩, HKE.out⟩
    · go_ret
      exact ⟨_, rfl, by omega, by omega, ⟨x + 1, _, ⟨A, c, by simpa using blk_set (w := E.drewN nq) (g := g) HE.out 2 (.int .i64 ((sd * 1103515245 + 12345) % 2147483648)), hg, HR.out⟩, by omega, by omega, r0, r1, (pw_below_drewN HBE.out _).setCell (p := ⟨g, 2, none⟩) hg _⟩, HKE.out.set_ 2 _⟩

theorem Sr.keep {w0 w w1 : World} {g : Nat} {f0 : List Int} {m : Int} (h : Sr w0 w g f0 m) (hb : Below w.heap.size w w1) : Sr w0 w1 g f0 m := by
  obtain ⟨x, sd, hI, h1, h2, h3, h4, h5⟩ := h
  exact ⟨x, sd, hI.below hb, h1, h2, h3, h4, below_step h5 hb⟩
theorem Sr.mono {w0 w : World} {g : Nat} {f0 : List Int} {m k : Int} (h : Sr w0 w g f0 m) (hk : m ≤ k) : Sr w0 w g f0 k := by
  obtain ⟨x, sd, hI, h1, h2, h3, h4, h5⟩ := h
  exact ⟨x, sd, hI, h1, by omega, h3, h4, h5⟩
set_option maxHeartbeats 4000000 in
set_option maxRecDepth 100000 in
theorem nextC (g : Nat) (f0 : List Int) (m n : Int) (w0 w : World) (hI : Sr w0 w g f0 m) (hm : m ≤ 1000000000000) (hF : Bytes f0) (hn : 1 ≤ n) (hn2 : n ≤ 1000000) :
    Calls Try.prog 51 #[.pointer (some ⟨g, 0, none⟩), .int .i64 n] w fun e w' => ∃ r, e = .returned (.int .i64 r) ∧ 0 ≤ r ∧ r < n ∧ Sr w0 w' g f0 (m + 3) ∧ KeepBut w w' g none := by
  have HI := Lib.hid hI
  clear hI
  by_cases h1 : n ≤ 1
  · go_enter Try.func51, Try.ntmps51
    go_wp2_with fail
    go_ret
    exact ⟨0, rfl, by omega, by omega, HI.out.mono (by omega), KeepBut.refl w g none⟩
  · by_cases h2 : n ≤ 256
    · go_enter Try.func51, Try.ntmps51
      go_wp2_with fail
      refine (byteC g f0 m w0 w HI.out (by omega) hF).mono ?_
      rintro e w1 ⟨r, rfl, hr0, hr1, hS, hK⟩
      have HS := Lib.hid hS; have HK := Lib.hid hK; clear hS hK
      have q0 := Int.emod_nonneg r (b := n) (by omega)
      have q1 := Int.emod_lt_of_pos r (b := n) (by omega)
      go_wp2_with fail
      go_ret
      exact ⟨_, rfl, by first | exact q0 | (rw [Int.tmod_eq_emod_of_nonneg hr0]; exact q0), by first | exact q1 | (rw [Int.tmod_eq_emod_of_nonneg hr0]; exact q1), HS.out.mono (by omega), HK.out⟩
    · go_enter Try.func51, Try.ntmps51
      go_wp2_with fail
      refine (byteC g f0 m w0 w HI.out (by omega) hF).mono ?_
      rintro e w1 ⟨r, rfl, hr0, hr1, hS, hK⟩
      have HS := Lib.hid hS; have HK := Lib.hid hK; clear hS hK
      go_wp2_with fail
      refine (byteC g f0 (m + 1) w0 w1 HS.out (by omega) hF).mono ?_
      rintro e w2 ⟨r2, rfl, hr20, hr21, hS, hK⟩
      have HS2 := Lib.hid hS; have HK2 := Lib.hid (HK.out.trans hK (.inl rfl)); clear hS hK HS HK
      go_wp2_with fail
      refine (byteC g f0 (m + 1 + 1) w0 w2 HS2.out (by omega) hF).mono ?_
      rintro e w3 ⟨r3, rfl, hr30, hr31, hS, hK⟩
      have HS3 := Lib.hid hS; have HK3 := Lib.hid (HK2.out.trans hK (.inl rfl)); clear hS hK HS2 HK2
      have q0 := Int.emod_nonneg (r * 65536 + r2 * 256 + r3) (b := n) (by omega)
      have q1 := Int.emod_lt_of_pos (r * 65536 + r2 * 256 + r3) (b := n) (by omega)
      go_wp2_with fail
      go_ret
      exact ⟨_, rfl, by first | exact q0 | (rw [Int.tmod_eq_emod_of_nonneg (by omega)]; exact q0), by first | exact q1 | (rw [Int.tmod_eq_emod_of_nonneg (by omega)]; exact q1), HS3.out.mono (by omega), HK3.out⟩
theorem sourceC (A0 : Option Addr) (c0 : Nat) (l0 : List Int) (w : World) (hr0 : Kd.C (Kd.int .u8) w A0 l0.length l0) (hc0 : l0.length ≤ c0) :
    Calls Try.prog 49 #[.slice A0 l0.length c0] w fun e w' => ∃ g : Nat, e = .returned (.pointer (some ⟨g, 0, none⟩)) ∧ Sr w w' g l0 0 ∧ w.heap.size ≤ g ∧ Below w.heap.size w w' := by
  refine (spec_l00Source.calls A0 c0 l0 _ _ _ w w (Below.refl _ _) hr0 hc0 rfl).mono ?_
  rintro e w' ⟨g, rfl, hI, hB, _⟩
  exact ⟨g, rfl, ⟨_, _, hI, by omega, by omega, Int.emod_nonneg _ (by decide), by have := Int.emod_lt_of_pos (l0.length : Int) (b := 1000) (by decide); omega, hB⟩, hI.ge, hB⟩
end Go.Proofs.Ytonhmkllfbagmaa.Src
