/- Transactions: the reference's plain. -/
import Derived.Test.YtonhmkllfbagmaaRunG
namespace Go.Proofs.Ytonhmkllfbagmaa.Tx
open Go.RowKit Go.Proofs.YtonhmkllfbagmaaW.PrintWords Go.Proofs.YtonhmkllfbagmaaW.PrintLast Go.Proofs.YtonhmkllfbagmaaW.PrintMore Go.Proofs.Ytonhmkllfbagmaa.PFnExactTxFair
set_option linter.unusedVariables false
set_option linter.unusedSimpArgs false
theorem Run.set_vL {P : Par} {w0 w : World} {D : Dyn} {S : St} (h : Run P w0 w D S) (x : Value) : Run P w0 (w.setCell ⟨D.blk .g, 11, none⟩ x) { D with vL := x } S := by
  refine ⟨?_, Kd.R_step h.ev (fun b hb hlt => Below.heap_setCell w _ x b (hb .g trivial)), h.inn, h.below.setCell (p := ⟨D.blk .g, 11, none⟩) (h.lay.ge .g trivial) x⟩
  refine h.lay.set .g trivial 11 (show 11 < 13 by decide) x (fun j hj => hj) rfl ?_ ?_
  · intro m hm hne
    show gRow P { D with vL := x } S m = gRow P D S m
    match m with
    | 0 | 1 | 2 | 3 | 4 | 5 | 6 | 7 | 8 | 9 | 10 => rfl
    | 11 => exact absurd rfl hne
    | m + 12 => rfl
  · intro j hj hne m hm
    cases j <;> first | rfl | exact absurd rfl hne
def logV (P : Par) (D : Dyn) : Value := .agg #[.int .i64 0, .int .i64 0, D.V, .slice (some ⟨D.blk .c, 0, none⟩) P.nc P.cC, .slice (some ⟨D.blk .d, 0, none⟩) P.n P.cD]
theorem ret43 {fn : Func} (h : fn.results = #[.cell 2 43]) (tmps : Array Value) (w : World) (g : Nat) (v0 v1 v2 v3 v4 : Value) (hp : tmps.getD 2 undef = .pointer (some ⟨g, 0, none⟩)) (hb : w.heap[g]? = some (.cells #[v0, v1, v2, v3, v4] 43 (0, 0))) :
    (results fn tmps).run Try.prog w = .ok (.agg #[v0, v1, v2, v3, v4]) w := by
  have p0 := blk_cell hb 0; have p1 := blk_cell hb 1; have p2 := blk_cell hb 2; have p3 := blk_cell hb 3; have p4 := blk_cell hb 4
  simp only [List.getElem?_toArray, List.getElem?_cons_succ, List.getElem?_cons_zero] at p0 p1 p2 p3 p4
  have hi : (Try.prog.info? 43).map (fun i => i.size) = some 5 := by kernel_rfl
  have hp2 : tmps[2]?.getD undef = .pointer (some ⟨g, 0, none⟩) := by simpa using hp
  simp [results, h, go_sem, hp2, p0, p1, p2, p3, p4]
set_option maxHeartbeats 4000000 in
set_option maxRecDepth 100000 in
theorem plainC (P : Par) (w0 w : World) (D : Dyn) (S : St) (h : Run P w0 w D S) :
    Calls Try.prog 41 #[.pointer (some ⟨D.blk .g, 0, none⟩)] w fun e w' => e = .returned (logV P D) ∧ (∃ D', D'.blk = D.blk ∧ D'.V = D.V ∧ Run P w0 w' D' S ∧ Fr P w w' D D' S S) := by
  obtain ⟨Ao, co, eO, hco, hro⟩ := Kd.R_reads h.ev
  have hgl := h.lt .g trivial
  have g3 := h.g 3 (by decide); have g8 := h.g 8 (by decide); have g9 := h.g 9 (by decide); have g10 := h.g 10 (by decide); have g11 := h.g 11 (by decide); have g12 := h.g 12 (by decide)
  have f11 := h.thaw .g trivial 11
  simp only [gRow, eO] at g3 g8 g9 g10 g11 g12
  have H := Lib.hid h
  have EO := Lib.hid eO
  clear h hro eO
  go_enter Try.func41, Try.ntmps41
  go_wp2_with fail
  have hsz : (w.setCell ⟨D.blk .g, 11, none⟩ (Value.slice (some ⟨D.blk .c, 0, none⟩) P.nc P.cC)).heap.size = w.heap.size := by simp [World.setCell]
  have hb : ((w.setCell ⟨D.blk .g, 11, none⟩ (Value.slice (some ⟨D.blk .c, 0, none⟩) P.nc P.cC)).alloc (.cells #[.int .i64 0, .int .i64 0, .slice Ao S.events.length co, .slice (some ⟨D.blk .c, 0, none⟩) P.nc P.cC, .slice (some ⟨D.blk .d, 0, none⟩) P.n P.cD] 43)).heap[w.heap.size]? = some (.cells #[.int .i64 0, .int .i64 0, .slice Ao S.events.length co, .slice (some ⟨D.blk .c, 0, none⟩) P.nc P.cC, .slice (some ⟨D.blk .d, 0, none⟩) P.n P.cD] 43 (0, 0)) := by
    have := heap_alloc_new (w.setCell ⟨D.blk .g, 11, none⟩ (Value.slice (some ⟨D.blk .c, 0, none⟩) P.nc P.cC)) (.cells #[.int .i64 0, .int .i64 0, .slice Ao S.events.length co, .slice (some ⟨D.blk .c, 0, none⟩) P.nc P.cC, .slice (some ⟨D.blk .d, 0, none⟩) P.n P.cD] 43)
    rw [hsz] at this
    exact this
  refine bodyPost_ret (ret43 rfl _ _ w.heap.size _ _ _ _ _ rfl hb) rfl ?_
  refine ⟨by unfold logV; rw [EO.out], { D with vL := .slice (some ⟨D.blk .c, 0, none⟩) P.nc P.cC }, rfl, rfl, (H.out.set_vL (.slice (some ⟨D.blk .c, 0, none⟩) P.nc P.cC)).step (below_alloc (Below.refl _ _) _), ?_⟩
  exact (Fr.set D S S .g trivial (fun _ h => h) 11 _).trans ⟨(below_alloc (Below.refl _ _) _ : Below _ _ _).size, fun b hb ho => ⟨ho, (below_alloc (Below.refl _ _) _ : Below _ _ _).block b hb⟩⟩
end Go.Proofs.Ytonhmkllfbagmaa.Tx
