/- Transactions: the reference's run in memory. -/
import Derived.Test.YtonhmkllfbagmaaPl
import Derived.StillTailTactics
import Derived.BigRegion
import Derived.Great.Walk
namespace Go.Proofs.Ytonhmkllfbagmaa.Tx
open Go.RowKit Go.Proofs.YtonhmkllfbagmaaW.PrintWords Go.Proofs.YtonhmkllfbagmaaW.PrintLast Go.Proofs.YtonhmkllfbagmaaW.PrintMore Go.Proofs.Ytonhmkllfbagmaa.PFnExactTxFair
set_option linter.unusedVariables false
set_option linter.unusedSimpArgs false
inductive Ix where
  | g | c | v | o | t | d
  | r (i : Nat)
  | w (i : Nat)
  | k (i : Nat)
/-- What does not change in a run: cells, threads, the manager; the program's slices; capacities. -/
structure Par where
  nc : Nat
  n : Nat
  man : Int
  vC : Value
  vT : Value
  cC : Nat
  cV : Nat
  cO : Nat
  cT : Nat
  cD : Nat
/-- What changes: where the blocks are, the events' slice, each try's three slices. -/
structure Dyn where
  blk : Ix → Nat
  V : Value
  vL : Value
  x7 : Nat → Option Addr × Nat × Nat
  x8 : Nat → Option Addr × Nat × Nat
  x9 : Nat → Option Addr × Nat × Nat
def okS (P : Par) (S : St) : Ix → Prop
  | .r i => i < P.n ∧ S.begun i = true
  | .w i => i < P.n ∧ S.begun i = true
  | .k i => i < P.n ∧ S.begun i = true
  | _ => True
def tyS : Ix → TypeId
  | .g => 73
  | .t => 90
  | .w _ => 4
  | _ => 3
def szS (P : Par) : Ix → Nat
  | .g => 13
  | .t => P.n * 10
  | .d => P.n
  | _ => P.nc
def gRow (P : Par) (D : Dyn) (S : St) : Nat → Value
  | 0 => P.vC
  | 1 => .int .i64 P.man
  | 2 => P.vT
  | 3 => .slice (some ⟨D.blk .c, 0, none⟩) P.nc P.cC
  | 4 => .slice (some ⟨D.blk .v, 0, none⟩) P.nc P.cV
  | 5 => .slice (some ⟨D.blk .o, 0, none⟩) P.nc P.cO
  | 6 => .slice (some ⟨D.blk .t, 0, none⟩) P.n P.cT
  | 7 => .int .i64 S.goes
  | 8 => .int .i64 0
  | 9 => .int .i64 0
  | 10 => D.V
  | 11 => D.vL
  | _ => .slice (some ⟨D.blk .d, 0, none⟩) P.n P.cD
def tRow (D : Dyn) (S : St) (i : Nat) : Nat → Value
  | 0 => .int .i64 (S.tx i)
  | 1 => .int .i64 (S.try_ i)
  | 2 => .bool (S.begun i)
  | 3 => .bool (S.started i)
  | 4 => .int .i64 (S.at_ i)
  | 5 => .int .i64 (S.start i)
  | 6 => .int .i64 (S.weight i)
  | 7 => .slice (D.x7 i).1 (D.x7 i).2.1 (D.x7 i).2.2
  | 8 => .slice (D.x8 i).1 (D.x8 i).2.1 (D.x8 i).2.2
  | _ => .slice (D.x9 i).1 (D.x9 i).2.1 (D.x9 i).2.2
def rowS (P : Par) (D : Dyn) (S : St) : Ix → Nat → Value
  | .g => gRow P D S
  | .c => fun k => .int .i64 (S.cells k)
  | .v => fun k => .int .i64 (S.vers k)
  | .o => fun k => .int .i64 (S.owners k)
  | .t => fun k => tRow D S (k / 10) (k % 10)
  | .d => fun k => .int .i64 (S.done k)
  | .r i => fun k => .int .i64 (S.read i k)
  | .w i => fun k => .bool (S.wrote i k)
  | .k i => fun k => .int .i64 (S.kept i k)
/-- A try's three slices. -/
def Inn (P : Par) (D : Dyn) (i : Nat) : Prop := ∃ c7 c8 c9, P.nc ≤ c7 ∧ P.nc ≤ c8 ∧ P.nc ≤ c9 ∧ D.x7 i = (some ⟨D.blk (.r i), 0, none⟩, P.nc, c7) ∧ D.x8 i = (some ⟨D.blk (.w i), 0, none⟩, P.nc, c8) ∧ D.x9 i = (some ⟨D.blk (.k i), 0, none⟩, P.nc, c9)
structure Run (P : Par) (w0 w : World) (D : Dyn) (S : St) : Prop where
  lay : Lay w w0.heap.size (okS P S) D.blk tyS (szS P) (rowS P D S)
  ev : k53.R 53 w w0.heap.size (fun b => ∀ i, okS P S i → b ≠ D.blk i) D.V S.events
  inn : ∀ i, i < P.n → S.begun i = true → Inn P D i
  below : Below w0.heap.size w0 w
section
variable {P : Par} {w0 w w' : World} {D : Dyn} {S : St}
theorem Run.step (h : Run P w0 w D S) (hb : Below w.heap.size w w') : Run P w0 w' D S := ⟨h.lay.below hb, Kd.R_below h.ev hb, h.inn, below_step h.below hb⟩
theorem Run.g (h : Run P w0 w D S) (k : Nat) (hk : k < 13) : w.cell? ⟨D.blk .g, k, none⟩ = some (gRow P D S k) := (h.lay.at_ .g trivial).cell k hk
theorem Run.o (h : Run P w0 w D S) (k : Nat) (hk : k < P.nc) : w.cell? ⟨D.blk .o, k, none⟩ = some (.int .i64 (S.owners k)) := (h.lay.at_ .o trivial).cell k hk
theorem Run.c (h : Run P w0 w D S) (k : Nat) (hk : k < P.nc) : w.cell? ⟨D.blk .c, k, none⟩ = some (.int .i64 (S.cells k)) := (h.lay.at_ .c trivial).cell k hk
theorem Run.v (h : Run P w0 w D S) (k : Nat) (hk : k < P.nc) : w.cell? ⟨D.blk .v, k, none⟩ = some (.int .i64 (S.vers k)) := (h.lay.at_ .v trivial).cell k hk
theorem Run.d (h : Run P w0 w D S) (k : Nat) (hk : k < P.n) : w.cell? ⟨D.blk .d, k, none⟩ = some (.int .i64 (S.done k)) := (h.lay.at_ .d trivial).cell k hk
theorem Run.t (h : Run P w0 w D S) (i f : Nat) (hi : i < P.n) (hf : f < 10) : w.cell? ⟨D.blk .t, i * 10 + f, none⟩ = some (tRow D S i f) := by
  have := (h.lay.at_ .t trivial).cell (i * 10 + f) (show i * 10 + f < P.n * 10 by omega)
  have e : rowS P D S .t (i * 10 + f) = tRow D S i f := by
    show tRow D S ((i * 10 + f) / 10) ((i * 10 + f) % 10) = _
    rw [show (i * 10 + f) / 10 = i by omega, show (i * 10 + f) % 10 = f by omega]
  rw [e] at this
  exact this
theorem Run.ne (h : Run P w0 w D S) {i j : Ix} (hi : okS P S i) (hj : okS P S j) (hn : i ≠ j) : D.blk i ≠ D.blk j := fun e => hn (h.lay.inj i j hi hj e)
theorem Run.thaw (h : Run P w0 w D S) (i : Ix) (hi : okS P S i) (k : Nat) : w.frozen? ⟨D.blk i, k, none⟩ = false := (h.lay.at_ i hi).thaw k
theorem Run.lt (h : Run P w0 w D S) (i : Ix) (hi : okS P S i) : D.blk i < w.heap.size := (h.lay.at_ i hi).lt
/-- One store into a block of the run's own. -/
theorem Run.set (h : Run P w0 w D S) (i : Ix) (hi : okS P S i) (k : Nat) (hk : k < szS P i) (v : Value) (S' : St) (hs : ∀ j, okS P S' j → okS P S j) (h1 : rowS P D S' i k = v) (h2 : ∀ m, m < szS P i → m ≠ k → rowS P D S' i m = rowS P D S i m) (h3 : ∀ j, okS P S' j → j ≠ i → ∀ m, m < szS P j → rowS P D S' j m = rowS P D S j m) (he : S'.events = S.events) (hb : ∀ i, S'.begun i = true → S.begun i = true) :
    Run P w0 (w.setCell ⟨D.blk i, k, none⟩ v) D S' := by
  refine ⟨h.lay.set i hi k hk v hs h1 h2 h3, ?_, fun j hj hbj => h.inn j hj (hb j hbj), h.below.setCell (p := ⟨D.blk i, k, none⟩) (h.lay.ge i hi) v⟩
  rw [he]
  refine Kd.R_mono (Kd.R_step h.ev (fun b hb hlt => Below.heap_setCell w _ v b (hb i hi))) (fun b hb j hj => hb j (hs j hj))
end
/-- A block that is none of the run's. -/
def Out (P : Par) (D : Dyn) (S : St) (b : Nat) : Prop := (∀ j, okS P S j → b ≠ D.blk j) ∧ some b ≠ D.V.ownBlock
/-- What is none of the run's stays so, and as it was. -/
def Fr (P : Par) (w w' : World) (D D' : Dyn) (S S' : St) : Prop := w.heap.size ≤ w'.heap.size ∧ ∀ b, b < w.heap.size → Out P D S b → Out P D' S' b ∧ w'.heap[b]? = w.heap[b]?
theorem Fr.refl (P : Par) (w : World) (D : Dyn) (S : St) : Fr P w w D D S S := ⟨Nat.le_refl _, fun _ _ h => ⟨h, rfl⟩⟩
theorem Fr.trans {P : Par} {w w1 w2 : World} {D D1 D2 : Dyn} {S S1 S2 : St} (h : Fr P w w1 D D1 S S1) (k : Fr P w1 w2 D1 D2 S1 S2) : Fr P w w2 D D2 S S2 :=
  ⟨Nat.le_trans h.1 k.1, fun b hb ho => by obtain ⟨a, e⟩ := h.2 b hb ho; obtain ⟨a2, e2⟩ := k.2 b (Nat.lt_of_lt_of_le hb h.1) a; exact ⟨a2, e2.trans e⟩⟩
theorem Fr.below {P : Par} {w w1 : World} (D : Dyn) (S : St) (h : Below w.heap.size w w1) : Fr P w w1 D D S S := ⟨h.size, fun b hb ho => ⟨ho, h.block b hb⟩⟩
theorem Fr.set {P : Par} {w : World} (D : Dyn) (S S' : St) (i : Ix) (hi : okS P S i) (hs : ∀ j, okS P S' j → okS P S j) (k : Nat) (v : Value) : Fr P w (w.setCell ⟨D.blk i, k, none⟩ v) D D S S' :=
  ⟨by simp [World.setCell], fun b hb ho => ⟨⟨fun j hj => ho.1 j (hs j hj), ho.2⟩, Below.heap_setCell w _ v b (ho.1 i hi)⟩⟩
theorem Fr.fn {P : Par} {w w1 : World} {D D1 : Dyn} {S S1 : St} (h : Fr P w w1 D D1 S S1) {b n : Nat} {t : TypeId} {f : Nat → Value} (hf : Fn w b t n f) (ho : Out P D S b) : Fn w1 b t n f := hf.move (h.2 b hf.lt ho).2
set_option maxHeartbeats 4000000 in
set_option maxRecDepth 100000 in
theorem freeC (P : Par) (w0 w : World) (D : Dyn) (S : St) (i : Nat) (h : Run P w0 w D S) (hnc : P.nc ≤ 1000) :
    Calls Try.prog 74 #[.pointer (some ⟨D.blk .g, 0, none⟩), .int .i64 (i : Int)] w fun e w' => e = .returned (.tuple #[]) ∧ Run P w0 w' D (free S i) ∧ Fr P w w' D D S (free S i) := by
  have H := Lib.hid h
  clear h
  go_enter Try.func74, Try.ntmps74
  go_wp2_with fail
  go_loopw [4] (fun iv wr => ∃ x : Nat, x ≤ P.nc ∧ iv = .int .i64 (x : Int) ∧ Run P w0 wr D { S with owners := fun c => if c < x then freeO i S.owners c else S.owners c } ∧ Fr P w wr D D S S) (fun iv _ => P.nc - (intOf iv).toNat)
  case atStart => exact ⟨0, Nat.zero_le _, rfl, by simpa using H.out, Fr.refl P w D S⟩
  case round =>
    clear H
    obtain ⟨x, hx, rfl, hR, hFr⟩ := hrel
    have H := Lib.hid hR
    have FR := Lib.hid hFr
    clear hFr
    have g5 := hR.g 5 (by decide)
    simp only [gRow] at g5
    clear hR
    by_cases hlt : x < P.nc
    · have q0 := decide_eq_true (show (x : Int) < (P.nc : Int) by omega)
      have o1 := H.out.o x hlt
      simp only [Nat.lt_irrefl, if_false] at o1
      have th := H.out.thaw .o trivial x
      have p1 : IntKind.wrap .i64 ((x : Int) + 1) = (x : Int) + 1 := by rw [i64_w]; unfold wrap64; omega
      have hz : szS P .o = P.nc := rfl
      have nxt : ∀ wr', Run P w0 wr' D { S with owners := fun c => if c < x + 1 then freeO i S.owners c else S.owners c } → Fr P w wr' D D S S → ∃ y : Nat, y ≤ P.nc ∧ Value.int .i64 ((x : Int) + 1) = .int .i64 (y : Int) ∧ Run P w0 wr' D { S with owners := fun c => if c < y then freeO i S.owners c else S.owners c } ∧ Fr P w wr' D D S S := fun wr' h h2 => ⟨x + 1, hlt, rfl, h, h2⟩
      rcases hk : (S.owners x == (i : Int)) with _ | _
      · have hR2 : Run P w0 wr D { S with owners := fun c => if c < x + 1 then freeO i S.owners c else S.owners c } := by
          have e : (fun c => if c < x + 1 then freeO i S.owners c else S.owners c) = (fun c => if c < x then freeO i S.owners c else S.owners c) := by
            funext c
            by_cases hc : c = x
            · subst hc
              rw [if_pos (by omega), if_neg (by omega)]
              exact if_neg (by simpa using hk)
            · by_cases h2 : c < x
              · rw [if_pos (by omega), if_pos h2]
              · rw [if_neg (by omega), if_neg h2]
          rw [e]
          exact H.out
        have H2 := Lib.hid hR2
        clear hR2
        go_wp2_with fail
        go_roundw
        case measure => simp [intOf]; omega
        case rel => exact nxt _ H2.out FR.out
      · have hR2 : Run P w0 (wr.setCell ⟨D.blk .o, x, none⟩ (.int .i64 (-1))) D { S with owners := fun c => if c < x + 1 then freeO i S.owners c else S.owners c } := by
          refine H.out.set .o trivial x hlt (.int .i64 (-1)) _ (fun j hj => hj) ?_ ?_ ?_ rfl (fun _ hb => hb)
          · show Value.int .i64 (if x < x + 1 then freeO i S.owners x else S.owners x) = _
            rw [if_pos (by omega)]
            unfold freeO
            rw [if_pos (by simpa using hk)]
          · intro m hm hne
            show Value.int .i64 (if m < x + 1 then freeO i S.owners m else S.owners m) = Value.int .i64 (if m < x then freeO i S.owners m else S.owners m)
            by_cases h2 : m < x
            · rw [if_pos (by omega), if_pos h2]
            · rw [if_neg (by omega), if_neg h2]
          · intro j hj hne m hm
            cases j <;> first | rfl | exact absurd rfl hne
        have H2 := Lib.hid hR2
        clear hR2
        go_wp2_with fail
        go_roundw
        case measure => simp [intOf]; omega
        case rel => exact nxt _ H2.out (FR.out.trans (Fr.set D S S .o trivial (fun _ h => h) x _))
    · have q0 := decide_eq_false (show ¬ (x : Int) < (P.nc : Int) by omega)
      obtain rfl : x = P.nc := by omega
      go_wp2_with fail
      go_end0
      refine ⟨rfl, ?_, FR.out⟩
      refine ⟨H.out.lay.sub (fun j hj => hj) (fun j hj m hm => ?_), H.out.ev, H.out.inn, H.out.below⟩
      cases j <;> try rfl
      show Value.int .i64 (freeO i S.owners m) = Value.int .i64 (if m < P.nc then freeO i S.owners m else S.owners m)
      rw [if_pos (show m < P.nc from hm)]
end Go.Proofs.Ytonhmkllfbagmaa.Tx
