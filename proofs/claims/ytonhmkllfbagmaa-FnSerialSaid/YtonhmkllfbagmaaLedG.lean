/- Transactions: the program's ledger in memory. -/
import Derived.Test.YtonhmkllfbagmaaRunB
import Derived.Test.YtonhmkllfbagmaaIMap
import Derived.Maps.Range
import Derived.Test.YtonhmkllfbagmaaPlB
namespace Go.Proofs.Ytonhmkllfbagmaa.Tx
open Go.RowKit Go.Proofs.YtonhmkllfbagmaaW.PrintWords Go.Proofs.YtonhmkllfbagmaaW.PrintLast Go.Proofs.YtonhmkllfbagmaaW.PrintMore Go.Proofs.Ytonhmkllfbagmaa.PFnExactTxFair
set_option linter.unusedVariables false
set_option linter.unusedSimpArgs false
inductive Jx where
  | g | c | v | o | p
  | a (i : Nat)
  | s (i : Nat)
  | k (i : Nat)
deriving DecidableEq
structure LPar where
  nc : Nat
  n : Nat
  man : Int
  vC : Value
  vT : Value
  cC : Nat
  cV : Nat
  cO : Nat
  cP : Nat
/-- Where the blocks are, the events' slice; each try's start and weight as they stand in memory. -/
structure LDyn where
  blk : Jx → Nat
  V : Value
  st : Nat → Int
  wt : Nat → Int
def okJ (P : LPar) : Jx → Prop
  | .a i => i < P.n
  | .s i => i < P.n
  | .k i => i < P.n
  | _ => True
def tyJ : Jx → TypeId
  | .g => 96
  | .p => 97
  | .a _ => 100
  | _ => 3
def szJ (P : LPar) : Jx → Nat
  | .g => 9
  | .p => P.n
  | .a _ => 8
  | _ => P.nc
def gJ (P : LPar) (D : LDyn) (S : St) : Nat → Value
  | 0 => P.vC
  | 1 => .int .i64 P.man
  | 2 => P.vT
  | 3 => .slice (some ⟨D.blk .c, 0, none⟩) P.nc P.cC
  | 4 => .slice (some ⟨D.blk .v, 0, none⟩) P.nc P.cV
  | 5 => .slice (some ⟨D.blk .o, 0, none⟩) P.nc P.cO
  | 6 => .slice (some ⟨D.blk .p, 0, none⟩) P.n P.cP
  | 7 => .int .i64 S.goes
  | _ => D.V
def opA (S : St) (i : Nat) : Int := if S.begun i = true then S.at_ i else 0
def aJ (D : LDyn) (S : St) (i : Nat) : Nat → Value
  | 0 => .int .i64 (S.tx i)
  | 1 => .int .i64 (S.try_ i)
  | 2 => .int .i64 (opA S i)
  | 3 => .int .i64 (D.st i)
  | 4 => .int .i64 (D.wt i)
  | 5 => .bool (S.started i)
  | 6 => .map (some (D.blk (.s i)))
  | _ => .map (some (D.blk (.k i)))
def rowJ (P : LPar) (D : LDyn) (S : St) : Jx → Nat → Value
  | .g => gJ P D S
  | .c => fun k => .int .i64 (S.cells k)
  | .v => fun k => .int .i64 (S.vers k)
  | .o => fun k => .int .i64 (S.owners k)
  | .p => fun k => .pointer (some ⟨D.blk (.a k), 0, none⟩)
  | .a i => aJ D S i
  | _ => fun _ => undef
def seenF (nc : Nat) (S : St) (i : Nat) : Int → Option Value := fun c => if S.begun i = true ∧ 0 ≤ c ∧ c < (nc : Int) ∧ 0 ≤ S.read i c.toNat then some (.int .i64 (S.read i c.toNat)) else none
def keptF (nc : Nat) (S : St) (i : Nat) : Int → Option Value := fun c => if S.begun i = true ∧ 0 ≤ c ∧ c < (nc : Int) ∧ S.wrote i c.toNat = true then some (.int .i64 (S.kept i c.toNat)) else none
def Mp (w : World) (b : Nat) (f : Int → Option Value) : Prop := ∃ n, IM.MapIs w b n f
theorem Mp.lt {w : World} {b : Nat} {f : Int → Option Value} (h : Mp w b f) : b < w.heap.size := by obtain ⟨n, h⟩ := h; exact h.lt
theorem Mp.move {w w' : World} {b : Nat} {f : Int → Option Value} (h : Mp w b f) (hb : w'.heap[b]? = w.heap[b]?) : Mp w' b f := by obtain ⟨n, h⟩ := h; exact ⟨n, h.of_block hb⟩
def atJ (P : LPar) (D : LDyn) (S : St) (w : World) : Jx → Prop
  | .s i => Mp w (D.blk (.s i)) (seenF P.nc S i)
  | .k i => Mp w (D.blk (.k i)) (keptF P.nc S i)
  | j => Fn w (D.blk j) (tyJ j) (szJ P j) (rowJ P D S j)
def sameJ (P : LPar) (D : LDyn) (S : St) (D' : LDyn) (S' : St) : Jx → Prop
  | .s i => seenF P.nc S' i = seenF P.nc S i
  | .k i => keptF P.nc S' i = keptF P.nc S i
  | j => ∀ m, m < szJ P j → rowJ P D' S' j m = rowJ P D S j m
theorem atJ_lt {P : LPar} {D : LDyn} {S : St} {w : World} {j : Jx} (h : atJ P D S w j) : D.blk j < w.heap.size := by
  cases j with
  | s i => exact Mp.lt h
  | k i => exact Mp.lt h
  | _ => exact Fn.lt h
theorem atJ_move {P : LPar} {D D' : LDyn} {S S' : St} {w w' : World} {j : Jx} (h : atJ P D S w j) (hb : D'.blk j = D.blk j) (hw : w'.heap[D.blk j]? = w.heap[D.blk j]?) (hs : sameJ P D S D' S' j) : atJ P D' S' w' j := by
  cases j with
  | s i => 
    have h1 : Mp w (D.blk (.s i)) (seenF P.nc S i) := h
    have h2 : seenF P.nc S' i = seenF P.nc S i := hs
    show Mp w' (D'.blk (.s i)) (seenF P.nc S' i)
    rw [hb, h2]; exact h1.move hw
  | k i =>
    have h1 : Mp w (D.blk (.k i)) (keptF P.nc S i) := h
    have h2 : keptF P.nc S' i = keptF P.nc S i := hs
    show Mp w' (D'.blk (.k i)) (keptF P.nc S' i)
    rw [hb, h2]; exact h1.move hw
  | g => show Fn w' (D'.blk .g) _ _ _; rw [hb]; exact (Fn.move h hw).ext hs
  | c => show Fn w' (D'.blk .c) _ _ _; rw [hb]; exact (Fn.move h hw).ext hs
  | v => show Fn w' (D'.blk .v) _ _ _; rw [hb]; exact (Fn.move h hw).ext hs
  | o => show Fn w' (D'.blk .o) _ _ _; rw [hb]; exact (Fn.move h hw).ext hs
  | p => show Fn w' (D'.blk .p) _ _ _; rw [hb]; exact (Fn.move h hw).ext hs
  | a i => show Fn w' (D'.blk (.a i)) _ _ _; rw [hb]; exact (Fn.move h hw).ext hs
structure Led (P : LPar) (w0 w : World) (D : LDyn) (S : St) : Prop where
  at_ : ∀ j, okJ P j → atJ P D S w j
  ge : ∀ j, okJ P j → w0.heap.size ≤ D.blk j
  inj : ∀ j l, okJ P j → okJ P l → D.blk j = D.blk l → j = l
  ev : k53.R 53 w w0.heap.size (fun b => ∀ j, okJ P j → b ≠ D.blk j) D.V S.events
  sw : ∀ i, i < P.n → S.started i = true → D.st i = S.start i ∧ D.wt i = S.weight i
  below : Below w0.heap.size w0 w
/-- A block that is none of the ledger's. -/
def OutL (P : LPar) (D : LDyn) (b : Nat) : Prop := (∀ j, okJ P j → b ≠ D.blk j) ∧ some b ≠ D.V.ownBlock
def FrL (P : LPar) (w w' : World) (D D' : LDyn) : Prop := w.heap.size ≤ w'.heap.size ∧ ∀ b, b < w.heap.size → OutL P D b → OutL P D' b ∧ w'.heap[b]? = w.heap[b]?
section
variable {P : LPar} {w0 w w' : World} {D D' : LDyn} {S S' : St}
theorem FrL.refl (P : LPar) (w : World) (D : LDyn) : FrL P w w D D := ⟨Nat.le_refl _, fun _ _ h => ⟨h, rfl⟩⟩
theorem FrL.trans {w1 w2 : World} {D1 D2 : LDyn} (h : FrL P w w1 D D1) (k : FrL P w1 w2 D1 D2) : FrL P w w2 D D2 :=
  ⟨Nat.le_trans h.1 k.1, fun b hb ho => by obtain ⟨a, e⟩ := h.2 b hb ho; obtain ⟨a2, e2⟩ := k.2 b (Nat.lt_of_lt_of_le hb h.1) a; exact ⟨a2, e2.trans e⟩⟩
theorem FrL.below {w1 : World} (D : LDyn) (h : Below w.heap.size w w1) : FrL P w w1 D D := ⟨h.size, fun b hb ho => ⟨ho, h.block b hb⟩⟩
theorem Led.lt (h : Led P w0 w D S) (j : Jx) (hj : okJ P j) : D.blk j < w.heap.size := atJ_lt (h.at_ j hj)
theorem Led.ne (h : Led P w0 w D S) {j l : Jx} (hj : okJ P j) (hl : okJ P l) (hn : j ≠ l) : D.blk j ≠ D.blk l := fun e => hn (h.inj j l hj hl e)
theorem Led.Vlt (h : Led P w0 w D S) {b : Nat} (hb : D.V.ownBlock = some b) : w0.heap.size ≤ b ∧ b < w.heap.size ∧ ∀ j, okJ P j → b ≠ D.blk j := by
  have := (Kd.R_bound h.ev).1 b hb
  exact ⟨this.2.1, this.2.2.1, this.1⟩
/-- A turn of some blocks (X), each in its place or in a new one. -/
theorem Led.turn (h : Led P w0 w D S) (X : Jx → Prop) (hB : Below w0.heap.size w0 w') (hs : w.heap.size ≤ w'.heap.size) (hw : ∀ b, b < w.heap.size → (∀ j, okJ P j → X j → b ≠ D.blk j) → w'.heap[b]? = w.heap[b]?) (hV : D'.V = D.V) (hE : S'.events = S.events)
    (hX : ∀ j, okJ P j → X j → atJ P D' S' w' j ∧ (D'.blk j = D.blk j ∨ w.heap.size ≤ D'.blk j)) (hinj : ∀ j l, okJ P j → okJ P l → X j → X l → w.heap.size ≤ D'.blk j → D'.blk j = D'.blk l → j = l)
    (hN : ∀ j, okJ P j → ¬ X j → D'.blk j = D.blk j ∧ sameJ P D S D' S' j) (hsw : ∀ i, i < P.n → S'.started i = true → D'.st i = S'.start i ∧ D'.wt i = S'.weight i) :
    Led P w0 w' D' S' ∧ FrL P w w' D D' := by
  have hb : ∀ j, okJ P j → D'.blk j = D.blk j ∨ (X j ∧ w.heap.size ≤ D'.blk j) := fun j hj => by
    by_cases x : X j
    · exact (hX j hj x).2.imp id (fun e => ⟨x, e⟩)
    · exact .inl (hN j hj x).1
  refine ⟨⟨fun j hj => ?_, fun j hj => ?_, fun j l hj hl e => ?_, ?_, hsw, hB⟩, hs, fun b hlt ho => ⟨⟨fun j hj => ?_, by rw [hV]; exact ho.2⟩, hw b hlt (fun j hj _ => ho.1 j hj)⟩⟩
  · by_cases x : X j
    · exact (hX j hj x).1
    · obtain ⟨a, b⟩ := hN j hj x
      exact atJ_move (h.at_ j hj) a (hw _ (h.lt j hj) (fun l hl xl => h.ne hj hl (fun e => x (e ▸ xl)))) b
  · rcases hb j hj with e | ⟨-, e⟩
    · rw [e]; exact h.ge j hj
    · have := h.below.size; omega
  · rcases hb j hj with e1 | ⟨x1, e1⟩ <;> rcases hb l hl with e2 | ⟨x2, e2⟩
    · rw [e1, e2] at e; exact h.inj j l hj hl e
    · have := h.lt j hj; omega
    · have := h.lt l hl; omega
    · exact hinj j l hj hl x1 x2 e1 e
  · rw [hV, hE]
    refine Kd.R_mono (Kd.R_step (Kd.R_bound h.ev) (fun b hb' hlt => hw b hlt (fun j hj _ => hb'.1 j hj))) (fun b hb' j hj => ?_)
    rcases hb j hj with e | ⟨-, e⟩
    · rw [e]; exact hb'.1 j hj
    · have := hb'.2.2.1; omega
  · rcases hb j hj with e | ⟨-, e⟩
    · rw [e]; exact ho.1 j hj
    · omega
theorem Led.step (h : Led P w0 w D S) (hb : Below w.heap.size w w') : Led P w0 w' D S :=
  (h.turn (fun _ => False) (below_step h.below hb) hb.size (fun b hlt _ => hb.block b hlt) rfl rfl (fun _ _ x => x.elim) (fun _ _ _ _ x => x.elim) (fun j hj _ => ⟨rfl, by cases j <;> first | rfl | exact fun _ _ => rfl⟩) h.sw).1
/-- One store into a cell. -/
theorem Led.cell (h : Led P w0 w D S) (i : Jx) (hi : okJ P i) (k : Nat) (v : Value) (hb : D'.blk = D.blk) (hV : D'.V = D.V) (hE : S'.events = S.events) (hx : atJ P D' S' (w.setCell ⟨D.blk i, k, none⟩ v) i)
    (hN : ∀ j, okJ P j → j ≠ i → sameJ P D S D' S' j) (hsw : ∀ i, i < P.n → S'.started i = true → D'.st i = S'.start i ∧ D'.wt i = S'.weight i) : Led P w0 (w.setCell ⟨D.blk i, k, none⟩ v) D' S' ∧ FrL P w (w.setCell ⟨D.blk i, k, none⟩ v) D D' :=
  h.turn (fun j => j = i) (h.below.setCell (p := ⟨D.blk i, k, none⟩) (h.ge i hi) v) (by simp [World.setCell]) (fun b hlt hn => Below.heap_setCell w _ v b (hn i hi rfl)) hV hE (fun j hj e => by subst e; exact ⟨hx, .inl (by rw [hb])⟩)
    (fun j l _ _ e1 e2 _ _ => e1.trans e2.symm) (fun j hj e => ⟨by rw [hb], hN j hj e⟩) hsw
theorem Led.fresh (h : Led P w0 w D S) (b : Nat) (hb : w.heap.size ≤ b) : OutL P D b :=
  ⟨fun j hj e => by have := h.lt j hj; omega, fun e => by have := (h.Vlt e.symm).2.1; omega⟩
theorem Led.g (h : Led P w0 w D S) (k : Nat) (hk : k < 9) : w.cell? ⟨D.blk .g, k, none⟩ = some (gJ P D S k) := Fn.cell (h.at_ .g trivial) k hk
theorem Led.c (h : Led P w0 w D S) (k : Nat) (hk : k < P.nc) : w.cell? ⟨D.blk .c, k, none⟩ = some (.int .i64 (S.cells k)) := Fn.cell (h.at_ .c trivial) k hk
theorem Led.v (h : Led P w0 w D S) (k : Nat) (hk : k < P.nc) : w.cell? ⟨D.blk .v, k, none⟩ = some (.int .i64 (S.vers k)) := Fn.cell (h.at_ .v trivial) k hk
theorem Led.o (h : Led P w0 w D S) (k : Nat) (hk : k < P.nc) : w.cell? ⟨D.blk .o, k, none⟩ = some (.int .i64 (S.owners k)) := Fn.cell (h.at_ .o trivial) k hk
theorem Led.p (h : Led P w0 w D S) (k : Nat) (hk : k < P.n) : w.cell? ⟨D.blk .p, k, none⟩ = some (.pointer (some ⟨D.blk (.a k), 0, none⟩)) := Fn.cell (h.at_ .p trivial) k hk
theorem Led.a (h : Led P w0 w D S) (i : Nat) (hi : i < P.n) (f : Nat) (hf : f < 8) : w.cell? ⟨D.blk (.a i), f, none⟩ = some (aJ D S i f) := Fn.cell (h.at_ (.a i) hi) f hf
theorem Led.s (h : Led P w0 w D S) (i : Nat) (hi : i < P.n) : Mp w (D.blk (.s i)) (seenF P.nc S i) := h.at_ (.s i) hi
theorem Led.k (h : Led P w0 w D S) (i : Nat) (hi : i < P.n) : Mp w (D.blk (.k i)) (keptF P.nc S i) := h.at_ (.k i) hi
theorem Led.thawG (h : Led P w0 w D S) (k : Nat) : w.frozen? ⟨D.blk .g, k, none⟩ = false := Fn.thaw (h.at_ .g trivial) k
theorem Led.thawC (h : Led P w0 w D S) (k : Nat) : w.frozen? ⟨D.blk .c, k, none⟩ = false := Fn.thaw (h.at_ .c trivial) k
theorem Led.thawV (h : Led P w0 w D S) (k : Nat) : w.frozen? ⟨D.blk .v, k, none⟩ = false := Fn.thaw (h.at_ .v trivial) k
theorem Led.thawO (h : Led P w0 w D S) (k : Nat) : w.frozen? ⟨D.blk .o, k, none⟩ = false := Fn.thaw (h.at_ .o trivial) k
theorem Led.thawA (h : Led P w0 w D S) (i : Nat) (hi : i < P.n) (k : Nat) : w.frozen? ⟨D.blk (.a i), k, none⟩ = false := Fn.thaw (h.at_ (.a i) hi) k
end
/-! range over a map -/
/-- 'for k, v := range m' under way: block b is a map that holds f, block r an iterator over it; left says what is still to come, cnt how many. -/
def Rng (w : World) (b r : Nat) (f : Int → Option Value) (left : Int → Bool) (cnt : Nat) : Prop :=
  ∃ es clock since seen c0, w.heap[b]? = some (.map es clock) ∧ MapKept.Stamped es clock ∧ w.heap[r]? = some (.mapIter (some b) since seen c0) ∧ (∀ x ∈ es.toList, x.born < since) ∧ since ≤ c0 ∧ since ≤ clock ∧ (leftOf es seen).size = cnt ∧
    (∀ e ∈ es.toList, ∃ k, e.key = .int .i64 k ∧ f k = some e.val ∧ left k = !seen.contains e.born) ∧ (∀ k, left k = true → ∃ e ∈ es.toList, e.key = .int .i64 k)
theorem Rng.kept {w w' : World} {b r : Nat} {f : Int → Option Value} {left : Int → Bool} {cnt : Nat} (h : Rng w b r f left cnt) (hb : w'.heap[b]? = w.heap[b]?) (hr : w'.heap[r]? = w.heap[r]?) : Rng w' b r f left cnt := by
  obtain ⟨es, clock, since, seen, c0, h1, h2, h3, r⟩ := h
  exact ⟨es, clock, since, seen, c0, hb.trans h1, h2, hr.trans h3, r⟩
theorem Rng.lt {w : World} {b r : Nat} {f : Int → Option Value} {left : Int → Bool} {cnt : Nat} (h : Rng w b r f left cnt) : r < w.heap.size := by
  obtain ⟨es, clock, since, seen, c0, h1, h2, h3, _⟩ := h
  exact (Array.getElem?_eq_some_iff.1 h3).1
/-- How many are still to come, read off the world: a measure. -/
def rngLeft (w : World) (b r : Nat) : Nat :=
  match w.heap[b]?, w.heap[r]? with
  | some (.map es _), some (.mapIter _ _ seen _) => (leftOf es seen).size
  | _, _ => 0
theorem Rng.left_eq {w : World} {b r : Nat} {f : Int → Option Value} {left : Int → Bool} {cnt : Nat} (h : Rng w b r f left cnt) : rngLeft w b r = cnt := by
  obtain ⟨es, clock, since, seen, c0, h1, h2, h3, _, _, _, h4, _⟩ := h
  simp only [rngLeft, h1, h3]
  exact h4
theorem Mp.range {P : Program} {w : World} {b : Nat} {f : Int → Option Value} (h : Mp w b f) {t k e : TypeId} (ht : P.underlying t = some (.map k e)) :
    ∃ w' cnt, (Instr.range t (.map (some b))).run P w = .ok (.pointer (some ⟨w.heap.size, 0, none⟩)) w' ∧ Rng w' b w.heap.size f (fun x => (f x).isSome) cnt ∧ Below w.heap.size w w' ∧ w'.heap.size = w.heap.size + 1 := by
  obtain ⟨n, es, clock, hb, hst, _, h1, h2⟩ := h
  have hlt : b < w.heap.size := (Array.getElem?_eq_some_iff.1 hb).1
  refine ⟨_, _, run_range_map w t k e b es clock ht hb, ⟨es, clock, clock, #[], clock, (heap_alloc_old w _ hlt).trans hb, hst, heap_alloc_new w _, hst.1, Nat.le_refl _, Nat.le_refl _, rfl, ?_, ?_⟩, below_alloc (Below.refl _ _) _, by simp⟩
  · intro x hx
    obtain ⟨k', hk, hf⟩ := h1 x hx
    refine ⟨k', hk, hf, ?_⟩
    show (f k').isSome = _
    rw [hf]; simp
  · intro k' hk
    obtain ⟨v, hv⟩ := Option.isSome_iff_exists.1 hk
    obtain ⟨x, hx, hxk, _⟩ := h2 k' v hv
    exact ⟨x, hx, hxk⟩
theorem Rng.next {P : Program} {w : World} {b r : Nat} {f : Int → Option Value} {left : Int → Bool} {cnt : Nat} (h : Rng w b r f left cnt) (ty : TypeId) :
    (cnt = 0 ∧ (∀ k, left k = false) ∧ (Instr.next (.pointer (some ⟨r, 0, none⟩)) false ty).run P w = .ok (.tuple #[.bool false]) w) ∨
    ∃ k v w' cnt', left k = true ∧ f k = some v ∧ (Instr.next (.pointer (some ⟨r, 0, none⟩)) false ty).run P w = .ok (.tuple #[.bool true, .int .i64 k, v]) w' ∧
      Rng w' b r f (fun x => left x && !(x == k)) cnt' ∧ cnt' < cnt ∧ w'.heap.size = w.heap.size ∧ (∀ c, c ≠ r → w'.heap[c]? = w.heap[c]?) ∧ w.grownBy w' (some r) ∧ (Instr.entry (.pointer (some ⟨r, 0, none⟩))).run P w' = .ok (.tuple #[.int .i64 k, v]) w' := by
  obtain ⟨es, clock, since, seen, c0, hb, hst, hr, hold, hsc, hsk, rfl, h1, h2⟩ := h
  have hne : r ≠ b := by
    intro e
    rw [e, hb] at hr
    cases hr
  rcases run_next_at (P := P) w ty r b since c0 seen es clock hr hb hold hsc with ⟨h0, hrun⟩ | ⟨e, he, w1, hal, hrun⟩
  · refine .inl ⟨h0, fun k => ?_, hrun⟩
    cases hk : left k with
    | false => rfl
    | true =>
      obtain ⟨x, hx, hxk⟩ := h2 k hk
      obtain ⟨k', hk', _, hl⟩ := h1 x hx
      rw [hxk] at hk'
      injection hk' with _ hk'
      subst hk'
      rw [hl, all_seen es seen h0 x hx] at hk
      cases hk
  · obtain ⟨hem, hes⟩ := mem_left he
    obtain ⟨k, hk, hf, hl⟩ := h1 e hem
    have hr1 : w1.heap[r]? = some (.mapIter (some b) since seen c0) := by rcases hal with rfl | rfl <;> exact hr
    have hb1 : w1.heap[b]? = some (.map es clock) := by rcases hal with rfl | rfl <;> exact hb
    have hset := MapKept.heap_set (o' := .mapIter (some b) since (seen.push e.born) clock) hr1
    have hb' : (ChangeMaps.setBlock w1 r (.mapIter (some b) since (seen.push e.born) clock)).heap[b]? = some (.map es clock) := (hset.2 b (fun e1 => hne e1.symm)).trans hb1
    rw [hk] at hrun
    have hkey : ∀ x ∈ es.toList, x.key = .int .i64 k → x = e := fun x hx hxk => entry_eq_of_key ((MapKept.stamped_iff es clock).1 hst).2.2 hx hem (hxk.trans hk.symm)
    refine .inr ⟨k, e.val, _, _, by rw [hl, hes]; rfl, hf, hrun, ⟨es, clock, since, seen.push e.born, clock, hb', hst, hset.1, hold, hsk, hsk, rfl, fun x hx => ?_, fun k' hk' => h2 k' (by simp at hk'; exact hk'.1)⟩, left_shrinks es seen e he, ?_, fun c hc => ?_, ?_, ?_⟩
    · obtain ⟨k', hk2, hf2, hl2⟩ := h1 x hx
      refine ⟨k', hk2, hf2, ?_⟩
      rw [contains_push]
      by_cases ek : k' = k
      · subst ek
        have := hkey x hx hk2
        subst this
        simp
      · have hbn : (x.born == e.born) = false := by
          rw [beq_eq_false_iff_ne]
          intro hbb
          have := born_inj hst.2.1 hx hem hbb
          subst this
          rw [hk] at hk2
          injection hk2 with _ hk2
          exact ek hk2.symm
        show (left k' && !(k' == k)) = _
        rw [hl2, hbn]
        simp [ek]
    · rcases hal with rfl | rfl <;> simp [ChangeMaps.setBlock]
    · rcases hal with rfl | rfl <;> exact hset.2 c (fun e1 => hc e1)
    · rcases hal with rfl | rfl <;> exact ⟨rfl, rfl, rfl, by simp [ChangeMaps.setBlock], fun i _ hi => hset.2 i (fun e1 => hi (by rw [e1]))⟩
    · have := run_entry_at (P := P) _ r b since seen es clock e hset.1 hb' hem hst.2.1
      rw [hk] at this
      exact this
end Go.Proofs.Ytonhmkllfbagmaa.Tx
/- Transactions: the ledger's free and say. -/
namespace Go.Proofs.Ytonhmkllfbagmaa.Tx
open Go.RowKit Go.Proofs.YtonhmkllfbagmaaW.PrintWords Go.Proofs.YtonhmkllfbagmaaW.PrintLast Go.Proofs.YtonhmkllfbagmaaW.PrintMore Go.Proofs.Ytonhmkllfbagmaa.PFnExactTxFair
set_option linter.unusedVariables false
set_option linter.unusedSimpArgs false
section
variable {P : LPar} {w0 w : World} {D : LDyn} {S : St}
/-- Owners alone have turned, one of them in memory. -/
theorem Led.setO (h : Led P w0 w D S) (k : Nat) (hk : k < P.nc) (x : Int) (f : Nat → Int) (h1 : f k = x) (h2 : ∀ m, m < P.nc → m ≠ k → f m = S.owners m) : Led P w0 (w.setCell ⟨D.blk .o, k, none⟩ (.int .i64 x)) D { S with owners := f } ∧ FrL P w (w.setCell ⟨D.blk .o, k, none⟩ (.int .i64 x)) D D := by
  refine h.cell .o trivial k _ rfl rfl rfl ?_ ?_ h.sw
  · exact Fn.set (h.at_ .o trivial) k hk _ (by show Value.int .i64 (f k) = _; rw [h1]) (fun m hm hne => by show Value.int .i64 (f m) = Value.int .i64 (S.owners m); rw [h2 m hm hne])
  · intro j hj hne
    cases j <;> first | exact absurd rfl hne | rfl | exact fun _ _ => rfl
/-- Nothing in memory turns. -/
theorem Led.same (h : Led P w0 w D S) (S' : St) (hE : S'.events = S.events) (hN : ∀ j, okJ P j → sameJ P D S D S' j) (hsw : ∀ i, i < P.n → S'.started i = true → D.st i = S'.start i ∧ D.wt i = S'.weight i) : Led P w0 w D S' :=
  (h.turn (fun _ => False) h.below (Nat.le_refl _) (fun _ _ _ => rfl) rfl hE (fun _ _ x => x.elim) (fun _ _ _ _ x => x.elim) (fun j hj _ => ⟨rfl, hN j hj⟩) hsw).1
end
set_option maxHeartbeats 8000000 in
set_option maxRecDepth 100000 in
theorem freeL (P : LPar) (w0 w : World) (D : LDyn) (S : St) (i : Nat) (h : Led P w0 w D S) (hnc : P.nc ≤ 1000) :
    Calls Try.prog 64 #[.pointer (some ⟨D.blk .g, 0, none⟩), .int .i64 (i : Int)] w fun e w' => e = .returned (.tuple #[]) ∧ Led P w0 w' D (free S i) ∧ FrL P w w' D D := by
  have g5 := h.g 5 (by decide)
  simp only [gJ] at g5
  have H := Lib.hid h
  clear h
  go_enter Try.func64, Try.ntmps64
  go_wp2_with fail
  go_loopw [11] (fun iv wr => ∃ x : Nat, x ≤ P.nc ∧ iv = .int .i64 (x : Int) ∧ Led P w0 wr D { S with owners := fun c => if c < x then freeO i S.owners c else S.owners c } ∧ FrL P w wr D D) (fun iv _ => P.nc - (intOf iv).toNat)
  case atStart => exact ⟨0, Nat.zero_le _, rfl, by simpa using H.out, FrL.refl P w D⟩
  case round =>
    clear H g5
    obtain ⟨x, hx, rfl, hR, hFr⟩ := hrel
    have H := Lib.hid hR
    have FR := Lib.hid hFr
    clear hR hFr
    have g5 := H.out.g 5 (by decide)
    simp only [gJ] at g5
    by_cases hlt : x < P.nc
    · have q0 := decide_eq_true (show (x : Int) < (P.nc : Int) by omega)
      have hxn := eq_true (show (x : Int) < (P.nc : Int) by omega)
      have o1 := H.out.o x hlt
      have f1 := H.out.thawO x
      simp only [if_neg (Nat.lt_irrefl x)] at o1
      have p1 : IntKind.wrap .i64 ((x : Int) + 1) = (x : Int) + 1 := by rw [i64_w]; unfold wrap64; omega
      have nxt : ∀ wr', Led P w0 wr' D { S with owners := fun c => if c < x + 1 then freeO i S.owners c else S.owners c } → FrL P w wr' D D → ∃ y : Nat, y ≤ P.nc ∧ Value.int .i64 ((x : Int) + 1) = .int .i64 (y : Int) ∧ Led P w0 wr' D { S with owners := fun c => if c < y then freeO i S.owners c else S.owners c } ∧ FrL P w wr' D D := fun wr' hh hf => ⟨x + 1, hlt, rfl, hh, hf⟩
      rcases hk : (S.owners x == (i : Int)) with _ | _
      · have hne : ¬ S.owners x = (i : Int) := by simpa using hk
        have hR2 : Led P w0 wr D { S with owners := fun c => if c < x + 1 then freeO i S.owners c else S.owners c } := by
          have e : (fun c => if c < x + 1 then freeO i S.owners c else S.owners c) = (fun c => if c < x then freeO i S.owners c else S.owners c) := by
            funext c
            by_cases h1 : c = x
            · subst h1; rw [if_pos (by omega), if_neg (by omega)]; unfold freeO; rw [if_neg hne]
            · by_cases h2 : c < x
              · rw [if_pos (by omega), if_pos h2]
              · rw [if_neg (by omega), if_neg h2]
          rw [e]
          exact H.out
        have H2 := Lib.hid hR2
        clear hR2
        go_wp2_with fail
        go_roundw
        case measure => simp [intOf]; omega
        case rel => exact nxt _ H2.out FR.out
      · have hS := H.out.setO x hlt (-1) (fun c => if c < x + 1 then freeO i S.owners c else S.owners c) (by rw [if_pos (by omega)]; unfold freeO; rw [if_pos (by simpa using hk)]) (fun m hm hne => by
          show _ = (if m < x then freeO i S.owners m else S.owners m)
          by_cases h2 : m < x
          · rw [if_pos (by omega), if_pos h2]
          · rw [if_neg (by omega), if_neg h2])
        have H2 := Lib.hid hS
        clear hS
        go_wp2_with fail
        go_roundw
        case measure => simp [intOf]; omega
        case rel => exact nxt _ H2.out.1 (FR.out.trans H2.out.2)
    · have q0 := decide_eq_false (show ¬ (x : Int) < (P.nc : Int) by omega)
      obtain rfl : x = P.nc := by omega
      go_wp2_with fail
      go_end0
      refine ⟨rfl, ?_, FR.out⟩
      refine H.out.same _ rfl (fun j hj => ?_) H.out.sw
      cases j <;> try first | rfl | exact fun _ _ => rfl
      intro m hm
      show Value.int .i64 (freeO i S.owners m) = Value.int .i64 (if m < P.nc then freeO i S.owners m else S.owners m)
      rw [if_pos (show m < P.nc from hm)]
theorem Led.ev_set {P : LPar} {w0 w w' : World} {D : LDyn} {S : St} {V : Value} {evs : List S53} (h : Led P w0 w D S) (hr : k53.R 53 w' w0.heap.size (fun b => ∀ j, okJ P j → b ≠ D.blk j) V evs) (hg : w.grownBy w' D.V.ownBlock) (hB : Below w0.heap.size w0 w') (ha : V.ownBlock = D.V.ownBlock ∨ ∃ b, V.ownBlock = some b ∧ w.heap.size ≤ b) :
    Led P w0 (w'.setCell ⟨D.blk .g, 8, none⟩ V) { D with V := V } { S with events := evs } ∧ FrL P w (w'.setCell ⟨D.blk .g, 8, none⟩ V) D { D with V := V } := by
  have hm : ∀ j, okJ P j → w'.heap[D.blk j]? = w.heap[D.blk j]? := fun j hj => hg.block _ (h.lt j hj) (fun e => (h.Vlt e.symm).2.2 j hj rfl)
  have hgl := h.lt .g trivial
  refine ⟨⟨fun j hj => ?_, h.ge, h.inj, Kd.R_step hr (fun b hb hlt => Below.heap_setCell w' _ V b (hb .g trivial)), h.sw, hB.setCell (p := ⟨D.blk .g, 8, none⟩) (h.ge .g trivial) V⟩, Nat.le_trans hg.size (by simp [World.setCell]), fun b hb ho => ⟨⟨ho.1, ?_⟩, ?_⟩⟩
  · by_cases e : j = .g
    · subst e
      refine Fn.set (Fn.move (h.at_ .g trivial) (hm .g trivial)) 8 (show 8 < 9 by decide) V rfl (fun m hm hne => ?_)
      show gJ P { D with V := V } { S with events := evs } m = gJ P D S m
      match m with
      | 0 | 1 | 2 | 3 | 4 | 5 | 6 | 7 => rfl
      | 8 => exact absurd rfl hne
      | m + 9 => exact absurd hm (by show ¬ m + 9 < 9; omega)
    · refine atJ_move (h.at_ j hj) rfl ((Below.heap_setCell w' _ V _ (h.ne (l := .g) hj trivial e)).trans (hm j hj)) ?_
      cases j <;> first | exact absurd rfl e | rfl | exact fun _ _ => rfl
  · show some b ≠ V.ownBlock
    rcases ha with e | ⟨b2, e, hb2⟩
    · rw [e]; exact ho.2
    · rw [e]
      intro hh
      injection hh with hh
      omega
  · exact (Below.heap_setCell w' _ _ b (ho.1 .g trivial)).trans (hg.block b hb ho.2)
set_option maxHeartbeats 8000000 in
set_option maxRecDepth 100000 in
theorem sayL (P : LPar) (w0 w : World) (D : LDyn) (S : St) (i : Nat) (op cell num : Int) (h : Led P w0 w D S) (hi : i < P.n) (hn : P.n ≤ 1000) (hl : S.events.length ≤ 100000) :
    Calls Try.prog 65 #[.pointer (some ⟨D.blk .g, 0, none⟩), .int .i64 (i : Int), .int .i64 op, .int .i64 cell, .int .i64 num] w fun e w' => e = .returned (.tuple #[]) ∧ ∃ V, Led P w0 w' { D with V := V } (event S i op cell num) ∧ FrL P w w' D { D with V := V } := by
  obtain ⟨Ao, co, eO, hco, hro⟩ := Kd.R_reads h.ev
  have H := Lib.hid h
  have g6 := h.g 6 (by decide); have g8 := h.g 8 (by decide)
  have pi := h.p i hi
  have a0 := h.a i hi 0 (by decide); have a1 := h.a i hi 1 (by decide)
  simp only [gJ, aJ, eO] at g6 g8 a0 a1
  clear h hro
  go_enter Try.func65, Try.ntmps65
  have hin := eq_true (show (i : Int) < (P.n : Int) by omega)
  go_wp2_with fail
  have O := Lib.hid (show k53.R 53 w.drew w0.heap.size (fun b => ∀ j, okJ P j → b ≠ D.blk j) (.slice Ao S.events.length co) S.events by rw [← eO]; exact H.out.ev)
  have B := Lib.hid (show Below w0.heap.size w0 w.drew from below_drew1 H.out.below)
  have u0 : w.drew.cell? ⟨D.blk .g, 8, none⟩ = some (.slice Ao S.events.length co) := g8
  have u1 : w.drew.cell? ⟨D.blk (.a i), 0, none⟩ = some (.int .i64 (S.tx i)) := a0
  have u2 : w.drew.cell? ⟨D.blk (.a i), 1, none⟩ = some (.int .i64 (S.try_ i)) := a1
  have hbz := B.out.size
  have hlt1 : D.blk .g < w.drew.heap.size := H.out.lt .g trivial
  have hlt2 : D.blk (.a i) < w.drew.heap.size := H.out.lt (.a i) hi
  have hab := (Below.refl w.drew.heap.size w.drew).alloc (o := .cells #[.int .i64 (i : Int), .int .i64 (S.tx i), .int .i64 (S.try_ i), .int .i64 op, .int .i64 cell, .int .i64 num] 53) (Nat.le_refl _)
  have HD := Lib.hid (H.out.step (below_drew1 (Below.refl _ w)))
  clear g6 g8 a0 a1 pi
  refine start_ (n := 23) (S := fun w' => w'.cell? ⟨D.blk .g, 8, none⟩ = some (.slice Ao S.events.length co) ∧ w'.cell? ⟨D.blk (.a i), 0, none⟩ = some (.int .i64 (S.tx i)) ∧ w'.cell? ⟨D.blk (.a i), 1, none⟩ = some (.int .i64 (S.try_ i))) (ds := [22]) #[false, false, false, false, false, false, false, false, false, false, false, false, false, false, false, false, false, false, false, false, false, false, false] (by kernel_rfl) rfl rfl ⟨u0, u1, u2⟩ (fun hHeld => ?_)
  refine pure_ (i := 0) (N := some 18) (v := ?_) (a' := ?_) #[true, false, false, false, false, false, false, false, false, false, false, false, false, false, false, false, false, false, false, false, false, false, false] rfl rfl (by kernel_rfl) (fun _ _ _ h => h) (Or.inl ⟨by rfl, ?_⟩) ?_ ?_
  rotate_left
  · intro w'
    go_simp
    with_reducible rfl
  rotate_left
  · simp only [Act.put, List.setIfInBounds_toArray, List.set_cons_zero, List.set_cons_succ, i64_w, i32_w]
    rfl
  refine pure_ (i := 1) (N := some 19) (v := ?_) (a' := ?_) #[true, true, false, false, false, false, false, false, false, false, false, false, false, false, false, false, false, false, false, false, false, false, false] rfl rfl (by kernel_rfl) (fun _ _ _ h => h) (Or.inl ⟨by rfl, ?_⟩) ?_ ?_
  rotate_left
  · intro w'
    go_simp
    with_reducible rfl
  rotate_left
  · simp only [Act.put, List.setIfInBounds_toArray, List.set_cons_zero, List.set_cons_succ, i64_w, i32_w]
    rfl
  refine pure_ (i := 2) (N := some 20) (v := ?_) (a' := ?_) #[true, true, true, false, false, false, false, false, false, false, false, false, false, false, false, false, false, false, false, false, false, false, false] rfl rfl (by kernel_rfl) (fun _ _ _ h => h) (Or.inl ⟨by rfl, ?_⟩) ?_ ?_
  rotate_left
  · intro w'
    go_simp
    with_reducible rfl
  rotate_left
  · simp only [Act.put, List.setIfInBounds_toArray, List.set_cons_zero, List.set_cons_succ, i64_w, i32_w]
    rfl
  refine pure_ (i := 3) (N := some 21) (v := ?_) (a' := ?_) #[true, true, true, true, false, false, false, false, false, false, false, false, false, false, false, false, false, false, false, false, false, false, false] rfl rfl (by kernel_rfl) (fun _ _ _ h => h) (Or.inl ⟨by rfl, ?_⟩) ?_ ?_
  rotate_left
  · intro w'
    go_simp
    with_reducible rfl
  rotate_left
  · simp only [Act.put, List.setIfInBounds_toArray, List.set_cons_zero, List.set_cons_succ, i64_w, i32_w]
    rfl
  refine pure_ (i := 5) (N := some 23) (v := ?_) (a' := ?_) #[true, true, true, true, false, true, false, false, false, false, false, false, false, false, false, false, false, false, false, false, false, false, false] rfl rfl (by kernel_rfl) (fun _ _ _ h => h) (Or.inl ⟨by rfl, ?_⟩) ?_ ?_
  rotate_left
  · intro w'
    go_simp
    with_reducible rfl
  rotate_left
  · simp only [Act.put, List.setIfInBounds_toArray, List.set_cons_zero, List.set_cons_succ, i64_w, i32_w]
    rfl
  refine pure_ (i := 6) (N := some 24) (v := ?_) (a' := ?_) #[true, true, true, true, false, true, true, false, false, false, false, false, false, false, false, false, false, false, false, false, false, false, false] rfl rfl (by kernel_rfl) (fun _ _ _ h => h) (Or.inl ⟨by rfl, ?_⟩) ?_ ?_
  rotate_left
  · intro w'
    go_simp
    with_reducible rfl
  rotate_left
  · simp only [Act.put, List.setIfInBounds_toArray, List.set_cons_zero, List.set_cons_succ, i64_w, i32_w]
    rfl
  refine pure_ (i := 7) (N := some 25) (v := ?_) (a' := ?_) #[true, true, true, true, false, true, true, true, false, false, false, false, false, false, false, false, false, false, false, false, false, false, false] rfl rfl (by kernel_rfl) (fun _ _ _ h => h) (Or.inl ⟨by rfl, ?_⟩) ?_ ?_
  rotate_left
  · intro w'
    go_simp
    with_reducible rfl
  rotate_left
  · simp only [Act.put, List.setIfInBounds_toArray, List.set_cons_zero, List.set_cons_succ, i64_w, i32_w]
    rfl
  refine pure_ (i := 8) (N := some 26) (v := ?_) (a' := ?_) #[true, true, true, true, false, true, true, true, true, false, false, false, false, false, false, false, false, false, false, false, false, false, false] rfl rfl (by kernel_rfl) (fun _ _ _ h => h) (Or.inl ⟨by rfl, ?_⟩) ?_ ?_
  rotate_left
  · intro w'
    go_simp
    with_reducible rfl
  rotate_left
  · simp only [Act.put, List.setIfInBounds_toArray, List.set_cons_zero, List.set_cons_succ, i64_w, i32_w]
    rfl
  refine pure_ (i := 10) (N := some 28) (v := ?_) (a' := ?_) #[true, true, true, true, false, true, true, true, true, false, true, false, false, false, false, false, false, false, false, false, false, false, false] rfl rfl (by kernel_rfl) (fun _ _ _ h => h) (Or.inl ⟨by rfl, ?_⟩) ?_ ?_
  rotate_left
  · intro w'
    go_simp
    with_reducible rfl
  rotate_left
  · simp only [Act.put, List.setIfInBounds_toArray, List.set_cons_zero, List.set_cons_succ, i64_w, i32_w]
    rfl
  refine pure_ (i := 11) (N := some 29) (v := ?_) (a' := ?_) #[true, true, true, true, false, true, true, true, true, false, true, true, false, false, false, false, false, false, false, false, false, false, false] rfl rfl (by kernel_rfl) (fun _ _ _ h => h) (Or.inl ⟨by rfl, ?_⟩) ?_ ?_
  rotate_left
  · intro w'
    go_simp
    with_reducible rfl
  rotate_left
  · simp only [Act.put, List.setIfInBounds_toArray, List.set_cons_zero, List.set_cons_succ, i64_w, i32_w]
    rfl
  refine pure_ (i := 12) (N := some 30) (v := ?_) (a' := ?_) #[true, true, true, true, false, true, true, true, true, false, true, true, true, false, false, false, false, false, false, false, false, false, false] rfl rfl (by kernel_rfl) (fun _ _ _ h => h) (Or.inl ⟨by rfl, ?_⟩) ?_ ?_
  rotate_left
  · intro w'
    go_simp
    with_reducible rfl
  rotate_left
  · simp only [Act.put, List.setIfInBounds_toArray, List.set_cons_zero, List.set_cons_succ, i64_w, i32_w]
    rfl
  refine pure_ (i := 14) (N := some 32) (v := ?_) (a' := ?_) #[true, true, true, true, false, true, true, true, true, false, true, true, true, false, true, false, false, false, false, false, false, false, false] rfl rfl (by kernel_rfl) (fun _ _ _ h => h) (Or.inl ⟨by rfl, ?_⟩) ?_ ?_
  rotate_left
  · intro w'
    go_simp
    with_reducible rfl
  rotate_left
  · simp only [Act.put, List.setIfInBounds_toArray, List.set_cons_zero, List.set_cons_succ, i64_w, i32_w]
    rfl
  refine pure_ (i := 15) (N := some 33) (v := ?_) (a' := ?_) #[true, true, true, true, false, true, true, true, true, false, true, true, true, false, true, true, false, false, false, false, false, false, false] rfl rfl (by kernel_rfl) (fun _ _ _ h => h) (Or.inl ⟨by rfl, ?_⟩) ?_ ?_
  rotate_left
  · intro w'
    go_simp
    with_reducible rfl
  rotate_left
  · simp only [Act.put, List.setIfInBounds_toArray, List.set_cons_zero, List.set_cons_succ, i64_w, i32_w]
    rfl
  refine pure_ (i := 16) (N := some 34) (v := ?_) (a' := ?_) #[true, true, true, true, false, true, true, true, true, false, true, true, true, false, true, true, true, false, false, false, false, false, false] rfl rfl (by kernel_rfl) (fun _ _ _ h => h) (Or.inl ⟨by rfl, ?_⟩) ?_ ?_
  rotate_left
  · intro w'
    go_simp
    with_reducible rfl
  rotate_left
  · simp only [Act.put, List.setIfInBounds_toArray, List.set_cons_zero, List.set_cons_succ, i64_w, i32_w]
    rfl
  refine take_ (i := 4) (N := some 22) (v := ?_) (a' := ?_) #[true, true, true, true, true, true, true, true, true, false, true, true, true, false, true, true, true, false, false, false, false, false, false] rfl rfl (by kernel_rfl) (fun _ _ _ h => h) (Or.inl ⟨by rfl, ?_⟩) hHeld ?_ ?_
  rotate_left
  · rintro w' ⟨s0, s1, s2⟩
    go_simp
    with_reducible rfl
  rotate_left
  · simp only [Act.put, List.setIfInBounds_toArray, List.set_cons_zero, List.set_cons_succ, i64_w, i32_w]
    rfl
  refine take_ (i := 9) (N := some 27) (v := ?_) (a' := ?_) #[true, true, true, true, true, true, true, true, true, true, true, true, true, false, true, true, true, false, false, false, false, false, false] rfl rfl (by kernel_rfl) (fun _ _ _ h => h) (Or.inl ⟨by rfl, ?_⟩) hHeld ?_ ?_
  rotate_left
  · rintro w' ⟨s0, s1, s2⟩
    go_simp
    with_reducible rfl
  rotate_left
  · simp only [Act.put, List.setIfInBounds_toArray, List.set_cons_zero, List.set_cons_succ, i64_w, i32_w]
    rfl
  refine take_ (i := 13) (N := some 31) (v := ?_) (a' := ?_) #[true, true, true, true, true, true, true, true, true, true, true, true, true, true, true, true, true, false, false, false, false, false, false] rfl rfl (by kernel_rfl) (fun _ _ _ h => h) (Or.inl ⟨by rfl, ?_⟩) hHeld ?_ ?_
  rotate_left
  · rintro w' ⟨s0, s1, s2⟩
    go_simp
    with_reducible rfl
  rotate_left
  · simp only [Act.put, List.setIfInBounds_toArray, List.set_cons_zero, List.set_cons_succ, i64_w, i32_w]
    rfl
  refine pure_ (i := 17) (N := some 35) (v := ?_) (a' := ?_) #[true, true, true, true, true, true, true, true, true, true, true, true, true, true, true, true, true, true, false, false, false, false, false] rfl rfl (by kernel_rfl) (fun _ _ _ h => h) (Or.inl ⟨by rfl, ?_⟩) ?_ ?_
  rotate_left
  · intro w'
    go_simp
    with_reducible rfl
  rotate_left
  · simp only [Act.put, List.setIfInBounds_toArray, List.set_cons_zero, List.set_cons_succ, i64_w, i32_w]
    rfl
  refine one_ (i := 18) (N := some 36) #[true, true, true, true, true, true, true, true, true, true, true, true, true, true, true, true, true, true, true, false, false, false, false] rfl rfl (by kernel_rfl) (by decide) (fun K hK => ?_)
  refine value_ (w1 := ?_) (v := ?_) (by rfl) rfl ?_ ?_
  rotate_left 2
  · go_simp
    constructor
    · rfl
    · rfl
  refine hK.out _ _ ⟨(hab.cell (p := ⟨D.blk .g, 8, none⟩) hlt1).trans u0, (hab.cell (p := ⟨D.blk (.a i), 0, none⟩) hlt2).trans u1, (hab.cell (p := ⟨D.blk (.a i), 1, none⟩) hlt2).trans u2⟩ (fun hHeld => ?_)
  clear hK K
  refine norm_ (a' := ?_) ?_ ?_
  rotate_left
  · show Act.put _ (some 36) _ = _
    simp only [Act.put, List.setIfInBounds_toArray, List.set_cons_zero, List.set_cons_succ, i64_w, i32_w]
    rfl
  refine one_ (i := 19) (N := some 37) #[true, true, true, true, true, true, true, true, true, true, true, true, true, true, true, true, true, true, true, true, false, false, false] rfl rfl (by kernel_rfl) (by decide) (fun K hK => ?_)
  refine Kd.R_append_step k53 (w0 := w0) w0.heap.size (by rfl) (.tmp 22) (.tmp 36) 41 53 (.agg #[.int .i64 0, .int .i64 0, .int .i64 0, .int .i64 0, .int .i64 0, .int .i64 0]) 48 rfl Try.underlying41 evInfo rfl (by decide) (by decide) (.slice Ao S.events.length co) S.events ⟨(i : Int), S.tx i, S.try_ i, op, cell, num⟩ _ (fun b => ∀ j, okJ P j → b ≠ D.blk j) (fun _ => False) rfl rfl (k53_mkM w.drew w0.heap.size (fun _ => False) ⟨(i : Int), S.tx i, S.try_ i, op, cell, num⟩) (fun _ h => h.elim) (fun k hk j hj => by have : D.blk j < w.drew.heap.size := H.out.lt j hj; omega) O.out B.out hbz (by omega) ?_
  intro x1 wA hR6 hB6 hg6 hat6
  obtain ⟨A1, co1, eX, hco1, hro1⟩ := Kd.R_reads hR6
  rw [show (S.events ++ [S53.mk (i : Int) (S.tx i) (S.try_ i) op cell num]).length = S.events.length + 1 by simp] at eX
  subst eX
  clear hro1 hco1
  have hsm : ∀ j, okJ P j → wA.heap[D.blk j]? = w.drew.heap[D.blk j]? := fun j hj => hg6.block (D.blk j) (H.out.lt j hj) (fun e => O.out.1 (D.blk j) e.symm j hj rfl)
  have q0 : wA.cell? ⟨D.blk .g, 8, none⟩ = some (.slice Ao S.events.length co) := (cell_same (hsm .g trivial) 8).trans u0
  have q1 : wA.cell? ⟨D.blk (.a i), 0, none⟩ = some (.int .i64 (S.tx i)) := (cell_same (hsm (.a i) hi) 0).trans u1
  have q2 : wA.cell? ⟨D.blk (.a i), 1, none⟩ = some (.int .i64 (S.try_ i)) := (cell_same (hsm (.a i) hi) 1).trans u2
  have f10 := (Fn.move (H.out.at_ .g trivial) (hsm .g trivial)).thaw 8
  refine hK.out _ _ ⟨q0, q1, q2⟩ (fun hHeld => ?_)
  clear hK K
  refine norm_ (a' := ?_) ?_ ?_
  rotate_left
  · show Act.put _ (some 37) _ = _
    simp only [Act.put, List.setIfInBounds_toArray, List.set_cons_zero, List.set_cons_succ, i64_w, i32_w]
    rfl
  refine pure_ (i := 20) (N := some 38) (v := ?_) (a' := ?_) #[true, true, true, true, true, true, true, true, true, true, true, true, true, true, true, true, true, true, true, true, true, false, false] rfl rfl (by kernel_rfl) (fun _ _ _ h => h) (Or.inl ⟨by rfl, ?_⟩) ?_ ?_
  rotate_left
  · intro w'
    go_simp
    with_reducible rfl
  rotate_left
  · simp only [Act.put, List.setIfInBounds_toArray, List.set_cons_zero, List.set_cons_succ, i64_w, i32_w]
    rfl
  refine pure_ (i := 21) (N := some 39) (v := ?_) (a' := ?_) #[true, true, true, true, true, true, true, true, true, true, true, true, true, true, true, true, true, true, true, true, true, true, false] rfl rfl (by kernel_rfl) (fun _ _ _ h => h) (Or.inl ⟨by rfl, ?_⟩) ?_ ?_
  rotate_left
  · intro w'
    go_simp
    with_reducible rfl
  rotate_left
  · simp only [Act.put, List.setIfInBounds_toArray, List.set_cons_zero, List.set_cons_succ, i64_w, i32_w]
    rfl
  refine last_ (i := 22) (N := none) #[true, true, true, true, true, true, true, true, true, true, true, true, true, true, true, true, true, true, true, true, true, true, true] rfl rfl (by kernel_rfl) (by decide) (fun K hK => ?_)
  refine skip_ (w1 := ?_) (by rfl) rfl ?_ ?_
  rotate_left
  · go_simp
    rfl
  refine hK.out _ _ ?_
  clear hK K
  refine done_ (by kernel_rfl) ?_
  go_wp2_with fail
  go_end0
  have hfin := HD.out.ev_set (w' := wA) hR6 (by rw [eO]; exact hg6) hB6 (by rw [eO]; exact hat6)
  exact ⟨rfl, _, hfin.1, (FrL.below D (below_drew1 (Below.refl _ w))).trans hfin.2⟩
end Go.Proofs.Ytonhmkllfbagmaa.Tx
/- Transactions: the attempt's again. -/
namespace Go.Proofs.Ytonhmkllfbagmaa.Tx
open Go.RowKit Go.Proofs.YtonhmkllfbagmaaW.PrintWords Go.Proofs.YtonhmkllfbagmaaW.PrintLast Go.Proofs.YtonhmkllfbagmaaW.PrintMore Go.Proofs.Ytonhmkllfbagmaa.PFnExactTxFair
set_option linter.unusedVariables false
set_option linter.unusedSimpArgs false
/-- What again leaves. -/
def Again (w : World) (b : Nat) (f : Nat → Value) (w' : World) : Prop := ∃ bs bk, w.heap.size ≤ bs ∧ w.heap.size ≤ bk ∧ bs ≠ bk ∧ Mp w' bs (fun _ => none) ∧ Mp w' bk (fun _ => none) ∧
      Fn w' b 100 8 (fun m => if m = 2 then .int .i64 0 else if m = 6 then .map (some bs) else if m = 7 then .map (some bk) else f m) ∧ w.heap.size ≤ w'.heap.size ∧ (∀ c, c < w.heap.size → c ≠ b → w'.heap[c]? = w.heap[c]?) ∧ (∀ base : Nat, base ≤ b → ∀ w0, Below base w0 w → base ≤ w.heap.size → Below base w0 w')
theorem two_maps (w : World) : Mp ((w.alloc (.map #[] 0)).alloc (.map #[] 0)) w.heap.size (fun _ => none) ∧ Mp ((w.alloc (.map #[] 0)).alloc (.map #[] 0)) (w.heap.size + 1) (fun _ => none) ∧ w.heap.size + 1 < ((w.alloc (.map #[] 0)).alloc (.map #[] 0)).heap.size := by
  refine ⟨⟨0, (IM.MapIs.new w).alloc _⟩, ?_, by simp⟩
  have := IM.MapIs.new (w.alloc (.map #[] 0))
  have e : (w.alloc (.map #[] 0)).heap.size = w.heap.size + 1 := by simp
  rw [e] at this
  exact ⟨0, this⟩
set_option maxHeartbeats 8000000 in
set_option maxRecDepth 100000 in
theorem againC (w : World) (b : Nat) (f : Nat → Value) (h : Fn w b 100 8 f) :
    Calls Try.prog 62 #[.pointer (some ⟨b, 0, none⟩)] w fun e w' => e = .returned (.tuple #[]) ∧ Again w b f w' := by
  have hmm := @run_makeMap Try.prog
  have hlt := h.lt
  have hB2 : Below w.heap.size w ((w.alloc (.map #[] 0)).alloc (.map #[] 0)) := below_alloc (below_alloc (Below.refl _ _) _) _
  have h2 := h.below hB2
  have c0 := h2.cell 2 (by decide); have c6 := h2.cell 6 (by decide); have c7 := h2.cell 7 (by decide)
  have z := h2.thaw
  have d0 := h.cell 2 (by decide)
  have zd := h.thaw
  have hs := h.set 2 (by decide) (.int .i64 0) (g := fun m => if m = 2 then .int .i64 0 else f m) (if_pos rfl) (fun m _ hm => if_neg hm)
  have hszs : (w.setCell ⟨b, 2, none⟩ (.int .i64 0)).heap.size = w.heap.size := by simp [World.setCell]
  have hBs : Below (w.setCell ⟨b, 2, none⟩ (.int .i64 0)).heap.size (w.setCell ⟨b, 2, none⟩ (.int .i64 0)) (((w.setCell ⟨b, 2, none⟩ (.int .i64 0)).alloc (.map #[] 0)).alloc (.map #[] 0)) := below_alloc (below_alloc (Below.refl _ _) _) _
  have hs2 := hs.below hBs
  have e6 := hs2.cell 6 (by decide); have e7 := hs2.cell 7 (by decide)
  have ze := hs2.thaw
  simp only [show ¬ (6 : Nat) = 2 by decide, show ¬ (7 : Nat) = 2 by decide, if_false] at e6 e7
  have hs6 := hs.set 6 (by decide) (.map (some w.heap.size)) (g := fun m => if m = 2 then .int .i64 0 else if m = 6 then .map (some w.heap.size) else f m) rfl (fun m _ hm => by simp only [if_neg hm])
  have hBs6 : Below ((w.setCell ⟨b, 2, none⟩ (.int .i64 0)).setCell ⟨b, 6, none⟩ (.map (some w.heap.size))).heap.size ((w.setCell ⟨b, 2, none⟩ (.int .i64 0)).setCell ⟨b, 6, none⟩ (.map (some w.heap.size))) ((((w.setCell ⟨b, 2, none⟩ (.int .i64 0)).setCell ⟨b, 6, none⟩ (.map (some w.heap.size))).alloc (.map #[] 0)).alloc (.map #[] 0)) := below_alloc (below_alloc (Below.refl _ _) _) _
  have h6 := hs6.below hBs6
  have k7 := h6.cell 7 (by decide)
  have zk := h6.thaw
  simp only [show ¬ (7 : Nat) = 2 by decide, show ¬ (7 : Nat) = 6 by decide, if_false] at k7
  have HS6 := Lib.hid hs6
  clear h h2 hs hs2 hB2 hBs hs6 hBs6 h6
  go_enter Try.func62, Try.ntmps62
  go_wp2_with fail
  go_end0
  have hs7 := HS6.out.set 7 (by decide) (.map (some (w.heap.size + 1))) (g := fun m => if m = 2 then .int .i64 0 else if m = 6 then .map (some w.heap.size) else if m = 7 then .map (some (w.heap.size + 1)) else f m) rfl (fun m _ hm => by simp only [if_neg hm])
  have hsm : ∀ c, c ≠ b → (((w.setCell ⟨b, 2, none⟩ (.int .i64 0)).setCell ⟨b, 6, none⟩ (.map (some w.heap.size))).setCell ⟨b, 7, none⟩ (.map (some (w.heap.size + 1)))).heap[c]? = w.heap[c]? := fun c hc => (Below.heap_setCell _ _ _ c hc).trans ((Below.heap_setCell _ _ _ c hc).trans (Below.heap_setCell _ _ _ c hc))
  have hbl : ∀ base : Nat, base ≤ b → ∀ w0, Below base w0 w → Below base w0 (((w.setCell ⟨b, 2, none⟩ (.int .i64 0)).setCell ⟨b, 6, none⟩ (.map (some w.heap.size))).setCell ⟨b, 7, none⟩ (.map (some (w.heap.size + 1)))) := fun base h1 w0 hB => ((hB.setCell (p := ⟨b, 2, none⟩) h1 _).setCell (p := ⟨b, 6, none⟩) h1 _).setCell (p := ⟨b, 7, none⟩) h1 _
  have hsz : (((w.setCell ⟨b, 2, none⟩ (.int .i64 0)).setCell ⟨b, 6, none⟩ (.map (some w.heap.size))).setCell ⟨b, 7, none⟩ (.map (some (w.heap.size + 1)))).heap.size = w.heap.size := by simp [World.setCell]
  obtain ⟨W7, hW7⟩ : ∃ W7, (((w.setCell ⟨b, 2, none⟩ (.int .i64 0)).setCell ⟨b, 6, none⟩ (.map (some w.heap.size))).setCell ⟨b, 7, none⟩ (.map (some (w.heap.size + 1)))) = W7 := ⟨_, rfl⟩
  rw [hW7] at hs7 hsm hbl hsz ⊢
  have hB7 : Below W7.heap.size W7 ((W7.alloc (.map #[] 0)).alloc (.map #[] 0)) := below_alloc (below_alloc (Below.refl _ _) _) _
  have tm := two_maps W7
  rw [hsz] at tm
  refine ⟨rfl, w.heap.size, w.heap.size + 1, Nat.le_refl _, Nat.le_succ _, by omega, tm.1, tm.2.1, hs7.below hB7, by omega, fun c hc hne => (hB7.block c (by omega)).trans (hsm c hne), fun base h1 w0 hB h3 => ?_⟩
  exact ((hbl base h1 w0 hB).alloc (by omega) _).alloc (by simp; omega) _
/-- The blocks that are never laid anew. -/
def KeepD (D D' : LDyn) : Prop := D'.blk .g = D.blk .g ∧ ∀ i, D'.blk (.a i) = D.blk (.a i)
theorem KeepD.refl (D : LDyn) : KeepD D D := ⟨rfl, fun _ => rfl⟩
theorem KeepD.trans {D D1 D2 : LDyn} (h : KeepD D D1) (k : KeepD D1 D2) : KeepD D D2 := ⟨k.1.trans h.1, fun i => (k.2 i).trans (h.2 i)⟩
section
variable {P : LPar} {w0 w w' : World} {D : LDyn} {S : St}
/-- One store into an attempt. -/
theorem Led.setA (h : Led P w0 w D S) (i : Nat) (hi : i < P.n) (f : Nat) (hf : f < 8) (v : Value) (D' : LDyn) (S' : St) (hb : D'.blk = D.blk) (hV : D'.V = D.V) (hE : S'.events = S.events) (h1 : aJ D' S' i f = v) (h2 : ∀ m, m < 8 → m ≠ f → aJ D' S' i m = aJ D S i m)
    (hN : ∀ j, okJ P j → j ≠ .a i → sameJ P D S D' S' j) (hsw : ∀ i, i < P.n → S'.started i = true → D'.st i = S'.start i ∧ D'.wt i = S'.weight i) : Led P w0 (w.setCell ⟨D.blk (.a i), f, none⟩ v) D' S' ∧ FrL P w (w.setCell ⟨D.blk (.a i), f, none⟩ v) D D' := by
  refine h.cell (.a i) hi f v hb hV hE ?_ hN hsw
  show Fn _ (D'.blk (.a i)) 100 8 (aJ D' S' i)
  rw [hb]
  exact Fn.set (h.at_ (.a i) hi) f hf v h1 (fun m hm hne => h2 m hm hne)
theorem seen_off (nc : Nat) (S : St) (i : Nat) (h : S.begun i = false) : seenF nc S i = fun _ => none := by
  funext c; unfold seenF; rw [if_neg (fun hh => by rw [h] at hh; exact absurd hh.1 (by decide))]
theorem kept_off (nc : Nat) (S : St) (i : Nat) (h : S.begun i = false) : keptF nc S i = fun _ => none := by
  funext c; unfold keptF; rw [if_neg (fun hh => by rw [h] at hh; exact absurd hh.1 (by decide))]
def offB (S : St) (i : Nat) : St := { S with begun := up S.begun i false }
theorem Led.again (h : Led P w0 w D S) (i : Nat) (hi : i < P.n) (ha : Again w (D.blk (.a i)) (aJ D S i) w') : ∃ D', KeepD D D' ∧ Led P w0 w' D' (offB S i) ∧ FrL P w w' D D' := by
  obtain ⟨bs, bk, h1, h2, h3, ms, mk, hF, hs, hw, hB⟩ := ha
  have hbi : (offB S i).begun i = false := up_self _ _ _
  have hbo : ∀ l, l ≠ i → (offB S i).begun l = S.begun l := fun l hl => up_ne _ _ _ _ hl
  refine ⟨{ D with blk := fun j => if j = .s i then bs else if j = .k i then bk else D.blk j }, ⟨by simp, fun l => by simp⟩, h.turn (fun j => j = .a i ∨ j = .s i ∨ j = .k i) (hB w0.heap.size (h.ge (.a i) hi) w0 h.below h.below.size) hs (fun b hb hn => hw b hb (hn (.a i) hi (.inl rfl))) rfl rfl ?_ ?_ ?_ h.sw⟩
  · rintro j hj (rfl | rfl | rfl)
    · refine ⟨?_, .inl (by simp)⟩
      show Fn w' _ 100 8 (aJ _ (offB S i) i)
      simp only [reduceCtorEq, if_false]
      refine hF.ext (fun m hm => ?_)
      match m with
      | 0 | 1 | 3 | 4 | 5 => rfl
      | 2 => show Value.int .i64 (opA (offB S i) i) = _; unfold opA; rw [hbi]; rfl
      | 6 => simp [aJ]
      | 7 => simp [aJ]
      | m + 8 => omega
    · refine ⟨?_, .inr (by simpa using h1)⟩
      show Mp w' _ (seenF P.nc (offB S i) i)
      rw [seen_off _ _ _ hbi]
      simpa using ms
    · refine ⟨?_, .inr (by simpa using h2)⟩
      show Mp w' _ (keptF P.nc (offB S i) i)
      rw [kept_off _ _ _ hbi]
      simpa using mk
  · rintro j l hj hl (rfl | rfl | rfl) (rfl | rfl | rfl) hlt e <;> simp at e hlt ⊢
    · have := h.lt (.a i) hi; omega
    · have := h.lt (.a i) hi; omega
    · have := h.lt (.a i) hi; omega
    · exact absurd e h3
    · have := h.lt (.a i) hi; omega
    · exact absurd e.symm h3
  · intro j hj hn
    simp only [not_or] at hn
    refine ⟨by simp [hn.2.1, hn.2.2], ?_⟩
    cases j with
    | g =>
      exact fun m hm => by
        show gJ P _ (offB S i) m = gJ P D S m
        match m with
        | 0 | 1 | 2 | 7 => rfl
        | 3 | 4 | 5 | 6 => simp [gJ]
        | m + 8 => rfl
    | c => exact fun _ _ => rfl
    | v => exact fun _ _ => rfl
    | o => exact fun _ _ => rfl
    | p => exact fun m hm => by show Value.pointer _ = Value.pointer _; simp
    | a l =>
      have hl : l ≠ i := fun e => hn.1 (by rw [e])
      exact fun m hm => by
        show aJ _ (offB S i) l m = aJ D S l m
        match m with
        | 0 | 1 | 3 | 4 | 5 => rfl
        | 2 => show Value.int .i64 (opA (offB S i) l) = Value.int .i64 (opA S l); unfold opA; rw [hbo l hl]; rfl
        | 6 => simp [aJ, hl]
        | m + 7 => simp [aJ, hl]
    | s l =>
      have hl : l ≠ i := fun e => hn.2.1 (by rw [e])
      show seenF P.nc (offB S i) l = seenF P.nc S l
      unfold seenF; rw [hbo l hl]; rfl
    | k l =>
      have hl : l ≠ i := fun e => hn.2.2 (by rw [e])
      show keptF P.nc (offB S i) l = keptF P.nc S l
      unfold keptF; rw [hbo l hl]; rfl
theorem Led.setTry (h : Led P w0 w D S) (i : Nat) (hi : i < P.n) (x : Int) : Led P w0 (w.setCell ⟨D.blk (.a i), 1, none⟩ (.int .i64 x)) D { S with try_ := up S.try_ i x } ∧ FrL P w (w.setCell ⟨D.blk (.a i), 1, none⟩ (.int .i64 x)) D D := by
  refine h.setA i hi 1 (by decide) _ D _ rfl rfl rfl ?_ ?_ ?_ h.sw
  · show Value.int .i64 (up S.try_ i x i) = _; rw [up_self]
  · intro m hm hne
    match m with
    | 0 | 2 | 3 | 4 | 5 | 6 => rfl
    | 1 => exact absurd rfl hne
    | m + 7 => rfl
  · intro j hj hne
    cases j <;> first | rfl | exact fun _ _ => rfl | skip
    rename_i l
    have hl : l ≠ i := fun e => hne (by rw [e])
    intro m hm
    match m with
    | 0 | 2 | 3 | 4 | 5 | 6 => rfl
    | 1 => show Value.int .i64 (up S.try_ i x l) = _; rw [up_ne _ _ _ _ hl]; rfl
    | m + 7 => rfl
end
set_option maxHeartbeats 8000000 in
set_option maxRecDepth 100000 in
theorem giveUpL (P : LPar) (w0 w : World) (D : LDyn) (S : St) (i : Nat) (h : Led P w0 w D S) (hi : i < P.n) (hn : P.n ≤ 1000) (hnc : P.nc ≤ 1000) (hl : S.events.length ≤ 99000) :
    Calls Try.prog 63 #[.pointer (some ⟨D.blk .g, 0, none⟩), .int .i64 (i : Int)] w fun e w' => e = .returned (.tuple #[]) ∧ ∃ D', KeepD D D' ∧ Led P w0 w' D' (giveUp S i) ∧ FrL P w w' D D' := by
  have hin := eq_true (show (i : Int) < (P.n : Int) by omega)
  have cS := sayL P w0 w D S i 4 0 0 h hi hn (by omega)
  go_enter Try.func63, Try.ntmps63
  go_wp2_with fail
  refine cS.mono ?_
  rintro e w1 ⟨rfl, V, h1, k1⟩
  clear cS h
  go_wp2_with fail
  refine (freeL P w0 w1 { D with V := V } _ i h1 hnc).mono ?_
  rintro e w2 ⟨rfl, h2, k2⟩
  have g6 := h2.g 6 (by decide)
  simp only [gJ] at g6
  have pi := h2.p i hi
  have a1 := h2.a i hi 1 (by decide)
  simp only [aJ] at a1
  have z1 := h2.thawA i hi 1
  have p1 : IntKind.wrap .i64 ((free (event S i 4 0 0) i).try_ i + 1) = inc (S.try_ i) := by rw [i64_w]; rfl
  have h3 := h2.setTry i hi (inc (S.try_ i))
  have b6 := h3.1.g 6 (by decide)
  simp only [gJ] at b6
  have bp := h3.1.p i hi
  have H3 := Lib.hid h3; have K12 := Lib.hid (k1.trans k2)
  clear h1 k1 h2 k2 h3
  go_wp2_with fail
  refine (againC _ _ _ (H3.out.1.at_ (.a i) hi)).mono ?_
  rintro e w4 ⟨rfl, ha⟩
  obtain ⟨D4, kd, h4, k4⟩ := H3.out.1.again i hi ha
  go_wp2_with fail
  go_end0
  exact ⟨rfl, D4, kd, h4, (K12.out.trans H3.out.2).trans k4⟩
end Go.Proofs.Ytonhmkllfbagmaa.Tx
/- Transactions: the ledger's own. -/
namespace Go.Proofs.Ytonhmkllfbagmaa.Tx
open Go.RowKit Go.Proofs.YtonhmkllfbagmaaW.PrintWords Go.Proofs.YtonhmkllfbagmaaW.PrintLast Go.Proofs.YtonhmkllfbagmaaW.PrintMore Go.Proofs.Ytonhmkllfbagmaa.PFnExactTxFair
set_option linter.unusedVariables false
set_option linter.unusedSimpArgs false
set_option maxHeartbeats 8000000 in
set_option maxRecDepth 100000 in
theorem ownL (P : LPar) (w0 w : World) (D : LDyn) (S : St) (i c : Nat) (h : Led P w0 w D S) (hi : i < P.n) (hc : c < P.nc) (hn : P.n ≤ 1000) (hnc : P.nc ≤ 1000) (hl : S.events.length ≤ 99000) (hman : 1 ≤ P.man ∧ P.man ≤ 4) (hsi : S.started i = true) (ho : S.owners c = -1 ∨ ∃ o : Nat, o < P.n ∧ S.owners c = (o : Int) ∧ S.started o = true) :
    Calls Try.prog 66 #[.pointer (some ⟨D.blk .g, 0, none⟩), .int .i64 (i : Int), .int .i64 (c : Int)] w fun e w' => e = .returned (.bool (own P.man S i c).1) ∧ ∃ D', KeepD D D' ∧ Led P w0 w' D' (own P.man S i c).2 ∧ FrL P w w' D D' := by
  have hin := eq_true (show (i : Int) < (P.n : Int) by omega)
  have hcn := eq_true (show (c : Int) < (P.nc : Int) by omega)
  have g5 := h.g 5 (by decide); have g6 := h.g 6 (by decide); have g1 := h.g 1 (by decide)
  have o1 := h.o c hc; have fo := h.thawO c
  have pi := h.p i hi
  simp only [gJ] at g5 g6 g1
  by_cases hA : S.owners c = -1 ∨ S.owners c = (i : Int)
  · have e : own P.man S i c = (true, { S with owners := up S.owners c (i : Int) }) := by unfold own; rw [if_pos hA]
    rw [e]
    have HB := Lib.hid (h.setO c hc (i : Int) (up S.owners c (i : Int)) (up_self _ _ _) (fun m _ hm => up_ne _ _ _ _ hm))
    clear h e ho g6 g1
    rcases hA with hA | hA
    · rw [hA] at o1
      clear hA
      go_enter Try.func66, Try.ntmps66
      go_wp2_with fail
      go_ret
      exact ⟨rfl, D, KeepD.refl D, HB.out.1, HB.out.2⟩
    · rw [hA] at o1
      have n1 : decide ((i : Int) ≥ 0) = true := decide_eq_true (by omega)
      have n2 : ((i : Int) != (i : Int)) = false := by simp
      clear hA
      go_enter Try.func66, Try.ntmps66
      go_wp2_with fail
      go_ret
      exact ⟨rfl, D, KeepD.refl D, HB.out.1, HB.out.2⟩
  · obtain ⟨o, hon, hoe, hso⟩ : ∃ o : Nat, o < P.n ∧ S.owners c = (o : Int) ∧ S.started o = true := by
      rcases ho with ho | ho
      · exact absurd (.inl ho) hA
      · exact ho
    have hne : o ≠ i := fun e => hA (.inr (by rw [hoe, e]))
    have n1 : decide ((o : Int) ≥ 0) = true := decide_eq_true (by omega)
    have n2 : (((o : Int)) == (i : Int)) = false := beq_eq_false_iff_ne.mpr (by omega)
    have n3 : (((o : Int)) != (i : Int)) = true := by simp [bne, n2]
    have hons := eq_true (show (o : Int) < (P.n : Int) by omega)
    have e0 : (S.owners c).toNat = o := by rw [hoe, Int.toNat_natCast]
    rw [hoe] at o1
    have hOwn : own P.man S i c = if P.man = 3 ∧ S.start o ≤ S.start i then (false, event S i 5 (c : Int) 0) else if P.man = 2 ∨ P.man = 3 ∨ (P.man = 4 ∧ S.weight o < S.weight i) then (true, { giveUp S o with owners := up (giveUp S o).owners c (i : Int) }) else (false, giveUp S i) := by unfold own; rw [if_neg hA, e0]
    have cUp := fun (W : World) (hW : Led P w0 W D S) j (hj : j < P.n) => giveUpL P w0 W D S j hW hj hn hnc hl
    have po := h.p o hon
    have t5 : w.cell? ⟨D.blk (.a i), 3, none⟩ = some (.int .i64 (S.start i)) := by rw [h.a i hi 3 (by decide), ← (h.sw i hi hsi).1]; rfl
    have s5 : w.cell? ⟨D.blk (.a o), 3, none⟩ = some (.int .i64 (S.start o)) := by rw [h.a o hon 3 (by decide), ← (h.sw o hon hso).1]; rfl
    have t6 : w.cell? ⟨D.blk (.a i), 4, none⟩ = some (.int .i64 (S.weight i)) := by rw [h.a i hi 4 (by decide), ← (h.sw i hi hsi).2]; rfl
    have s6 : w.cell? ⟨D.blk (.a o), 4, none⟩ = some (.int .i64 (S.weight o)) := by rw [h.a o hon 4 (by decide), ← (h.sw o hon hso).2]; rfl
    have H := Lib.hid h
    clear h hA e0 hoe ho
    have hm : P.man = 1 ∨ P.man = 2 ∨ P.man = 3 ∨ P.man = 4 := by omega
    -- the other one gives up
    have takeover : ∀ W D1 w1, FrL P w W D D → KeepD D D1 → Led P w0 w1 D1 (giveUp S o) → FrL P W w1 D D1 → (w1.cell? ⟨D.blk .g, 5, none⟩ = some (.slice (some ⟨D1.blk .o, 0, none⟩) P.nc P.cO) ∧ w1.cell? ⟨D1.blk .o, c, none⟩ = some (.int .i64 ((giveUp S o).owners c)) ∧ w1.frozen? ⟨D1.blk .o, c, none⟩ = false) ∧
        Led P w0 (w1.setCell ⟨D1.blk .o, c, none⟩ (.int .i64 (i : Int))) D1 { giveUp S o with owners := up (giveUp S o).owners c (i : Int) } ∧ FrL P w (w1.setCell ⟨D1.blk .o, c, none⟩ (.int .i64 (i : Int))) D D1 := by
      intro W D1 w1 k0 kd h1 k1
      have hs := h1.setO c hc (i : Int) (up (giveUp S o).owners c (i : Int)) (up_self _ _ _) (fun m _ hm => up_ne _ _ _ _ hm)
      have := h1.g 5 (by decide)
      rw [kd.1] at this
      exact ⟨⟨this, h1.o c hc, h1.thawO c⟩, hs.1, (k0.trans k1).trans hs.2⟩
    have TK := Lib.hid takeover
    clear takeover
    rcases hm with hm | hm | hm | hm
    · rw [hm] at g1
      have e : own P.man S i c = (false, giveUp S i) := by rw [hOwn, if_neg (by omega), if_neg (by omega)]
      rw [e]
      clear hOwn e t5 s5 t6 s6
      go_enter Try.func66, Try.ntmps66
      go_wp2_with fail
      go_quiet (fail)
      go_wp2_with fail
      refine (cUp _ (H.out.step (by repeat (first | exact Below.refl _ _ | apply pw_below_drewN))) i hi).mono ?_
      rintro e w1 ⟨rfl, D1, kd, h1, k1⟩
      have H1 := Lib.hid h1
      have K1 := Lib.hid ((FrL.below D (by repeat (first | exact Below.refl _ _ | apply pw_below_drewN))).trans k1)
      clear h1 cUp k1 TK
      go_wp2_with fail
      go_ret
      exact ⟨rfl, D1, kd, H1.out, K1.out⟩
    · rw [hm] at g1
      have e : own P.man S i c = (true, { giveUp S o with owners := up (giveUp S o).owners c (i : Int) }) := by rw [hOwn, if_neg (by omega), if_pos (by omega)]
      rw [e]
      clear hOwn e t5 s5 t6 s6
      go_enter Try.func66, Try.ntmps66
      go_wp2_with fail
      go_quiet (fail)
      go_wp2_with fail
      refine (cUp _ (H.out.step (by repeat (first | exact Below.refl _ _ | apply pw_below_drewN))) o hon).mono ?_
      rintro e w1 ⟨rfl, D1, kd, h1, k1⟩
      obtain ⟨⟨a1, a2, a3⟩, h2, k2⟩ := TK.out _ D1 w1 (FrL.below D (by repeat (first | exact Below.refl _ _ | apply pw_below_drewN))) kd h1 k1
      have H2 := Lib.hid h2
      have K2 := Lib.hid k2
      clear h1 cUp k1 TK h2 k2
      go_wp2_with fail
      go_ret
      exact ⟨rfl, D1, kd, H2.out, K2.out⟩
    · rw [hm] at g1
      by_cases hs : S.start o ≤ S.start i
      · have e : own P.man S i c = (false, event S i 5 (c : Int) 0) := by rw [hOwn, if_pos ⟨hm, hs⟩]
        rw [e]
        have q1 : decide (S.start i ≥ S.start o) = true := decide_eq_true hs
        have q2 : decide (S.start o ≤ S.start i) = true := decide_eq_true hs
        clear hOwn e t6 s6
        go_enter Try.func66, Try.ntmps66
        go_wp2_with fail
        go_quiet (fail)
        go_wp2_with fail
        go_quiet (fail)
        go_wp2_with fail
        refine (sayL P w0 _ D S i 5 (c : Int) 0 (H.out.step (by repeat (first | exact Below.refl _ _ | apply pw_below_drewN))) hi hn (by omega)).mono ?_
        rintro e w1 ⟨rfl, V, h1, k1⟩
        have H1 := Lib.hid h1
        have K1 := Lib.hid ((FrL.below D (by repeat (first | exact Below.refl _ _ | apply pw_below_drewN))).trans k1)
        clear h1 cUp k1 TK
        go_wp2_with fail
        go_ret
        exact ⟨rfl, { D with V := V }, ⟨rfl, fun _ => rfl⟩, H1.out, K1.out⟩
      · have e : own P.man S i c = (true, { giveUp S o with owners := up (giveUp S o).owners c (i : Int) }) := by rw [hOwn, if_neg (by omega), if_pos (by omega)]
        rw [e]
        have q1 : decide (S.start i ≥ S.start o) = false := decide_eq_false hs
        have q2 : decide (S.start o ≤ S.start i) = false := decide_eq_false hs
        clear hOwn e t6 s6
        go_enter Try.func66, Try.ntmps66
        go_wp2_with fail
        go_quiet (fail)
        go_wp2_with fail
        go_quiet (fail)
        go_wp2_with fail
        refine (cUp _ (H.out.step (by repeat (first | exact Below.refl _ _ | apply pw_below_drewN))) o hon).mono ?_
        rintro e w1 ⟨rfl, D1, kd, h1, k1⟩
        obtain ⟨⟨a1, a2, a3⟩, h2, k2⟩ := TK.out _ D1 w1 (FrL.below D (by repeat (first | exact Below.refl _ _ | apply pw_below_drewN))) kd h1 k1
        have H2 := Lib.hid h2
        have K2 := Lib.hid k2
        clear h1 cUp k1 TK h2 k2
        go_wp2_with fail
        go_ret
        exact ⟨rfl, D1, kd, H2.out, K2.out⟩
    · rw [hm] at g1
      by_cases hs : S.weight i ≤ S.weight o
      · have e : own P.man S i c = (false, giveUp S i) := by rw [hOwn, if_neg (by omega), if_neg (by omega)]
        rw [e]
        have q1 : decide (S.weight i ≤ S.weight o) = true := decide_eq_true hs
        clear hOwn e t5 s5
        go_enter Try.func66, Try.ntmps66
        go_wp2_with fail
        go_quiet (fail)
        go_wp2_with fail
        go_quiet (fail)
        go_wp2_with fail
        refine (cUp _ (H.out.step (by repeat (first | exact Below.refl _ _ | apply pw_below_drewN))) i hi).mono ?_
        rintro e w1 ⟨rfl, D1, kd, h1, k1⟩
        have H1 := Lib.hid h1
        have K1 := Lib.hid ((FrL.below D (by repeat (first | exact Below.refl _ _ | apply pw_below_drewN))).trans k1)
        clear h1 cUp k1 TK
        go_wp2_with fail
        go_ret
        exact ⟨rfl, D1, kd, H1.out, K1.out⟩
      · have e : own P.man S i c = (true, { giveUp S o with owners := up (giveUp S o).owners c (i : Int) }) := by rw [hOwn, if_neg (by omega), if_pos (by omega)]
        rw [e]
        have q1 : decide (S.weight i ≤ S.weight o) = false := decide_eq_false hs
        clear hOwn e t5 s5
        go_enter Try.func66, Try.ntmps66
        go_wp2_with fail
        go_quiet (fail)
        go_wp2_with fail
        go_quiet (fail)
        go_wp2_with fail
        refine (cUp _ (H.out.step (by repeat (first | exact Below.refl _ _ | apply pw_below_drewN))) o hon).mono ?_
        rintro e w1 ⟨rfl, D1, kd, h1, k1⟩
        obtain ⟨⟨a1, a2, a3⟩, h2, k2⟩ := TK.out _ D1 w1 (FrL.below D (by repeat (first | exact Below.refl _ _ | apply pw_below_drewN))) kd h1 k1
        have H2 := Lib.hid h2
        have K2 := Lib.hid k2
        clear h1 cUp k1 TK h2 k2
        go_wp2_with fail
        go_ret
        exact ⟨rfl, D1, kd, H2.out, K2.out⟩
end Go.Proofs.Ytonhmkllfbagmaa.Tx
/- Transactions: the ledger's read. -/
namespace Go.Proofs.Ytonhmkllfbagmaa.Tx
open Go.RowKit Go.Proofs.YtonhmkllfbagmaaW.PrintWords Go.Proofs.YtonhmkllfbagmaaW.PrintLast Go.Proofs.YtonhmkllfbagmaaW.PrintMore Go.Proofs.Ytonhmkllfbagmaa.PFnExactTxFair
set_option linter.unusedVariables false
set_option linter.unusedSimpArgs false
section
variable {P : LPar} {w0 w w' : World} {D : LDyn} {S : St}
theorem up2_at {α : Type} (f : Nat → Nat → α) (i c : Nat) (v : α) : up f i (up (f i) c v) i c = v := by rw [up_self, up_self]
theorem up2_in {α : Type} (f : Nat → Nat → α) (i c m : Nat) (v : α) (h : m ≠ c) : up f i (up (f i) c v) i m = f i m := by rw [up_self, up_ne _ _ _ _ h]
theorem up2_out {α : Type} (f : Nat → Nat → α) (i c l : Nat) (v : α) (h : l ≠ i) : up f i (up (f i) c v) l = f l := up_ne _ _ _ _ h
theorem Led.putS (h : Led P w0 w D S) (i : Nat) (hi : i < P.n) (hb : S.begun i = true) (c : Nat) (hc : c < P.nc) (v : Int) (hv : 0 ≤ v) (hM : Mp w' (D.blk (.s i)) (IM.upd (seenF P.nc S i) (c : Int) (.int .i64 v))) (hg : w.grownBy w' (some (D.blk (.s i)))) :
    Led P w0 w' D { S with read := up S.read i (up (S.read i) c v) } ∧ FrL P w w' D D := by
  refine h.turn (fun j => j = .s i) (h.below.grown hg h.below.size (fun k hk => by injection hk with hk; rw [← hk]; exact h.ge (.s i) hi)) hg.size (fun b hb hn => hg.block b hb (fun e => hn (.s i) hi rfl (by injection e))) rfl rfl ?_ (fun j l _ _ e1 e2 _ _ => e1.trans e2.symm) ?_ h.sw
  · rintro j hj rfl
    refine ⟨?_, .inl rfl⟩
    show Mp w' _ (seenF P.nc { S with read := up S.read i (up (S.read i) c v) } i)
    have e : seenF P.nc { S with read := up S.read i (up (S.read i) c v) } i = IM.upd (seenF P.nc S i) (c : Int) (.int .i64 v) := by
      funext x
      unfold seenF IM.upd
      by_cases ex : x = (c : Int)
      · subst ex
        rw [if_pos rfl, if_pos ⟨hb, by omega, by omega, by show 0 ≤ up S.read i (up (S.read i) c v) i (Int.toNat (c : Int)); rw [Int.toNat_natCast, up2_at]; exact hv⟩]
        show some (Value.int .i64 (up S.read i (up (S.read i) c v) i (Int.toNat (c : Int)))) = _
        rw [Int.toNat_natCast, up2_at]
      · rw [if_neg ex]
        by_cases h0 : 0 ≤ x
        · have : x.toNat ≠ c := by omega
          show (if S.begun i = true ∧ 0 ≤ x ∧ x < (P.nc : Int) ∧ 0 ≤ up S.read i (up (S.read i) c v) i x.toNat then some (Value.int .i64 (up S.read i (up (S.read i) c v) i x.toNat)) else none) = _
          rw [up2_in _ _ _ _ _ this]
        · exact (if_neg (fun hh => h0 hh.2.1)).trans (if_neg (fun hh => h0 hh.2.1)).symm
    rw [e]; exact hM
  · intro j hj hn
    refine ⟨rfl, ?_⟩
    cases j <;> first | rfl | exact fun _ _ => rfl | skip
    rename_i l
    have hl : l ≠ i := fun e => hn (by rw [e])
    show seenF P.nc { S with read := up S.read i (up (S.read i) c v) } l = seenF P.nc S l
    unfold seenF
    show (fun x => if S.begun l = true ∧ 0 ≤ x ∧ x < (P.nc : Int) ∧ 0 ≤ up S.read i (up (S.read i) c v) l x.toNat then some (Value.int .i64 (up S.read i (up (S.read i) c v) l x.toNat)) else none) = _
    rw [up2_out _ _ _ _ _ hl]
theorem Led.putK (h : Led P w0 w D S) (i : Nat) (hi : i < P.n) (hb : S.begun i = true) (c : Nat) (hc : c < P.nc) (v : Int) (hM : Mp w' (D.blk (.k i)) (IM.upd (keptF P.nc S i) (c : Int) (.int .i64 v))) (hg : w.grownBy w' (some (D.blk (.k i)))) :
    Led P w0 w' D (put_ S i c v) ∧ FrL P w w' D D := by
  refine h.turn (fun j => j = .k i) (h.below.grown hg h.below.size (fun k hk => by injection hk with hk; rw [← hk]; exact h.ge (.k i) hi)) hg.size (fun b hb hn => hg.block b hb (fun e => hn (.k i) hi rfl (by injection e))) rfl rfl ?_ (fun j l _ _ e1 e2 _ _ => e1.trans e2.symm) ?_ h.sw
  · rintro j hj rfl
    refine ⟨?_, .inl rfl⟩
    show Mp w' _ (keptF P.nc (put_ S i c v) i)
    have e : keptF P.nc (put_ S i c v) i = IM.upd (keptF P.nc S i) (c : Int) (.int .i64 v) := by
      funext x
      unfold keptF IM.upd
      by_cases ex : x = (c : Int)
      · subst ex
        rw [if_pos rfl, if_pos ⟨hb, by omega, by omega, by show up S.wrote i (up (S.wrote i) c true) i (Int.toNat (c : Int)) = true; rw [Int.toNat_natCast, up2_at]⟩]
        show some (Value.int .i64 (up S.kept i (up (S.kept i) c v) i (Int.toNat (c : Int)))) = _
        rw [Int.toNat_natCast, up2_at]
      · rw [if_neg ex]
        by_cases h0 : 0 ≤ x
        · have : x.toNat ≠ c := by omega
          show (if S.begun i = true ∧ 0 ≤ x ∧ x < (P.nc : Int) ∧ up S.wrote i (up (S.wrote i) c true) i x.toNat = true then some (Value.int .i64 (up S.kept i (up (S.kept i) c v) i x.toNat)) else none) = _
          rw [up2_in _ _ _ _ _ this, up2_in _ _ _ _ _ this]
        · exact (if_neg (fun hh => h0 hh.2.1)).trans (if_neg (fun hh => h0 hh.2.1)).symm
    rw [e]; exact hM
  · intro j hj hn
    refine ⟨rfl, ?_⟩
    cases j <;> first | rfl | exact fun _ _ => rfl | skip
    rename_i l
    have hl : l ≠ i := fun e => hn (by rw [e])
    show keptF P.nc (put_ S i c v) l = keptF P.nc S l
    unfold keptF
    show (fun x => if S.begun l = true ∧ 0 ≤ x ∧ x < (P.nc : Int) ∧ up S.wrote i (up (S.wrote i) c true) l x.toNat = true then some (Value.int .i64 (up S.kept i (up (S.kept i) c v) l x.toNat)) else none) = _
    rw [up2_out _ _ _ _ _ hl, up2_out _ _ _ _ _ hl]
end
theorem kept_at (nc : Nat) (S : St) (i c : Nat) (hb : S.begun i = true) (hc : c < nc) : keptF nc S i (c : Int) = if S.wrote i c = true then some (.int .i64 (S.kept i c)) else none := by
  unfold keptF
  rw [Int.toNat_natCast]
  by_cases e : S.wrote i c = true
  · rw [if_pos ⟨hb, by omega, by omega, e⟩, if_pos e]
  · rw [if_neg (fun hh => e hh.2.2.2), if_neg e]
set_option maxHeartbeats 8000000 in
set_option maxRecDepth 100000 in
theorem readL (P : LPar) (w0 w : World) (D : LDyn) (S : St) (i c : Nat) (h : Led P w0 w D S) (hi : i < P.n) (hb : S.begun i = true) (hc : c < P.nc) (hv : 0 ≤ S.vers c) :
    Calls Try.prog 67 #[.pointer (some ⟨D.blk .g, 0, none⟩), .pointer (some ⟨D.blk (.a i), 0, none⟩), .int .i64 (c : Int)] w fun e w' => e = .returned (.int .i64 (see S i c).1) ∧ Led P w0 w' D (see S i c).2 ∧ FrL P w w' D D := by
  have hcn := eq_true (show (c : Int) < (P.nc : Int) by omega)
  have g4 := h.g 4 (by decide); have g3 := h.g 3 (by decide)
  simp only [gJ] at g4 g3
  have a7 := h.a i hi 7 (by decide); have a6 := h.a i hi 6 (by decide)
  simp only [aJ] at a7 a6
  have v1 := h.v c hc; have c1 := h.c c hc
  obtain ⟨nk, hk⟩ := h.k i hi
  obtain ⟨ns, hs⟩ := h.s i hi
  have kf := kept_at P.nc S i c hb hc
  have HK := Lib.hid hk; have HS := Lib.hid hs; have H := Lib.hid h
  clear hk hs h
  rcases hw : S.wrote i c with _ | _
  · have e : see S i c = (S.cells c, { S with read := up S.read i (up (S.read i) c (S.vers c)) }) := by unfold see; rw [if_neg (by rw [hw]; decide)]
    rw [e]
    rw [hw] at kf
    simp only [Bool.false_eq_true, if_false] at kf
    obtain ⟨w1, hup, hM1, hg1⟩ := (IM.MapIs.drew HS.out).update (P := Try.prog) Try.underlying98 Try.underlying3 (c : Int) (.int .i64 (S.vers c))
    have HD := Lib.hid (H.out.step (below_drew1 (Below.refl _ w)))
    have hp := HD.out.putS i hi hb c hc (S.vers c) hv ⟨_, hM1⟩ hg1
    have HP := Lib.hid hp
    have b3 := hp.1.g 3 (by decide)
    simp only [gJ] at b3
    have bc := hp.1.c c hc
    clear hp hM1 hg1
    go_enter Try.func67, Try.ntmps67
    go_wp2_with (at_lookup; refine IM.wp_lookup_ok _ rfl _ _ 98 rfl 3 3 Try.underlying98 Try.underlying3 (Try.zeroValue3 _) (D.blk (.k i)) nk _ rfl HK.out (c : Int) rfl ?_; rw [kf]; simp only [Option.getD_none, Option.isSome_none])
    refine start_ (n := 13) (S := fun w' => w'.cell? ⟨D.blk (.a i), 6, none⟩ = some (.map (some (D.blk (.s i)))) ∧ w'.cell? ⟨D.blk .g, 4, none⟩ = some (.slice (some ⟨D.blk .v, 0, none⟩) P.nc P.cV) ∧ w'.cell? ⟨D.blk .v, c, none⟩ = some (.int .i64 (S.vers c))) (ds := [12]) #[false, false, false, false, false, false, false, false, false, false, false, false, false] (by kernel_rfl) rfl rfl ⟨a6, g4, v1⟩ (fun hHeld => ?_)
    refine pure_ (i := 0) (N := some 20) (v := ?_) (a' := ?_) #[true, false, false, false, false, false, false, false, false, false, false, false, false] rfl rfl (by kernel_rfl) (fun _ _ _ h => h) (Or.inl ⟨by rfl, ?_⟩) ?_ ?_
    rotate_left
    · intro w'
      go_simp
      with_reducible rfl
    rotate_left
    · simp only [Act.put, List.setIfInBounds_toArray, List.set_cons_zero, List.set_cons_succ, i64_w, i32_w]
      rfl
    refine pure_ (i := 1) (N := some 21) (v := ?_) (a' := ?_) #[true, true, false, false, false, false, false, false, false, false, false, false, false] rfl rfl (by kernel_rfl) (fun _ _ _ h => h) (Or.inl ⟨by rfl, ?_⟩) ?_ ?_
    rotate_left
    · intro w'
      go_simp
      with_reducible rfl
    rotate_left
    · simp only [Act.put, List.setIfInBounds_toArray, List.set_cons_zero, List.set_cons_succ, i64_w, i32_w]
      rfl
    refine pure_ (i := 2) (N := some 22) (v := ?_) (a' := ?_) #[true, true, true, false, false, false, false, false, false, false, false, false, false] rfl rfl (by kernel_rfl) (fun _ _ _ h => h) (Or.inl ⟨by rfl, ?_⟩) ?_ ?_
    rotate_left
    · intro w'
      go_simp
      with_reducible rfl
    rotate_left
    · simp only [Act.put, List.setIfInBounds_toArray, List.set_cons_zero, List.set_cons_succ, i64_w, i32_w]
      rfl
    refine pure_ (i := 4) (N := some 24) (v := ?_) (a' := ?_) #[true, true, true, false, true, false, false, false, false, false, false, false, false] rfl rfl (by kernel_rfl) (fun _ _ _ h => h) (Or.inl ⟨by rfl, ?_⟩) ?_ ?_
    rotate_left
    · intro w'
      go_simp
      with_reducible rfl
    rotate_left
    · simp only [Act.put, List.setIfInBounds_toArray, List.set_cons_zero, List.set_cons_succ, i64_w, i32_w]
      rfl
    refine pure_ (i := 5) (N := some 25) (v := ?_) (a' := ?_) #[true, true, true, false, true, true, false, false, false, false, false, false, false] rfl rfl (by kernel_rfl) (fun _ _ _ h => h) (Or.inl ⟨by rfl, ?_⟩) ?_ ?_
    rotate_left
    · intro w'
      go_simp
      with_reducible rfl
    rotate_left
    · simp only [Act.put, List.setIfInBounds_toArray, List.set_cons_zero, List.set_cons_succ, i64_w, i32_w]
      rfl
    refine pure_ (i := 6) (N := some 26) (v := ?_) (a' := ?_) #[true, true, true, false, true, true, true, false, false, false, false, false, false] rfl rfl (by kernel_rfl) (fun _ _ _ h => h) (Or.inl ⟨by rfl, ?_⟩) ?_ ?_
    rotate_left
    · intro w'
      go_simp
      with_reducible rfl
    rotate_left
    · simp only [Act.put, List.setIfInBounds_toArray, List.set_cons_zero, List.set_cons_succ, i64_w, i32_w]
      rfl
    refine pure_ (i := 7) (N := some 27) (v := ?_) (a' := ?_) #[true, true, true, false, true, true, true, true, false, false, false, false, false] rfl rfl (by kernel_rfl) (fun _ _ _ h => h) (Or.inl ⟨by rfl, ?_⟩) ?_ ?_
    rotate_left
    · intro w'
      go_simp
      with_reducible rfl
    rotate_left
    · simp only [Act.put, List.setIfInBounds_toArray, List.set_cons_zero, List.set_cons_succ, i64_w, i32_w]
      rfl
    refine pure_ (i := 9) (N := some 29) (v := ?_) (a' := ?_) #[true, true, true, false, true, true, true, true, false, true, false, false, false] rfl rfl (by kernel_rfl) (fun _ _ _ h => h) (Or.inl ⟨by rfl, ?_⟩) ?_ ?_
    rotate_left
    · intro w'
      go_simp
      with_reducible rfl
    rotate_left
    · simp only [Act.put, List.setIfInBounds_toArray, List.set_cons_zero, List.set_cons_succ, i64_w, i32_w]
      rfl
    refine take_ (i := 3) (N := some 23) (v := ?_) (a' := ?_) #[true, true, true, true, true, true, true, true, false, true, false, false, false] rfl rfl (by kernel_rfl) (fun _ _ _ h => h) (Or.inl ⟨by rfl, ?_⟩) hHeld ?_ ?_
    rotate_left
    · rintro w' ⟨s0, s1, s2⟩
      go_simp
      with_reducible rfl
    rotate_left
    · simp only [Act.put, List.setIfInBounds_toArray, List.set_cons_zero, List.set_cons_succ, i64_w, i32_w]
      rfl
    refine take_ (i := 8) (N := some 28) (v := ?_) (a' := ?_) #[true, true, true, true, true, true, true, true, true, true, false, false, false] rfl rfl (by kernel_rfl) (fun _ _ _ h => h) (Or.inl ⟨by rfl, ?_⟩) hHeld ?_ ?_
    rotate_left
    · rintro w' ⟨s0, s1, s2⟩
      go_simp
      with_reducible rfl
    rotate_left
    · simp only [Act.put, List.setIfInBounds_toArray, List.set_cons_zero, List.set_cons_succ, i64_w, i32_w]
      rfl
    refine pure_ (i := 10) (N := some 30) (v := ?_) (a' := ?_) #[true, true, true, true, true, true, true, true, true, true, true, false, false] rfl rfl (by kernel_rfl) (fun _ _ _ h => h) (Or.inl ⟨by rfl, ?_⟩) ?_ ?_
    rotate_left
    · intro w'
      go_simp
      with_reducible rfl
    rotate_left
    · simp only [Act.put, List.setIfInBounds_toArray, List.set_cons_zero, List.set_cons_succ, i64_w, i32_w]
      rfl
    refine take_ (i := 11) (N := some 31) (v := ?_) (a' := ?_) #[true, true, true, true, true, true, true, true, true, true, true, true, false] rfl rfl (by kernel_rfl) (fun _ _ _ h => h) (Or.inl ⟨by rfl, ?_⟩) hHeld ?_ ?_
    rotate_left
    · rintro w' ⟨s0, s1, s2⟩
      go_simp
      with_reducible rfl
    rotate_left
    · simp only [Act.put, List.setIfInBounds_toArray, List.set_cons_zero, List.set_cons_succ, i64_w, i32_w]
      rfl
    refine last_ (i := 12) (N := none) #[true, true, true, true, true, true, true, true, true, true, true, true, true] rfl rfl (by kernel_rfl) (by decide) (fun K hK => ?_)
    refine skip_ (w1 := ?_) (by rfl) rfl ?_ ?_
    rotate_left
    · go_simp
      rfl
    refine hK.out _ _ ?_
    clear hK K
    refine done_ (by kernel_rfl) ?_
    go_wp2_with fail
    go_ret
    exact ⟨rfl, HP.out.1, (FrL.below D (below_drew1 (Below.refl _ w))).trans HP.out.2⟩
  · have e : see S i c = (S.kept i c, S) := by unfold see; rw [if_pos hw]
    rw [e]
    rw [hw] at kf
    simp only [if_true] at kf
    go_enter Try.func67, Try.ntmps67
    go_wp2_with (first | (at_lookup; refine IM.wp_lookup_ok _ rfl _ _ 98 rfl 3 3 Try.underlying98 Try.underlying3 (Try.zeroValue3 _) (D.blk (.k i)) nk _ rfl HK.out (c : Int) rfl ?_; rw [kf]; simp only [Option.getD_some, Option.isSome_some]))
    go_ret
    exact ⟨rfl, H.out, FrL.refl P w D⟩
end Go.Proofs.Ytonhmkllfbagmaa.Tx
/- Transactions: the ledger's isDone. -/
namespace Go.Proofs.Ytonhmkllfbagmaa.Tx
open Go.RowKit Go.Proofs.YtonhmkllfbagmaaW.PrintWords Go.Proofs.YtonhmkllfbagmaaW.PrintLast Go.Proofs.YtonhmkllfbagmaaW.PrintMore Go.Proofs.Ytonhmkllfbagmaa.PFnExactTxFair
set_option linter.unusedVariables false
set_option linter.unusedSimpArgs false
def PrgL (P : LPar) (w0 : World) (T : List (List (List S63))) : Prop := ∃ AV cV, P.vT = .slice AV T.length cV ∧ T.length ≤ cV ∧ Kd.C (Kd.slice 61 (Kd.slice 63 k63)) w0 AV T.length T ∧ T.length = P.n
theorem Led.thr {P : LPar} {w0 w : World} {D : LDyn} {S : St} {T : List (List (List S63))} (h : Led P w0 w D S) (hP : PrgL P w0 T) (i : Nat) (hi : i < P.n) : ∃ ad cV A0 c0, w.cell? ⟨D.blk .g, 2, none⟩ = some (.slice (some ad) P.n cV) ∧ w.cell? (ad.add i) = some (.slice A0 (thr T i).length c0) ∧ (thr T i).length ≤ c0 ∧ (Kd.slice 63 k63).C w A0 (thr T i).length (thr T i) := by
  obtain ⟨AV, cV, e, hc, hC, hn⟩ := hP
  obtain ⟨ad, A0, c0, rfl, h1, h2, h3⟩ := at_L6 (Kd.C_below hC h.below) (i : Int) (by omega) (by omega)
  have g2 := h.g 2 (by decide)
  simp only [gJ, e] at g2
  rw [hn] at g2
  exact ⟨ad, cV, A0, c0, g2, h1, h2, h3⟩
set_option maxHeartbeats 8000000 in
set_option maxRecDepth 100000 in
theorem isDoneL (P : LPar) (w0 w : World) (D : LDyn) (S : St) (T : List (List (List S63))) (i : Nat) (h : Led P w0 w D S) (hP : PrgL P w0 T) (hi : i < P.n) (hn : P.n ≤ 1000) :
    Calls Try.prog 43 #[.pointer (some ⟨D.blk .g, 0, none⟩), .int .i64 (i : Int)] w fun e w' => e = .returned (.bool (decide (S.tx i ≥ ((thr T i).length : Int)))) ∧ Led P w0 w' D S ∧ FrL P w w' D D := by
  have hin := eq_true (show (i : Int) < (P.n : Int) by omega)
  have hind := decide_eq_false (show ¬ (i : Int) ≥ (P.n : Int) by omega)
  have hi1 := decide_eq_false (show ¬ (i : Int) < 0 by omega)
  have g6 := h.g 6 (by decide)
  simp only [gJ] at g6
  have pi := h.p i hi
  have a0 := h.a i hi 0 (by decide)
  simp only [aJ] at a0
  obtain ⟨ad, cV, A0, c0, g2, l1, hl, hr⟩ := h.thr hP i hi
  obtain ⟨m, hm⟩ : ∃ m, (Tx.thr T i).length = m := ⟨_, rfl⟩
  rw [hm] at l1 ⊢
  have H := Lib.hid h
  clear h hr hl hm hP
  go_enter Try.func43, Try.ntmps43
  go_wp2_with fail
  go_quiet (fail)
  go_wp2_with fail
  go_ret
  refine ⟨?_, H.out.step (pw_below_drewN (Below.refl _ _) _), FrL.below D (pw_below_drewN (Below.refl _ _) _)⟩
  show Ending.returned (.bool (decide (P.n ≤ i) || decide ((m : Int) ≤ S.tx i))) = _
  rw [decide_eq_false (show ¬ P.n ≤ i by omega), Bool.false_or]
end Go.Proofs.Ytonhmkllfbagmaa.Tx
/- Transactions: turns of the ledger that goOn makes. -/
namespace Go.Proofs.Ytonhmkllfbagmaa.Tx
open Go.RowKit Go.Proofs.YtonhmkllfbagmaaW.PrintWords Go.Proofs.YtonhmkllfbagmaaW.PrintLast Go.Proofs.YtonhmkllfbagmaaW.PrintMore Go.Proofs.Ytonhmkllfbagmaa.PFnExactTxFair
set_option linter.unusedVariables false
set_option linter.unusedSimpArgs false
theorem step1_goes (man : Int) (nc : Nat) (T : List (List (List S63))) (S : St) (i : Nat) (x : Int) : step1 man nc T { S with goes := x } i = { step1 man nc T S i with goes := x } := by
  have e1 : ∀ y : S63, act { S with goes := x } i y = { act S i y with goes := x } := by
    intro y
    unfold act
    have e : ∀ c, see { S with goes := x } i c = ((see S i c).1, { (see S i c).2 with goes := x }) := by intro c; unfold see; show (if S.wrote i c = true then _ else _) = _; by_cases h : S.wrote i c = true <;> simp [h]
    rw [e]
    by_cases h1 : y.f0 = 1
    · rw [if_pos h1, if_pos h1]; rfl
    · rw [if_neg h1, if_neg h1]
      by_cases h2 : y.f0 = 2
      · rw [if_pos h2, if_pos h2]; rfl
      · rw [if_neg h2, if_neg h2]; rfl
  have e1' : ∀ (Z : St) (y : S63), act { Z with goes := x } i y = { act Z i y with goes := x } := by
    intro Z y
    unfold act
    have e : ∀ c, see { Z with goes := x } i c = ((see Z i c).1, { (see Z i c).2 with goes := x }) := by intro c; unfold see; show (if Z.wrote i c = true then _ else _) = _; by_cases h : Z.wrote i c = true <;> simp [h]
    rw [e]
    by_cases h1 : y.f0 = 1
    · rw [if_pos h1, if_pos h1]; rfl
    · rw [if_neg h1, if_neg h1]
      by_cases h2 : y.f0 = 2
      · rw [if_pos h2, if_pos h2]; rfl
      · rw [if_neg h2, if_neg h2]; rfl
  have e2 : ∀ c, own man { S with goes := x } i c = ((own man S i c).1, { (own man S i c).2 with goes := x }) := by
    intro c
    unfold own
    show (if S.owners c = -1 ∨ S.owners c = (i : Int) then _ else _) = _
    by_cases h1 : S.owners c = -1 ∨ S.owners c = (i : Int)
    · rw [if_pos h1, if_pos h1]
    · rw [if_neg h1, if_neg h1]
      show (if man = 3 ∧ S.start (S.owners c).toNat ≤ S.start i then _ else _) = _
      by_cases h2 : man = 3 ∧ S.start (S.owners c).toNat ≤ S.start i
      · rw [if_pos h2, if_pos h2]; rfl
      · rw [if_neg h2, if_neg h2]
        show (if man = 2 ∨ man = 3 ∨ (man = 4 ∧ S.weight (S.owners c).toNat < S.weight i) then _ else _) = _
        by_cases h3 : man = 2 ∨ man = 3 ∨ (man = 4 ∧ S.weight (S.owners c).toNat < S.weight i)
        · rw [if_pos h3, if_pos h3]; rfl
        · rw [if_neg h3, if_neg h3]; rfl
  unfold step1
  show (if conf S nc i = true then _ else if S.at_ i = ((opsOf T S i).length : Int) then _ else if ((opsOf T S i).getD (S.at_ i).toNat z63).f0 = 1 then act { S with goes := x } i ((opsOf T S i).getD (S.at_ i).toNat z63) else if (own man { S with goes := x } i ((opsOf T S i).getD (S.at_ i).toNat z63).f1.toNat).1 = true then act (own man { S with goes := x } i ((opsOf T S i).getD (S.at_ i).toNat z63).f1.toNat).2 i ((opsOf T S i).getD (S.at_ i).toNat z63) else (own man { S with goes := x } i ((opsOf T S i).getD (S.at_ i).toNat z63).f1.toNat).2) = _
  rw [e2]
  by_cases h1 : conf S nc i = true
  · rw [if_pos h1, if_pos h1]; rfl
  rw [if_neg h1, if_neg h1]
  by_cases h2 : S.at_ i = ((opsOf T S i).length : Int)
  · rw [if_pos h2, if_pos h2]; rfl
  rw [if_neg h2, if_neg h2]
  by_cases h3 : ((opsOf T S i).getD (S.at_ i).toNat z63).f0 = 1
  · rw [if_pos h3, if_pos h3]; exact e1 _
  rw [if_neg h3, if_neg h3]
  by_cases h4 : (own man S i ((opsOf T S i).getD (S.at_ i).toNat z63).f1.toNat).1 = true
  · rw [if_pos h4, if_pos h4]; exact e1' _ _
  rw [if_neg h4, if_neg h4]
section
variable {P : LPar} {w0 w w' : World} {D : LDyn} {S : St}
theorem seen_begin (nc : Nat) (S : St) (i : Nat) : seenF nc (begin_ S i) i = fun _ => none := by
  funext c
  refine if_neg (fun hh => ?_)
  have h4 : 0 ≤ up S.read i (fun _ => -1) i c.toNat := hh.2.2.2
  rw [up_self] at h4
  have : (0 : Int) ≤ -1 := h4
  omega
theorem kept_begin (nc : Nat) (S : St) (i : Nat) : keptF nc (begin_ S i) i = fun _ => none := by
  funext c
  refine if_neg (fun hh => ?_)
  have h4 : up S.wrote i (fun _ => false) i c.toNat = true := hh.2.2.2
  rw [up_self] at h4
  cases h4
theorem begin_out (nc : Nat) (S : St) (i l : Nat) (h : l ≠ i) : seenF nc (begin_ S i) l = seenF nc S l ∧ keptF nc (begin_ S i) l = keptF nc S l ∧ opA (begin_ S i) l = opA S l := by
  have b : (begin_ S i).begun l = S.begun l := up_ne _ _ _ _ h
  have r : (begin_ S i).read l = S.read l := up_ne _ _ _ _ h
  have wr : (begin_ S i).wrote l = S.wrote l := up_ne _ _ _ _ h
  have k : (begin_ S i).kept l = S.kept l := up_ne _ _ _ _ h
  have a : (begin_ S i).at_ l = S.at_ l := up_ne _ _ _ _ h
  unfold seenF keptF opA
  rw [b, r, wr, k, a]
  exact ⟨rfl, rfl, rfl⟩
theorem opA_begin (S : St) (i : Nat) : opA (begin_ S i) i = 0 := by
  unfold opA
  have b : (begin_ S i).begun i = true := up_self _ _ _
  rw [if_pos b]
  exact up_self _ _ _
/-- A try of a transaction that some try has begun before. -/
theorem Led.begin1 (h : Led P w0 w D S) (i : Nat) (hi : i < P.n) (hb : S.begun i = false) (hs : S.started i = true) : Led P w0 w D (begin_ S i) := by
  refine h.same _ rfl (fun j hj => ?_) (fun l hl hsl => ?_)
  · cases j <;> first | exact fun _ _ => rfl | skip
    · rename_i l
      intro m hm
      show aJ D (begin_ S i) l m = aJ D S l m
      by_cases e : l = i
      · subst e
        match m with
        | 0 | 1 | 3 | 4 | 6 => rfl
        | 2 => show Value.int .i64 (opA (begin_ S l) l) = Value.int .i64 (opA S l); rw [opA_begin]; unfold opA; rw [if_neg (by rw [hb]; decide)]
        | 5 => show Value.bool (up S.started l true l) = Value.bool (S.started l); rw [up_self, hs]
        | m + 7 => rfl
      · match m with
        | 0 | 1 | 3 | 4 | 6 => rfl
        | 2 => show Value.int .i64 (opA (begin_ S i) l) = Value.int .i64 (opA S l); rw [(begin_out P.nc S i l e).2.2]
        | 5 => show Value.bool (up S.started i true l) = Value.bool (S.started l); rw [up_ne _ _ _ _ e]
        | m + 7 => rfl
    · rename_i l
      show seenF P.nc (begin_ S i) l = seenF P.nc S l
      by_cases e : l = i
      · subst e; rw [seen_begin, seen_off _ _ _ hb]
      · exact (begin_out P.nc S i l e).1
    · rename_i l
      show keptF P.nc (begin_ S i) l = keptF P.nc S l
      by_cases e : l = i
      · subst e; rw [kept_begin, kept_off _ _ _ hb]
      · exact (begin_out P.nc S i l e).2.1
  · show D.st l = up S.start i (if S.started i = true then S.start i else S.goes) l ∧ D.wt l = up S.weight i (if S.started i = true then S.weight i else 0) l
    by_cases e : l = i
    · subst e
      rw [up_self, up_self, if_pos hs, if_pos hs]
      exact h.sw l hl hs
    · rw [up_ne _ _ _ _ e, up_ne _ _ _ _ e]
      have : up S.started i true l = true := hsl
      rw [up_ne _ _ _ _ e] at this
      exact h.sw l hl this
/-- The first try of a transaction. -/
theorem Led.begin2 (h : Led P w0 w D S) (i : Nat) (hi : i < P.n) (hb : S.begun i = false) (hs : S.started i = false) :
    Led P w0 (((w.setCell ⟨D.blk (.a i), 5, none⟩ (.bool true)).setCell ⟨D.blk (.a i), 3, none⟩ (.int .i64 S.goes)).setCell ⟨D.blk (.a i), 4, none⟩ (.int .i64 0)) { D with st := up D.st i S.goes, wt := up D.wt i 0 } (begin_ S i) ∧
    FrL P w (((w.setCell ⟨D.blk (.a i), 5, none⟩ (.bool true)).setCell ⟨D.blk (.a i), 3, none⟩ (.int .i64 S.goes)).setCell ⟨D.blk (.a i), 4, none⟩ (.int .i64 0)) D { D with st := up D.st i S.goes, wt := up D.wt i 0 } := by
  have hg := h.ge (.a i) hi
  refine h.turn (fun j => j = .a i) (((h.below.setCell (p := ⟨D.blk (.a i), 5, none⟩) hg _).setCell (p := ⟨D.blk (.a i), 3, none⟩) hg _).setCell (p := ⟨D.blk (.a i), 4, none⟩) hg _) (by simp [World.setCell])
    (fun b hb' hn => (Below.heap_setCell _ _ _ b (hn (.a i) hi rfl)).trans ((Below.heap_setCell _ _ _ b (hn (.a i) hi rfl)).trans (Below.heap_setCell _ _ _ b (hn (.a i) hi rfl)))) rfl rfl ?_ (fun j l _ _ e1 e2 _ _ => e1.trans e2.symm) ?_ ?_
  · rintro j hj rfl
    refine ⟨?_, .inl rfl⟩
    have f0 : Fn w (D.blk (.a i)) 100 8 (aJ D S i) := h.at_ (.a i) hi
    have f1 := f0.set 5 (by decide) (.bool true) (g := fun m => if m = 5 then .bool true else aJ D S i m) rfl (fun m _ hm => by simp only [if_neg hm])
    have f2 := f1.set 3 (by decide) (.int .i64 S.goes) (g := fun m => if m = 5 then .bool true else if m = 3 then .int .i64 S.goes else aJ D S i m) rfl (fun m _ hm => by simp only [if_neg hm])
    refine f2.set 4 (by decide) (.int .i64 0) ?_ (fun m hm hne => ?_)
    · show Value.int .i64 (up D.wt i 0 i) = _; rw [up_self]
    · show aJ { D with st := up D.st i S.goes, wt := up D.wt i 0 } (begin_ S i) i m = _
      match m with
      | 0 | 1 | 6 => rfl
      | 2 => show Value.int .i64 (opA (begin_ S i) i) = Value.int .i64 (opA S i); rw [opA_begin]; unfold opA; rw [if_neg (by rw [hb]; decide)]
      | 3 => show Value.int .i64 (up D.st i S.goes i) = Value.int .i64 S.goes; rw [up_self]
      | 4 => exact absurd rfl hne
      | 5 => show Value.bool (up S.started i true i) = Value.bool true; rw [up_self]
      | m + 7 => rfl
  · intro j hj hn
    refine ⟨rfl, ?_⟩
    cases j <;> first | exact fun _ _ => rfl | skip
    · rename_i l
      have e : l ≠ i := fun e => hn (by rw [e])
      intro m hm
      show aJ { D with st := up D.st i S.goes, wt := up D.wt i 0 } (begin_ S i) l m = aJ D S l m
      match m with
      | 0 | 1 | 6 => rfl
      | 2 => show Value.int .i64 (opA (begin_ S i) l) = Value.int .i64 (opA S l); rw [(begin_out P.nc S i l e).2.2]
      | 3 => show Value.int .i64 (up D.st i S.goes l) = Value.int .i64 (D.st l); rw [up_ne _ _ _ _ e]
      | 4 => show Value.int .i64 (up D.wt i 0 l) = Value.int .i64 (D.wt l); rw [up_ne _ _ _ _ e]
      | 5 => show Value.bool (up S.started i true l) = Value.bool (S.started l); rw [up_ne _ _ _ _ e]
      | m + 7 => rfl
    · rename_i l
      show seenF P.nc (begin_ S i) l = seenF P.nc S l
      by_cases e : l = i
      · subst e; rw [seen_begin, seen_off _ _ _ hb]
      · exact (begin_out P.nc S i l e).1
    · rename_i l
      show keptF P.nc (begin_ S i) l = keptF P.nc S l
      by_cases e : l = i
      · subst e; rw [kept_begin, kept_off _ _ _ hb]
      · exact (begin_out P.nc S i l e).2.1
  · intro l hl hsl
    show up D.st i S.goes l = up S.start i (if S.started i = true then S.start i else S.goes) l ∧ up D.wt i 0 l = up S.weight i (if S.started i = true then S.weight i else 0) l
    by_cases e : l = i
    · subst e
      rw [up_self, up_self, up_self, up_self, if_neg (by rw [hs]; decide), if_neg (by rw [hs]; decide)]
      exact ⟨rfl, rfl⟩
    · rw [up_ne _ _ _ _ e, up_ne _ _ _ _ e, up_ne _ _ _ _ e, up_ne _ _ _ _ e]
      have : up S.started i true l = true := hsl
      rw [up_ne _ _ _ _ e] at this
      exact h.sw l hl this
theorem Led.setGoes (h : Led P w0 w D S) (x : Int) : Led P w0 (w.setCell ⟨D.blk .g, 7, none⟩ (.int .i64 x)) D { S with goes := x } ∧ FrL P w (w.setCell ⟨D.blk .g, 7, none⟩ (.int .i64 x)) D D := by
  refine h.cell .g trivial 7 _ rfl rfl rfl ?_ ?_ h.sw
  · exact Fn.set (h.at_ .g trivial) 7 (show 7 < 9 by decide) _ rfl (fun m hm hne => by
      show gJ P D { S with goes := x } m = gJ P D S m
      match m with
      | 0 | 1 | 2 | 3 | 4 | 5 | 6 => rfl
      | 7 => exact absurd rfl hne
      | m + 8 => rfl)
  · intro j hj hne
    cases j <;> first | exact absurd rfl hne | rfl | exact fun _ _ => rfl
theorem Led.setC (h : Led P w0 w D S) (k : Nat) (hk : k < P.nc) (x : Int) (f : Nat → Int) (h1 : f k = x) (h2 : ∀ m, m < P.nc → m ≠ k → f m = S.cells m) : Led P w0 (w.setCell ⟨D.blk .c, k, none⟩ (.int .i64 x)) D { S with cells := f } ∧ FrL P w (w.setCell ⟨D.blk .c, k, none⟩ (.int .i64 x)) D D := by
  refine h.cell .c trivial k _ rfl rfl rfl ?_ ?_ h.sw
  · exact Fn.set (h.at_ .c trivial) k hk _ (by show Value.int .i64 (f k) = _; rw [h1]) (fun m hm hne => by show Value.int .i64 (f m) = Value.int .i64 (S.cells m); rw [h2 m hm hne])
  · intro j hj hne
    cases j <;> first | exact absurd rfl hne | rfl | exact fun _ _ => rfl
theorem Led.setV (h : Led P w0 w D S) (k : Nat) (hk : k < P.nc) (x : Int) (f : Nat → Int) (h1 : f k = x) (h2 : ∀ m, m < P.nc → m ≠ k → f m = S.vers m) : Led P w0 (w.setCell ⟨D.blk .v, k, none⟩ (.int .i64 x)) D { S with vers := f } ∧ FrL P w (w.setCell ⟨D.blk .v, k, none⟩ (.int .i64 x)) D D := by
  refine h.cell .v trivial k _ rfl rfl rfl ?_ ?_ h.sw
  · exact Fn.set (h.at_ .v trivial) k hk _ (by show Value.int .i64 (f k) = _; rw [h1]) (fun m hm hne => by show Value.int .i64 (f m) = Value.int .i64 (S.vers m); rw [h2 m hm hne])
  · intro j hj hne
    cases j <;> first | exact absurd rfl hne | rfl | exact fun _ _ => rfl
/-- A store into a block that is none of the ledger's. -/
theorem Led.other (h : Led P w0 w D S) {r : Nat} (ho : OutL P D r) (hs : w.heap.size ≤ w'.heap.size) (hw : ∀ c, c ≠ r → w'.heap[c]? = w.heap[c]?) (hB : Below w0.heap.size w0 w') : Led P w0 w' D S := by
  refine ⟨fun j hj => atJ_move (h.at_ j hj) rfl (hw _ (fun e => ho.1 j hj e.symm)) ?_, h.ge, h.inj, ?_, h.sw, hB⟩
  · cases j <;> first | rfl | exact fun _ _ => rfl
  · exact Kd.R_reok rfl (Kd.R_step (ok := fun b => D.V.ownBlock = some b) (Kd.R_reok rfl h.ev (fun b hb => hb)) (fun b hb hlt => hw b (fun e => ho.2 (by rw [← e, hb])))) (fun b hb => h.ev.1 b hb)
theorem FrL.other {w1 w2 : World} {D1 : LDyn} (k : FrL P w w1 D D1) {r : Nat} (hr : w.heap.size ≤ r) (hs : w1.heap.size ≤ w2.heap.size) (hw : ∀ c, c ≠ r → w2.heap[c]? = w1.heap[c]?) : FrL P w w2 D D1 :=
  ⟨Nat.le_trans k.1 hs, fun b hb ho => by obtain ⟨a, e⟩ := k.2 b hb ho; exact ⟨a, (hw b (by omega)).trans e⟩⟩
/-- A commit's last three stores. -/
theorem Led.fin3 (h : Led P w0 w D S) (i : Nat) (hi : i < P.n) (x : Int) :
    Led P w0 (((w.setCell ⟨D.blk (.a i), 0, none⟩ (.int .i64 x)).setCell ⟨D.blk (.a i), 1, none⟩ (.int .i64 1)).setCell ⟨D.blk (.a i), 5, none⟩ (.bool false)) D { S with tx := up S.tx i x, try_ := up S.try_ i 1, started := up S.started i false } ∧
    FrL P w (((w.setCell ⟨D.blk (.a i), 0, none⟩ (.int .i64 x)).setCell ⟨D.blk (.a i), 1, none⟩ (.int .i64 1)).setCell ⟨D.blk (.a i), 5, none⟩ (.bool false)) D D := by
  have hg := h.ge (.a i) hi
  refine h.turn (fun j => j = .a i) (((h.below.setCell (p := ⟨D.blk (.a i), 0, none⟩) hg _).setCell (p := ⟨D.blk (.a i), 1, none⟩) hg _).setCell (p := ⟨D.blk (.a i), 5, none⟩) hg _) (by simp [World.setCell])
    (fun b hb' hn => (Below.heap_setCell _ _ _ b (hn (.a i) hi rfl)).trans ((Below.heap_setCell _ _ _ b (hn (.a i) hi rfl)).trans (Below.heap_setCell _ _ _ b (hn (.a i) hi rfl)))) rfl rfl ?_ (fun j l _ _ e1 e2 _ _ => e1.trans e2.symm) ?_ ?_
  · rintro j hj rfl
    refine ⟨?_, .inl rfl⟩
    have f0 : Fn w (D.blk (.a i)) 100 8 (aJ D S i) := h.at_ (.a i) hi
    have f1 := f0.set 0 (by decide) (.int .i64 x) (g := fun m => if m = 0 then .int .i64 x else aJ D S i m) rfl (fun m _ hm => by simp only [if_neg hm])
    have f2 := f1.set 1 (by decide) (.int .i64 1) (g := fun m => if m = 0 then .int .i64 x else if m = 1 then .int .i64 1 else aJ D S i m) rfl (fun m _ hm => by simp only [if_neg hm])
    refine f2.set 5 (by decide) (.bool false) ?_ (fun m hm hne => ?_)
    · show Value.bool (up S.started i false i) = _; rw [up_self]
    · match m with
      | 0 => show Value.int .i64 (up S.tx i x i) = Value.int .i64 x; rw [up_self]
      | 1 => show Value.int .i64 (up S.try_ i 1 i) = Value.int .i64 1; rw [up_self]
      | 2 | 3 | 4 | 6 => rfl
      | 5 => exact absurd rfl hne
      | m + 7 => rfl
  · intro j hj hn
    refine ⟨rfl, ?_⟩
    cases j <;> first | rfl | exact fun _ _ => rfl | skip
    rename_i l
    have e : l ≠ i := fun e => hn (by rw [e])
    intro m hm
    match m with
    | 0 => show Value.int .i64 (up S.tx i x l) = Value.int .i64 (S.tx l); rw [up_ne _ _ _ _ e]
    | 1 => show Value.int .i64 (up S.try_ i 1 l) = Value.int .i64 (S.try_ l); rw [up_ne _ _ _ _ e]
    | 2 | 3 | 4 | 6 => rfl
    | 5 => show Value.bool (up S.started i false l) = Value.bool (S.started l); rw [up_ne _ _ _ _ e]
    | m + 7 => rfl
  · intro l hl hsl
    have hsl' : up S.started i false l = true := hsl
    by_cases e : l = i
    · subst e; rw [up_self] at hsl'; cases hsl'
    · rw [up_ne _ _ _ _ e] at hsl'; exact h.sw l hl hsl'
end
end Go.Proofs.Ytonhmkllfbagmaa.Tx
