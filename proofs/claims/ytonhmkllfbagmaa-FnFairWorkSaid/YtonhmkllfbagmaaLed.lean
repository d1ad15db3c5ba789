/- Transactions: the program's ledger in memory. -/
import Derived.Test.YtonhmkllfbagmaaRunB
import Derived.Test.YtonhmkllfbagmaaIMap
import Derived.Maps.Range
namespace Go.Proofs.Ytonhmkllfbagmaa.Tx
open Go.RowKit Go.Proofs.YtonhmkllfbagmaaW.PrintWords Go.Proofs.YtonhmkllfbagmaaW.PrintLast Go.Proofs.YtonhmkllfbagmaaW.PrintMore Go.Proofs.Ytonhmkllfbagmaa.PFnExactTxFair
set_option linter.unusedVariables false
set_option linter.unusedSimpArgs false
inductive Jx where
  | g | c | v | o | p
  | a (i : Nat)
  | s (i : Nat)
  | k (i : Nat)
deriving DecidableEq
structure LPar where
  nc : Nat
  n : Nat
  man : Int
  vC : Value
  vT : Value
  cC : Nat
  cV : Nat
  cO : Nat
  cP : Nat
/-- Where the blocks are, the events' slice; each try's start and weight as they stand in memory. -/
structure LDyn where
  blk : Jx → Nat
  V : Value
  st : Nat → Int
  wt : Nat → Int
def okJ (P : LPar) : Jx → Prop
  | .a i => i < P.n
  | .s i => i < P.n
  | .k i => i < P.n
  | _ => True
def tyJ : Jx → TypeId
  | .g => 96
  | .p => 97
  | .a _ => 100
  | _ => 3
def szJ (P : LPar) : Jx → Nat
  | .g => 9
  | .p => P.n
  | .a _ => 8
  | _ => P.nc
def gJ (P : LPar) (D : LDyn) (S : St) : Nat → Value
  | 0 => P.vC
  | 1 => .int .i64 P.man
  | 2 => P.vT
  | 3 => .slice (some ⟨D.blk .c, 0, none⟩) P.nc P.cC
  | 4 => .slice (some ⟨D.blk .v, 0, none⟩) P.nc P.cV
  | 5 => .slice (some ⟨D.blk .o, 0, none⟩) P.nc P.cO
  | 6 => .slice (some ⟨D.blk .p, 0, none⟩) P.n P.cP
  | 7 => .int .i64 S.goes
  | _ => D.V
def opA (S : St) (i : Nat) : Int := if S.begun i = true then S.at_ i else 0
def aJ (D : LDyn) (S : St) (i : Nat) : Nat → Value
  | 0 => .int .i64 (S.tx i)
  | 1 => .int .i64 (S.try_ i)
  | 2 => .int .i64 (opA S i)
  | 3 => .int .i64 (D.st i)
  | 4 => .int .i64 (D.wt i)
  | 5 => .bool (S.started i)
  | 6 => .map (some (D.blk (.s i)))
  | _ => .map (some (D.blk (.k i)))
def rowJ (P : LPar) (D : LDyn) (S : St) : Jx → Nat → Value
  | .g => gJ P D S
  | .c => fun k => .int .i64 (S.cells k)
  | .v => fun k => .int .i64 (S.vers k)
  | .o => fun k => .int .i64 (S.owners k)
  | .p => fun k => .pointer (some ⟨D.blk (.a k), 0, none⟩)
  | .a i => aJ D S i
  | _ => fun _ => undef
def seenF (nc : Nat) (S : St) (i : Nat) : Int → Option Value := fun c => if S.begun i = true ∧ 0 ≤ c ∧ c < (nc : Int) ∧ 0 ≤ S.read i c.toNat then some (.int .i64 (S.read i c.toNat)) else none
def keptF (nc : Nat) (S : St) (i : Nat) : Int → Option Value := fun c => if S.begun i = true ∧ 0 ≤ c ∧ c < (nc : Int) ∧ S.wrote i c.toNat = true then some (.int .i64 (S.kept i c.toNat)) else none
def Mp (w : World) (b : Nat) (f : Int → Option Value) : Prop := ∃ n, IM.MapIs w b n f
theorem Mp.lt {w : World} {b : Nat} {f : Int → Option Value} (h : Mp w b f) : b < w.heap.size := by obtain ⟨n, h⟩ := h; exact h.lt
theorem Mp.move {w w' : World} {b : Nat} {f : Int → Option Value} (h : Mp w b f) (hb : w'.heap[b]? = w.heap[b]?) : Mp w' b f := by obtain ⟨n, h⟩ := h; exact ⟨n, h.of_block hb⟩
def atJ (P : LPar) (D : LDyn) (S : St) (w : World) : Jx → Prop
  | .s i => Mp w (D.blk (.s i)) (seenF P.nc S i)
  | .k i => Mp w (D.blk (.k i)) (keptF P.nc S i)
  | j => Fn w (D.blk j) (tyJ j) (szJ P j) (rowJ P D S j)
def sameJ (P : LPar) (D : LDyn) (S : St) (D' : LDyn) (S' : St) : Jx → Prop
  | .s i => seenF P.nc S' i = seenF P.nc S i
  | .k i => keptF P.nc S' i = keptF P.nc S i
  | j => ∀ m, m < szJ P j → rowJ P D' S' j m = rowJ P D S j m
theorem atJ_lt {P : LPar} {D : LDyn} {S : St} {w : World} {j : Jx} (h : atJ P D S w j) : D.blk j < w.heap.size := by
  cases j with
  | s i => exact Mp.lt h
  | k i => exact Mp.lt h
  | _ => exact Fn.lt h
theorem atJ_move {P : LPar} {D D' : LDyn} {S S' : St} {w w' : World} {j : Jx} (h : atJ P D S w j) (hb : D'.blk j = D.blk j) (hw : w'.heap[D.blk j]? = w.heap[D.blk j]?) (hs : sameJ P D S D' S' j) : atJ P D' S' w' j := by
  cases j with
  | s i => 
    have h1 : Mp w (D.blk (.s i)) (seenF P.nc S i) := h
    have h2 : seenF P.nc S' i = seenF P.nc S i := hs
    show Mp w' (D'.blk (.s i)) (seenF P.nc S' i)
    rw [hb, h2]; exact h1.move hw
  | k i =>
    have h1 : Mp w (D.blk (.k i)) (keptF P.nc S i) := h
    have h2 : keptF P.nc S' i = keptF P.nc S i := hs
    show Mp w' (D'.blk (.k i)) (keptF P.nc S' i)
    rw [hb, h2]; exact h1.move hw
  | g => show Fn w' (D'.blk .g) _ _ _; rw [hb]; exact (Fn.move h hw).ext hs
  | c => show Fn w' (D'.blk .c) _ _ _; rw [hb]; exact (Fn.move h hw).ext hs
  | v => show Fn w' (D'.blk .v) _ _ _; rw [hb]; exact (Fn.move h hw).ext hs
  | o => show Fn w' (D'.blk .o) _ _ _; rw [hb]; exact (Fn.move h hw).ext hs
  | p => show Fn w' (D'.blk .p) _ _ _; rw [hb]; exact (Fn.move h hw).ext hs
  | a i => show Fn w' (D'.blk (.a i)) _ _ _; rw [hb]; exact (Fn.move h hw).ext hs
structure Led (P : LPar) (w0 w : World) (D : LDyn) (S : St) : Prop where
  at_ : ∀ j, okJ P j → atJ P D S w j
  ge : ∀ j, okJ P j → w0.heap.size ≤ D.blk j
  inj : ∀ j l, okJ P j → okJ P l → D.blk j = D.blk l → j = l
  ev : k53.R 53 w w0.heap.size (fun b => ∀ j, okJ P j → b ≠ D.blk j) D.V S.events
  sw : ∀ i, i < P.n → S.started i = true → D.st i = S.start i ∧ D.wt i = S.weight i
  below : Below w0.heap.size w0 w
/-- A block that is none of the ledger's. -/
def OutL (P : LPar) (D : LDyn) (b : Nat) : Prop := (∀ j, okJ P j → b ≠ D.blk j) ∧ some b ≠ D.V.ownBlock
def FrL (P : LPar) (w w' : World) (D D' : LDyn) : Prop := w.heap.size ≤ w'.heap.size ∧ ∀ b, b < w.heap.size → OutL P D b → OutL P D' b ∧ w'.heap[b]? = w.heap[b]?
section
variable {P : LPar} {w0 w w' : World} {D D' : LDyn} {S S' : St}
theorem FrL.refl (P : LPar) (w : World) (D : LDyn) : FrL P w w D D := ⟨Nat.le_refl _, fun _ _ h => ⟨h, rfl⟩⟩
theorem FrL.trans {w1 w2 : World} {D1 D2 : LDyn} (h : FrL P w w1 D D1) (k : FrL P w1 w2 D1 D2) : FrL P w w2 D D2 :=
  ⟨Nat.le_trans h.1 k.1, fun b hb ho => by obtain ⟨a, e⟩ := h.2 b hb ho; obtain ⟨a2, e2⟩ := k.2 b (Nat.lt_of_lt_of_le hb h.1) a; exact ⟨a2, e2.trans e⟩⟩
theorem FrL.below {w1 : World} (D : LDyn) (h : Below w.heap.size w w1) : FrL P w w1 D D := ⟨h.size, fun b hb ho => ⟨ho, h.block b hb⟩⟩
theorem Led.lt (h : Led P w0 w D S) (j : Jx) (hj : okJ P j) : D.blk j < w.heap.size := atJ_lt (h.at_ j hj)
theorem Led.ne (h : Led P w0 w D S) {j l : Jx} (hj : okJ P j) (hl : okJ P l) (hn : j ≠ l) : D.blk j ≠ D.blk l := fun e => hn (h.inj j l hj hl e)
theorem Led.Vlt (h : Led P w0 w D S) {b : Nat} (hb : D.V.ownBlock = some b) : w0.heap.size ≤ b ∧ b < w.heap.size ∧ ∀ j, okJ P j → b ≠ D.blk j := by
  have := (Kd.R_bound h.ev).1 b hb
  exact ⟨this.2.1, this.2.2.1, this.1⟩
/-- A turn of some blocks (X), each in its place or in a new one. -/
theorem Led.turn (h : Led P w0 w D S) (X : Jx → Prop) (hB : Below w0.heap.size w0 w') (hs : w.heap.size ≤ w'.heap.size) (hw : ∀ b, b < w.heap.size → (∀ j, okJ P j → X j → b ≠ D.blk j) → w'.heap[b]? = w.heap[b]?) (hV : D'.V = D.V) (hE : S'.events = S.events)
    (hX : ∀ j, okJ P j → X j → atJ P D' S' w' j ∧ (D'.blk j = D.blk j ∨ w.heap.size ≤ D'.blk j)) (hinj : ∀ j l, okJ P j → okJ P l → X j → X l → w.heap.size ≤ D'.blk j → D'.blk j = D'.blk l → j = l)
    (hN : ∀ j, okJ P j → ¬ X j → D'.blk j = D.blk j ∧ sameJ P D S D' S' j) (hsw : ∀ i, i < P.n → S'.started i = true → D'.st i = S'.start i ∧ D'.wt i = S'.weight i) :
    Led P w0 w' D' S' ∧ FrL P w w' D D' := by
  have hb : ∀ j, okJ P j → D'.blk j = D.blk j ∨ (X j ∧ w.heap.size ≤ D'.blk j) := fun j hj => by
    by_cases x : X j
    · exact (hX j hj x).2.imp id (fun e => ⟨x, e⟩)
    · exact .inl (hN j hj x).1
  refine ⟨⟨fun j hj => ?_, fun j hj => ?_, fun j l hj hl e => ?_, ?_, hsw, hB⟩, hs, fun b hlt ho => ⟨⟨fun j hj => ?_, by rw [hV]; exact ho.2⟩, hw b hlt (fun j hj _ => ho.1 j hj)⟩⟩
  · by_cases x : X j
    · exact (hX j hj x).1
    · obtain ⟨a, b⟩ := hN j hj x
      exact atJ_move (h.at_ j hj) a (hw _ (h.lt j hj) (fun l hl xl => h.ne hj hl (fun e => x (e ▸ xl)))) b
  · rcases hb j hj with e | ⟨-, e⟩
    · rw [e]; exact h.ge j hj
    · have := h.below.size; omega
  · rcases hb j hj with e1 | ⟨x1, e1⟩ <;> rcases hb l hl with e2 | ⟨x2, e2⟩
    · rw [e1, e2] at e; exact h.inj j l hj hl e
    · have := h.lt j hj; omega
    · have := h.lt l hl; omega
    · exact hinj j l hj hl x1 x2 e1 e
  · rw [hV, hE]
    refine Kd.R_mono (Kd.R_step (Kd.R_bound h.ev) (fun b hb' hlt => hw b hlt (fun j hj _ => hb'.1 j hj))) (fun b hb' j hj => ?_)
    rcases hb j hj with e | ⟨-, e⟩
    · rw [e]; exact hb'.1 j hj
    · have := hb'.2.2.1; omega
  · rcases hb j hj with e | ⟨-, e⟩
    · rw [e]; exact ho.1 j hj
    · omega
theorem Led.step (h : Led P w0 w D S) (hb : Below w.heap.size w w') : Led P w0 w' D S :=
  (h.turn (fun _ => False) (below_step h.below hb) hb.size (fun b hlt _ => hb.block b hlt) rfl rfl (fun _ _ x => x.elim) (fun _ _ _ _ x => x.elim) (fun j hj _ => ⟨rfl, by cases j <;> first | rfl | exact fun _ _ => rfl⟩) h.sw).1
/-- One store into a cell. -/
theorem Led.cell (h : Led P w0 w D S) (i : Jx) (hi : okJ P i) (k : Nat) (v : Value) (hb : D'.blk = D.blk) (hV : D'.V = D.V) (hE : S'.events = S.events) (hx : atJ P D' S' (w.setCell ⟨D.blk i, k, none⟩ v) i)
    (hN : ∀ j, okJ P j → j ≠ i → sameJ P D S D' S' j) (hsw : ∀ i, i < P.n → S'.started i = true → D'.st i = S'.start i ∧ D'.wt i = S'.weight i) : Led P w0 (w.setCell ⟨D.blk i, k, none⟩ v) D' S' ∧ FrL P w (w.setCell ⟨D.blk i, k, none⟩ v) D D' :=
  h.turn (fun j => j = i) (h.below.setCell (p := ⟨D.blk i, k, none⟩) (h.ge i hi) v) (by simp [World.setCell]) (fun b hlt hn => Below.heap_setCell w _ v b (hn i hi rfl)) hV hE (fun j hj e => by subst e; exact ⟨hx, .inl (by rw [hb])⟩)
    (fun j l _ _ e1 e2 _ _ => e1.trans e2.symm) (fun j hj e => ⟨by rw [hb], hN j hj e⟩) hsw
theorem Led.fresh (h : Led P w0 w D S) (b : Nat) (hb : w.heap.size ≤ b) : OutL P D b :=
  ⟨fun j hj e => by have := h.lt j hj; omega, fun e => by have := (h.Vlt e.symm).2.1; omega⟩
theorem Led.g (h : Led P w0 w D S) (k : Nat) (hk : k < 9) : w.cell? ⟨D.blk .g, k, none⟩ = some (gJ P D S k) := Fn.cell (h.at_ .g trivial) k hk
theorem Led.c (h : Led P w0 w D S) (k : Nat) (hk : k < P.nc) : w.cell? ⟨D.blk .c, k, none⟩ = some (.int .i64 (S.cells k)) := Fn.cell (h.at_ .c trivial) k hk
theorem Led.v (h : Led P w0 w D S) (k : Nat) (hk : k < P.nc) : w.cell? ⟨D.blk .v, k, none⟩ = some (.int .i64 (S.vers k)) := Fn.cell (h.at_ .v trivial) k hk
theorem Led.o (h : Led P w0 w D S) (k : Nat) (hk : k < P.nc) : w.cell? ⟨D.blk .o, k, none⟩ = some (.int .i64 (S.owners k)) := Fn.cell (h.at_ .o trivial) k hk
theorem Led.p (h : Led P w0 w D S) (k : Nat) (hk : k < P.n) : w.cell? ⟨D.blk .p, k, none⟩ = some (.pointer (some ⟨D.blk (.a k), 0, none⟩)) := Fn.cell (h.at_ .p trivial) k hk
theorem Led.a (h : Led P w0 w D S) (i : Nat) (hi : i < P.n) (f : Nat) (hf : f < 8) : w.cell? ⟨D.blk (.a i), f, none⟩ = some (aJ D S i f) := Fn.cell (h.at_ (.a i) hi) f hf
theorem Led.s (h : Led P w0 w D S) (i : Nat) (hi : i < P.n) : Mp w (D.blk (.s i)) (seenF P.nc S i) := h.at_ (.s i) hi
theorem Led.k (h : Led P w0 w D S) (i : Nat) (hi : i < P.n) : Mp w (D.blk (.k i)) (keptF P.nc S i) := h.at_ (.k i) hi
theorem Led.thawG (h : Led P w0 w D S) (k : Nat) : w.frozen? ⟨D.blk .g, k, none⟩ = false := Fn.thaw (h.at_ .g trivial) k
theorem Led.thawC (h : Led P w0 w D S) (k : Nat) : w.frozen? ⟨D.blk .c, k, none⟩ = false := Fn.thaw (h.at_ .c trivial) k
theorem Led.thawV (h : Led P w0 w D S) (k : Nat) : w.frozen? ⟨D.blk .v, k, none⟩ = false := Fn.thaw (h.at_ .v trivial) k
theorem Led.thawO (h : Led P w0 w D S) (k : Nat) : w.frozen? ⟨D.blk .o, k, none⟩ = false := Fn.thaw (h.at_ .o trivial) k
theorem Led.thawA (h : Led P w0 w D S) (i : Nat) (hi : i < P.n) (k : Nat) : w.frozen? ⟨D.blk (.a i), k, none⟩ = false := Fn.thaw (h.at_ (.a i) hi) k
end
/-! range over a map -/
/-- 'for k, v := range m' under way: block b is a map that holds f, block r an iterator over it; left says what is still to come, cnt how many. -/
def Rng (w : World) (b r : Nat) (f : Int → Option Value) (left : Int → Bool) (cnt : Nat) : Prop :=
  ∃ es clock since seen c0, w.heap[b]? = some (.map es clock) ∧ MapKept.Stamped es clock ∧ w.heap[r]? = some (.mapIter (some b) since seen c0) ∧ (∀ x ∈ es.toList, x.born < since) ∧ since ≤ c0 ∧ since ≤ clock ∧ (leftOf es seen).size = cnt ∧
    (∀ e ∈ es.toList, ∃ k, e.key = .int .i64 k ∧ f k = some e.val ∧ left k = !seen.contains e.born) ∧ (∀ k, left k = true → ∃ e ∈ es.toList, e.key = .int .i64 k)
theorem Rng.kept {w w' : World} {b r : Nat} {f : Int → Option Value} {left : Int → Bool} {cnt : Nat} (h : Rng w b r f left cnt) (hb : w'.heap[b]? = w.heap[b]?) (hr : w'.heap[r]? = w.heap[r]?) : Rng w' b r f left cnt := by
  obtain ⟨es, clock, since, seen, c0, h1, h2, h3, r⟩ := h
  exact ⟨es, clock, since, seen, c0, hb.trans h1, h2, hr.trans h3, r⟩
theorem Rng.lt {w : World} {b r : Nat} {f : Int → Option Value} {left : Int → Bool} {cnt : Nat} (h : Rng w b r f left cnt) : r < w.heap.size := by
  obtain ⟨es, clock, since, seen, c0, h1, h2, h3, _⟩ := h
  exact (Array.getElem?_eq_some_iff.1 h3).1
/-- How many are still to come, read off the world: a measure. -/
def rngLeft (w : World) (b r : Nat) : Nat :=
  match w.heap[b]?, w.heap[r]? with
  | some (.map es _), some (.mapIter _ _ seen _) => (leftOf es seen).size
  | _, _ => 0
theorem Rng.left_eq {w : World} {b r : Nat} {f : Int → Option Value} {left : Int → Bool} {cnt : Nat} (h : Rng w b r f left cnt) : rngLeft w b r = cnt := by
  obtain ⟨es, clock, since, seen, c0, h1, h2, h3, _, _, _, h4, _⟩ := h
  simp only [rngLeft, h1, h3]
  exact h4
theorem Mp.range {P : Program} {w : World} {b : Nat} {f : Int → Option Value} (h : Mp w b f) {t k e : TypeId} (ht : P.underlying t = some (.map k e)) :
    ∃ w' cnt, (Instr.range t (.map (some b))).run P w = .ok (.pointer (some ⟨w.heap.size, 0, none⟩)) w' ∧ Rng w' b w.heap.size f (fun x => (f x).isSome) cnt ∧ Below w.heap.size w w' ∧ w'.heap.size = w.heap.size + 1 := by
  obtain ⟨n, es, clock, hb, hst, _, h1, h2⟩ := h
  have hlt : b < w.heap.size := (Array.getElem?_eq_some_iff.1 hb).1
  refine ⟨_, _, run_range_map w t k e b es clock ht hb, ⟨es, clock, clock, #[], clock, (heap_alloc_old w _ hlt).trans hb, hst, heap_alloc_new w _, hst.1, Nat.le_refl _, Nat.le_refl _, rfl, ?_, ?_⟩, below_alloc (Below.refl _ _) _, by simp⟩
  · intro x hx
    obtain ⟨k', hk, hf⟩ := h1 x hx
    refine ⟨k', hk, hf, ?_⟩
    show (f k').isSome = _
    rw [hf]; simp
  · intro k' hk
    obtain ⟨v, hv⟩ := Option.isSome_iff_exists.1 hk
    obtain ⟨x, hx, hxk, _⟩ := h2 k' v hv
    exact ⟨x, hx, hxk⟩
theorem Rng.next {P : Program} {w : World} {b r : Nat} {f : Int → Option Value} {left : Int → Bool} {cnt : Nat} (h : Rng w b r f left cnt) (ty : TypeId) :
    (cnt = 0 ∧ (∀ k, left k = false) ∧ (Instr.next (.pointer (some ⟨r, 0, none⟩)) false ty).run P w = .ok (.tuple #[.bool false]) w) ∨
    ∃ k v w' cnt', left k = true ∧ f k = some v ∧ (Instr.next (.pointer (some ⟨r, 0, none⟩)) false ty).run P w = .ok (.tuple #[.bool true, .int .i64 k, v]) w' ∧
      Rng w' b r f (fun x => left x && !(x == k)) cnt' ∧ cnt' < cnt ∧ w'.heap.size = w.heap.size ∧ (∀ c, c ≠ r → w'.heap[c]? = w.heap[c]?) ∧ w.grownBy w' (some r) ∧ (Instr.entry (.pointer (some ⟨r, 0, none⟩))).run P w' = .ok (.tuple #[.int .i64 k, v]) w' := by
  obtain ⟨es, clock, since, seen, c0, hb, hst, hr, hold, hsc, hsk, rfl, h1, h2⟩ := h
  have hne : r ≠ b := by
    intro e
    rw [e, hb] at hr
    cases hr
  rcases run_next_at (P := P) w ty r b since c0 seen es clock hr hb hold hsc with ⟨h0, hrun⟩ | ⟨e, he, w1, hal, hrun⟩
  · refine .inl ⟨h0, fun k => ?_, hrun⟩
    cases hk : left k with
    | false => rfl
    | true =>
      obtain ⟨x, hx, hxk⟩ := h2 k hk
      obtain ⟨k', hk', _, hl⟩ := h1 x hx
      rw [hxk] at hk'
      injection hk' with _ hk'
      subst hk'
      rw [hl, all_seen es seen h0 x hx] at hk
      cases hk
  · obtain ⟨hem, hes⟩ := mem_left he
    obtain ⟨k, hk, hf, hl⟩ := h1 e hem
    have hr1 : w1.heap[r]? = some (.mapIter (some b) since seen c0) := by rcases hal with rfl | rfl <;> exact hr
    have hb1 : w1.heap[b]? = some (.map es clock) := by rcases hal with rfl | rfl <;> exact hb
    have hset := MapKept.heap_set (o' := .mapIter (some b) since (seen.push e.born) clock) hr1
    have hb' : (ChangeMaps.setBlock w1 r (.mapIter (some b) since (seen.push e.born) clock)).heap[b]? = some (.map es clock) := (hset.2 b (fun e1 => hne e1.symm)).trans hb1
    rw [hk] at hrun
    have hkey : ∀ x ∈ es.toList, x.key = .int .i64 k → x = e := fun x hx hxk => entry_eq_of_key ((MapKept.stamped_iff es clock).1 hst).2.2 hx hem (hxk.trans hk.symm)
    refine .inr ⟨k, e.val, _, _, by rw [hl, hes]; rfl, hf, hrun, ⟨es, clock, since, seen.push e.born, clock, hb', hst, hset.1, hold, hsk, hsk, rfl, fun x hx => ?_, fun k' hk' => h2 k' (by simp at hk'; exact hk'.1)⟩, left_shrinks es seen e he, ?_, fun c hc => ?_, ?_, ?_⟩
    · obtain ⟨k', hk2, hf2, hl2⟩ := h1 x hx
      refine ⟨k', hk2, hf2, ?_⟩
      rw [contains_push]
      by_cases ek : k' = k
      · subst ek
        have := hkey x hx hk2
        subst this
        simp
      · have hbn : (x.born == e.born) = false := by
          rw [beq_eq_false_iff_ne]
          intro hbb
          have := born_inj hst.2.1 hx hem hbb
          subst this
          rw [hk] at hk2
          injection hk2 with _ hk2
          exact ek hk2.symm
        show (left k' && !(k' == k)) = _
        rw [hl2, hbn]
        simp [ek]
    · rcases hal with rfl | rfl <;> simp [ChangeMaps.setBlock]
    · rcases hal with rfl | rfl <;> exact hset.2 c (fun e1 => hc e1)
    · rcases hal with rfl | rfl <;> exact ⟨rfl, rfl, rfl, by simp [ChangeMaps.setBlock], fun i _ hi => hset.2 i (fun e1 => hi (by rw [e1]))⟩
    · have := run_entry_at (P := P) _ r b since seen es clock e hset.1 hb' hem hst.2.1
      rw [hk] at this
      exact this
end Go.Proofs.Ytonhmkllfbagmaa.Tx
