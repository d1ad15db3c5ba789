/- Blocks of memory as functions: what stands in a family of blocks, and what a store leaves. -/
import Derived.Test.YtonhmkllfbagmaaPFnExactTxFairx0
import Derived.Lib.Hide
namespace Go.Proofs.Ytonhmkllfbagmaa.Tx
open Go.RowKit Go.Proofs.YtonhmkllfbagmaaW.PrintWords Go.Proofs.YtonhmkllfbagmaaW.PrintLast Go.Proofs.YtonhmkllfbagmaaW.PrintMore Go.Proofs.Ytonhmkllfbagmaa.PFnExactTxFair
set_option linter.unusedVariables false
set_option linter.unusedSimpArgs false
theorem name_w {P : Program} {c : Code} {Q : Exit → Act → World → Prop} {a : Act} {w : World} (h : ∀ E, E = w → c.wp P Q a E) : c.wp P Q a w := h w rfl
theorem cell_same {w w' : World} {b : Nat} (h : w'.heap[b]? = w.heap[b]?) (k : Nat) : w'.cell? ⟨b, k, none⟩ = w.cell? ⟨b, k, none⟩ := by simp [World.cell?, h]
/-- Block b, of elements of type t, begins with the n cells that f tells. -/
def Fn (w : World) (b : Nat) (t : TypeId) (n : Nat) (f : Nat → Value) : Prop := ∃ cur : Array Value, w.heap[b]? = some (.cells cur t (0, 0)) ∧ n ≤ cur.size ∧ ∀ k, k < n → cur[k]? = some (f k)
section
variable {w w' : World} {b n : Nat} {t : TypeId} {f : Nat → Value}
theorem Fn.lt (h : Fn w b t n f) : b < w.heap.size := by obtain ⟨cur, hb, -, -⟩ := h; exact blk_lt hb
theorem Fn.cell (h : Fn w b t n f) (k : Nat) (hk : k < n) : w.cell? ⟨b, k, none⟩ = some (f k) := by obtain ⟨cur, hb, -, hf⟩ := h; exact (blk_cell hb k).trans (hf k hk)
theorem Fn.thaw (h : Fn w b t n f) (k : Nat) : w.frozen? ⟨b, k, none⟩ = false := by obtain ⟨cur, hb, -, -⟩ := h; simp [World.frozen?, hb]
theorem Fn.move (h : Fn w b t n f) (hb : w'.heap[b]? = w.heap[b]?) : Fn w' b t n f := by obtain ⟨cur, h1, h2⟩ := h; exact ⟨cur, hb.trans h1, h2⟩
theorem Fn.below (h : Fn w b t n f) (hb : Below w.heap.size w w') : Fn w' b t n f := h.move (hb.block b h.lt)
theorem Fn.far (h : Fn w b t n f) {p : Addr} (hp : b ≠ p.block) (u : Value) : Fn (w.setCell p u) b t n f := h.move (Below.heap_setCell w p u b hp)
theorem Fn.ext (h : Fn w b t n f) {g : Nat → Value} (hg : ∀ k, k < n → g k = f k) : Fn w b t n g := by obtain ⟨cur, h1, h2, h3⟩ := h; exact ⟨cur, h1, h2, fun k hk => by rw [hg k hk]; exact h3 k hk⟩
theorem Fn.set (h : Fn w b t n f) (k : Nat) (hk : k < n) (v : Value) {g : Nat → Value} (h1 : g k = v) (h2 : ∀ m, m < n → m ≠ k → g m = f m) : Fn (w.setCell ⟨b, k, none⟩ v) b t n g := by
  obtain ⟨cur, hb, hn, hf⟩ := h
  refine ⟨_, blk_set hb k v, by simpa using hn, fun m hm => ?_⟩
  by_cases e : m = k
  · rw [e, h1, Array.getElem?_setIfInBounds, if_pos rfl, if_pos (by omega)]
  · rw [h2 m hm e, ← hf m hm, Array.getElem?_setIfInBounds, if_neg (Ne.symm e)]
theorem Fn.new (w : World) (cs : Array Value) (t : TypeId) (n : Nat) (f : Nat → Value) (hn : n ≤ cs.size) (hf : ∀ k, k < n → cs[k]? = some (f k)) : Fn (w.alloc (.cells cs t)) w.heap.size t n f := ⟨cs, heap_alloc_new w _, hn, hf⟩
end
/-- A family of blocks, each of its own. -/
structure Lay {I : Type} (w : World) (base : Nat) (ok : I → Prop) (blk : I → Nat) (ty : I → TypeId) (sz : I → Nat) (row : I → Nat → Value) : Prop where
  at_ : ∀ i, ok i → Fn w (blk i) (ty i) (sz i) (row i)
  ge : ∀ i, ok i → base ≤ blk i
  inj : ∀ i j, ok i → ok j → blk i = blk j → i = j
section
variable {I : Type} {w w' : World} {base : Nat} {ok ok' : I → Prop} {blk blk' : I → Nat} {ty ty' : I → TypeId} {sz sz' : I → Nat} {row row' : I → Nat → Value}
theorem Lay.below (h : Lay w base ok blk ty sz row) (hb : Below w.heap.size w w') : Lay w' base ok blk ty sz row := ⟨fun i hi => (h.at_ i hi).below hb, h.ge, h.inj⟩
theorem Lay.move (h : Lay w base ok blk ty sz row) (hb : ∀ i, ok i → w'.heap[blk i]? = w.heap[blk i]?) : Lay w' base ok blk ty sz row := ⟨fun i hi => (h.at_ i hi).move (hb i hi), h.ge, h.inj⟩
theorem Lay.sub (h : Lay w base ok blk ty sz row) (hs : ∀ i, ok' i → ok i) (hr : ∀ i, ok' i → ∀ m, m < sz i → row' i m = row i m) : Lay w base ok' blk ty sz row' := ⟨fun i hi => (h.at_ i (hs i hi)).ext (hr i hi), fun i hi => h.ge i (hs i hi), fun i j hi hj => h.inj i j (hs i hi) (hs j hj)⟩
theorem Lay.set (h : Lay w base ok blk ty sz row) (i : I) (hi : ok i) (k : Nat) (hk : k < sz i) (v : Value) (hs : ∀ j, ok' j → ok j) (h1 : row' i k = v) (h2 : ∀ m, m < sz i → m ≠ k → row' i m = row i m) (h3 : ∀ j, ok' j → j ≠ i → ∀ m, m < sz j → row' j m = row j m) :
    Lay (w.setCell ⟨blk i, k, none⟩ v) base ok' blk ty sz row' := by
  refine ⟨fun j hj => ?_, fun j hj => h.ge j (hs j hj), fun j l hj hl => h.inj j l (hs j hj) (hs l hl)⟩
  by_cases e : j = i
  · subst e
    exact (h.at_ j hi).set k hk v h1 h2
  · exact ((h.at_ j (hs j hj)).far (fun hh => e (h.inj j i (hs j hj) hi hh)) v).ext (h3 j hj e)
/-- One block more, or in another's place. -/
theorem Lay.put (h : Lay w base ok blk ty sz row) (i : I) (hb : base ≤ blk' i) (hn : w.heap.size ≤ blk' i) (hf : Fn w' (blk' i) (ty' i) (sz' i) (row' i)) (hw : Below w.heap.size w w') (hs : ∀ j, ok' j → j ≠ i → ok j ∧ blk' j = blk j ∧ ty' j = ty j ∧ sz' j = sz j ∧ ∀ m, m < sz j → row' j m = row j m) :
    Lay w' base ok' blk' ty' sz' row' := by
  refine ⟨fun j hj => ?_, fun j hj => ?_, fun j l hj hl => ?_⟩
  · by_cases e : j = i
    · subst e; exact hf
    · obtain ⟨a, b, c, d, r⟩ := hs j hj e
      rw [b, c, d]
      exact ((h.at_ j a).below hw).ext r
  · by_cases e : j = i
    · subst e; exact hb
    · obtain ⟨a, b, -⟩ := hs j hj e
      rw [b]
      exact h.ge j a
  · by_cases e : j = i
    · by_cases e2 : l = i
      · intro; rw [e, e2]
      · obtain ⟨a, b, -⟩ := hs l hl e2
        intro hh
        have := (h.at_ l a).lt
        rw [e, b] at hh
        omega
    · obtain ⟨a, b, -⟩ := hs j hj e
      by_cases e2 : l = i
      · intro hh
        have := (h.at_ j a).lt
        rw [e2, b] at hh
        omega
      · obtain ⟨a2, b2, -⟩ := hs l hl e2
        rw [b, b2]
        exact h.inj j l a a2
end
end Go.Proofs.Ytonhmkllfbagmaa.Tx
