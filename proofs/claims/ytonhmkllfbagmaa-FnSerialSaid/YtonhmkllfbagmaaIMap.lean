/- A map of the call's own whose keys are ints: what a look-up and a store do, by a Lean function from keys to values. Plain lemmas, over any program. -/
import Derived.Maps.Own
import Derived.Maps.OwnSet
namespace Go.Proofs.Ytonhmkllfbagmaa.IM
open Go.RowKit
open Go.ChangeMaps (setBlock heap_setBlock_same heap_setBlock_other)
open Go.MapKept (IsKey findNow_spec run_checkKey run_findKey run_keyThatStays Stamped stamped_push stamped_modify stamped_empty)

/-- Block b is a map of at most n entries; to the key k it holds f k. -/
def MapIs (w : World) (b n : Nat) (f : Int → Option Value) : Prop :=
  ∃ es clock, w.heap[b]? = some (.map es clock) ∧ Stamped es clock ∧ es.size ≤ n ∧ (∀ e ∈ es.toList, ∃ k, e.key = .int .i64 k ∧ f k = some e.val) ∧ ∀ k v, f k = some v → ∃ e ∈ es.toList, e.key = .int .i64 k ∧ e.val = v

def upd (f : Int → Option Value) (k : Int) (v : Value) : Int → Option Value := fun j => if j = k then some v else f j

variable {w w' : World} {b n : Nat} {f : Int → Option Value}

theorem MapIs.new (w : World) : MapIs (w.alloc (.map #[] 0)) w.heap.size 0 (fun _ => none) :=
  ⟨#[], 0, (MapKept.heap_alloc w _).1, stamped_empty 0, Nat.le_refl _, by simp, by simp⟩
theorem MapIs.lt (h : MapIs w b n f) : b < w.heap.size := by
  obtain ⟨es, clock, hb, _⟩ := h
  exact (Array.getElem?_eq_some_iff.1 hb).1
theorem MapIs.of_block (h : MapIs w b n f) (hb : w'.heap[b]? = w.heap[b]?) : MapIs w' b n f := by
  obtain ⟨es, clock, hb', r⟩ := h
  exact ⟨es, clock, hb.trans hb', r⟩
theorem MapIs.alloc (h : MapIs w b n f) (o : Obj) : MapIs (w.alloc o) b n f := h.of_block (Below.heap_alloc w o b h.lt)
theorem MapIs.drew (h : MapIs w b n f) : MapIs w.drew b n f := h
theorem MapIs.below {B : Nat} (h : MapIs w b n f) (hb : Below B w w') (hB : b < B) : MapIs w' b n f := h.of_block (hb.block b hB)
theorem MapIs.grown {row : Option Nat} (h : MapIs w b n f) (hg : w.grownBy w' row) (hne : some b ≠ row) : MapIs w' b n f := h.of_block (hg.block b h.lt hne)
theorem MapIs.setCell (h : MapIs w b n f) {p : Addr} (hp : b ≠ p.block) (u : Value) : MapIs (w.setCell p u) b n f := h.of_block (Below.heap_setCell w p u b hp)

section
variable {P : Program} {t k e : TypeId}
theorem MapIs.lookup (h : MapIs w b n f) (ht : P.underlying t = some (.map k e)) (hk : P.underlying k = some (.int .i64)) {z : Value} (hz : (zeroValue e).run P w = .ok z w) (key : Int) (ok : Bool) :
    (Instr.lookup t (.map (some b)) (.int .i64 key) ok).run P w = .ok (if ok then .tuple #[(f key).getD z, .bool (f key).isSome] else (f key).getD z) w := by
  obtain ⟨es, clock, hb, hs, _, h1, h2⟩ := h
  have hik : IsKey (.int .i64) (.int .i64 key) := rfl
  have hks : ∀ x ∈ es.toList, IsKey (.int .i64) x.key := fun x hx => by obtain ⟨k', hk', _⟩ := h1 x hx; rw [hk']; rfl
  rcases findNow_spec hik es.toList 0 hks with ⟨g1, g2⟩ | ⟨j, e0, g1, g2, g3⟩
  · have hf : f key = none := by
      cases hf : f key with
      | none => rfl
      | some v => obtain ⟨x, hx, hxk, _⟩ := h2 key v hf; exact absurd hxk (g2 x hx)
    cases ok <;> simp [Instr.lookup, run_underlying ht, MapKept.run_getObj_map hb, run_checkKey hk hik, run_findKey hk g1, hz, Result.andThen, hf]
  · have hf : f key = some e0.val := by
      obtain ⟨k', hk', hfk⟩ := h1 e0 (List.mem_of_getElem? g2)
      rw [g3] at hk'
      injection hk' with _ hk'
      rw [hk']; exact hfk
    cases ok <;> simp [Instr.lookup, run_underlying ht, MapKept.run_getObj_map hb, run_checkKey hk hik, run_findKey hk g1, Result.andThen, hf]

theorem MapIs.update (h : MapIs w b n f) (ht : P.underlying t = some (.map k e)) (hk : P.underlying k = some (.int .i64)) (key : Int) (v : Value) :
    ∃ w', (Instr.mapUpdate t (.map (some b)) (.int .i64 key) v).run P w = .ok () w' ∧ MapIs w' b (n + 1) (upd f key v) ∧ w.grownBy w' (some b) := by
  obtain ⟨es, clock, hb, hs, hn, h1, h2⟩ := h
  have hik : IsKey (.int .i64) (.int .i64 key) := rfl
  have hks : ∀ x ∈ es.toList, IsKey (.int .i64) x.key := fun x hx => by obtain ⟨k', hk', _⟩ := h1 x hx; rw [hk']; rfl
  have hgr : ∀ o, w.grownBy (setBlock w b o) (some b) := fun o => ⟨rfl, rfl, rfl, by simp [setBlock], fun i _ hi => heap_setBlock_other hb _ (fun e => hi (by rw [e]))⟩
  rcases findNow_spec hik es.toList 0 hks with ⟨g1, g2⟩ | ⟨j, e0, g1, g2, g3⟩
  · refine ⟨setBlock w b (.map (es.push ⟨.int .i64 key, v, clock⟩) (clock + 1)), ?_, ⟨_, _, heap_setBlock_same hb _, stamped_push hs g2, by simp; omega, ?_, ?_⟩, hgr _⟩
    · simp [Instr.mapUpdate, run_underlying ht, MapKept.run_getObj_map hb, run_checkKey hk hik, run_findKey hk g1, MapKept.run_setObj_map _ hb, Result.andThen, setBlock]
    · intro x hx
      simp only [Array.toList_push, List.mem_append, List.mem_singleton] at hx
      rcases hx with hx | rfl
      · obtain ⟨k', hk', hfk⟩ := h1 x hx
        refine ⟨k', hk', ?_⟩
        have hne : k' ≠ key := fun e => g2 x hx (by rw [hk', e])
        simp [upd, hne, hfk]
      · exact ⟨key, rfl, by simp [upd]⟩
    · intro k' v' hk'
      by_cases e : k' = key
      · subst e
        simp [upd] at hk'
        exact ⟨⟨.int .i64 k', v, clock⟩, by simp, rfl, hk'⟩
      · simp [upd, e] at hk'
        obtain ⟨x, hx, r⟩ := h2 k' v' hk'
        exact ⟨x, by rw [Array.toList_push]; exact List.mem_append_left _ hx, r⟩
  · have hj : es[j]? = some e0 := by simpa using g2
    have hkeyf : ∀ e', es[j]? = some e' → ({ e' with key := .int .i64 key, val := v } : MapEntry).key = e'.key := fun e' he' => by rw [hj] at he'; cases he'; exact g3.symm
    have hnd : (es.toList.map (·.key)).Nodup := hs.2.2
    have hmem : ∀ x, x ∈ (es.modify j (fun e' => { e' with key := .int .i64 key, val := v })).toList ↔ (∃ i, i ≠ j ∧ es.toList[i]? = some x) ∨ x = { e0 with key := .int .i64 key, val := v } := by
      intro x
      have hjl : j < es.toList.length := (List.getElem?_eq_some_iff.1 g2).1
      rw [Array.toList_modify, Go.ChangeMaps.modify_eq_set _ _ _ _ g2, List.mem_iff_getElem?]
      constructor
      · rintro ⟨i, hi⟩
        rw [List.getElem?_set] at hi
        by_cases hij : j = i
        · rw [if_pos hij, if_pos hjl] at hi
          exact .inr (Option.some.inj hi).symm
        · rw [if_neg hij] at hi
          exact .inl ⟨i, fun e => hij e.symm, hi⟩
      · rintro (⟨i, hij, hi⟩ | rfl)
        · refine ⟨i, ?_⟩
          rw [List.getElem?_set, if_neg (fun e => hij e.symm)]
          exact hi
        · refine ⟨j, ?_⟩
          rw [List.getElem?_set, if_pos rfl, if_pos hjl]
    have hother : ∀ i x, i ≠ j → es.toList[i]? = some x → x.key ≠ .int .i64 key := by
      intro i x hij hi e
      have hi' : (es.toList.map (·.key))[i]? = some (.int .i64 key) := by rw [List.getElem?_map, hi]; simp [e]
      have hj' : (es.toList.map (·.key))[j]? = some (.int .i64 key) := by rw [List.getElem?_map, g2]; simp [g3]
      have hil := (List.getElem?_eq_some_iff.1 hi').1
      exact hij ((List.getElem?_inj hil hnd).1 (hi'.trans hj'.symm))
    refine ⟨setBlock w b (.map (es.modify j (fun e' => { e' with key := .int .i64 key, val := v })) clock), ?_, ⟨_, _, heap_setBlock_same hb _, stamped_modify hs _ _ (fun _ _ => rfl) (fun e' _ he' => hkeyf e' he'), by simp; omega, ?_, ?_⟩, hgr _⟩
    · simp [Instr.mapUpdate, run_underlying ht, MapKept.run_getObj_map hb, run_checkKey hk hik, run_findKey hk g1, hj, g3, run_keyThatStays hik, MapKept.run_setObj_map _ hb, Result.andThen, setBlock]
    · intro x hx
      rcases (hmem x).1 hx with ⟨i, hij, hi⟩ | rfl
      · obtain ⟨k', hk', hfk⟩ := h1 x (List.mem_of_getElem? hi)
        refine ⟨k', hk', ?_⟩
        have hne : k' ≠ key := fun e => hother i x hij hi (by rw [hk', e])
        simp [upd, hne, hfk]
      · exact ⟨key, rfl, by simp [upd]⟩
    · intro k' v' hk'
      by_cases e : k' = key
      · subst e
        simp [upd] at hk'
        exact ⟨_, (hmem _).2 (.inr rfl), rfl, hk'⟩
      · simp [upd, e] at hk'
        obtain ⟨x, hx, hxk, r⟩ := h2 k' v' hk'
        obtain ⟨i, hi⟩ := List.mem_iff_getElem?.1 hx
        refine ⟨x, (hmem x).2 (.inl ⟨i, fun e2 => ?_, hi⟩), hxk, r⟩
        subst e2
        rw [g2] at hi
        cases hi
        rw [g3] at hxk
        injection hxk with _ hxk
        exact e hxk.symm
end
section
variable {P : Program} {ops : Array Oper} {rest : List Oper} {o : Oper} {a : Act} {Q : Exit → Act → World → Prop}
/-- 'v, ok := m[k]' at the operation. -/
theorem wp_lookup_ok (w : World) (hg : o.guard = none) (m x : Operand) (t : TypeId) (hop : o.op = Op.lookup t m x true) (k e : TypeId) (ht : P.underlying t = some (.map k e)) (hk : P.underlying k = some (.int .i64)) {z : Value} (hz : (zeroValue e).run P w = .ok z w) (b n : Nat) (f : Int → Option Value)
    (hm : a.eval m = .map (some b)) (h : MapIs w b n f) (key : Int) (hx : a.eval x = .int .i64 key)
    (hK : wpList P ops Q rest (a.put o.dst (.tuple #[(f key).getD z, .bool (f key).isSome])) w) : wpList P ops Q (o :: rest) a w := by
  refine wpList_plain hg fun K' hK' => ?_
  have hrun := h.lookup ht hk hz key true
  unfold Oper.wp
  simp [execOp, hop, hm, hx, hrun, Result.andThen]
  exact hK' _ _ hK
end
end Go.Proofs.Ytonhmkllfbagmaa.IM
