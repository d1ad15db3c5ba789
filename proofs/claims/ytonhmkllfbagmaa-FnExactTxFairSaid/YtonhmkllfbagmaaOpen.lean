/- How an argument that reads as data is opened into the print's kinds: whole numbers, bools, strings, floats, slices, structs. Plain lemmas, over any program. -/
import Derived.Test.YtonhmkllfbagmaaWWords
import Derived.Deep.Slices
import Derived.ChangeArms
import Derived.Laws.Cover2
namespace Go.Proofs.Ytonhmkllfbagmaa.Op
open Go.RowKit Go.Proofs.YtonhmkllfbagmaaW.PrintWords Go.ChangeShapes Go.WideShapes

/-- Whatever reads at type t as data is, in memory, of kind d. -/
def Opens {α : Type} (P : Program) (t : TypeId) (d : Kd α) (good : α → Prop) : Prop :=
  ∀ (H : Type) (enc : TypeId × Value → H) (w : World) (fuel : Nat) (cs : List Value) (x : DataW H × List MemPlace),
    DataW.trod enc P w 0 (fun _ => true) true fuel t cs = some x → ∃ y, d.K w y cs ∧ good y

theorem opens_int {P : Program} {t : TypeId} {k : IntKind} (ht : P.underlying t = some (.int k)) : Opens P t (Kd.int k) (fun n => (Lit.int k n).wf = true) := by
  intro H enc w fuel cs x h
  obtain ⟨n, rfl, _, hn⟩ := DataW.trod_int ht h
  exact ⟨n, rfl, hn⟩
theorem opens_slice {α : Type} [Inhabited α] {P : Program} {t e : TypeId} {d : Kd α} {good : α → Prop} (ht : P.underlying t = some (.slice e)) (hs : P.cellsOf e = d.sz) (he : Opens P e d good) :
    Opens P t (Kd.slice e d) (fun xs => xs.length ≤ 9223372036854775807 ∧ ∀ y ∈ xs, good y) := by
  intro H enc w fuel cs x h
  rcases Deep.open_slice ht h with ⟨rfl, _⟩ | ⟨a, len, cap, m, n, D, Pl, rfl, _, hl, hm, hmm, _, hel⟩
  · exact ⟨[], ⟨none, 0, rfl, Nat.le_refl _, rfl, by simp, fun h0 => absurd h0 (by simp)⟩, by simp, by simp⟩
  · have hle : len ≤ m := by rw [hmm]; split <;> omega
    have hcap : len ≤ 9223372036854775807 := by unfold maxLen at hm; omega
    obtain ⟨f, hf⟩ := Deep.choose_lt (n := len) (p := fun i y => good y ∧ ∃ cs', cs'.length = d.sz ∧ d.K w y cs' ∧ ∀ j u, cs'[j]? = some u → w.cell? (a.add (i * d.sz + j)) = some u) (fun i hi => by
      obtain ⟨cs', hc, htr⟩ := hel i (by omega)
      obtain ⟨y, hy, hg⟩ := he H enc w n cs' _ htr
      obtain ⟨_, hlen, hcell⟩ := World.cells?_some hc
      rw [hs] at hlen hcell
      refine ⟨y, hg, cs', hlen, hy, fun j u hu => ?_⟩
      have hj : j < d.sz := by
        have := (List.getElem?_eq_some_iff.1 hu).1
        omega
      rw [← Deep.add_add, hcell j hj, hu])
    refine ⟨(List.range len).map f, ⟨some a, cap, by simp, by simpa using hl, by simp, by simpa using hcap, fun _ => ⟨a, rfl, fun j p hp => ?_⟩⟩, by simpa using hcap, ?_⟩
    · have hj : j < len := by
        have := (List.getElem?_eq_some_iff.1 hp).1
        simpa using this
      have hpe : p = f j := by
        rw [List.getElem?_map, List.getElem?_range hj] at hp
        simpa using hp.symm
      subst hpe
      obtain ⟨_, cs', h1, h2, h3⟩ := hf j hj
      exact ⟨cs', h1, h2, h3⟩
    · intro y hy
      obtain ⟨i, hi, rfl⟩ := List.mem_map.1 hy
      exact (hf i (List.mem_range.1 hi)).1

/-- The fields from number i on, which begin at cell off and have n cells. -/
def FieldsOpen {α : Type} (P : Program) (fs : Array Field) (_i off n : Nat) (d : Kd α) (good : α → Prop) : Prop :=
  ∀ (H : Type) (enc : TypeId × Value → H) (w : World) (m : Nat) (cs : List Value) (xs : List (DataW H × List MemPlace)), cs.length = off + n → xs.length = fs.size →
    (∀ (j : Nat) (f : Field), fs[j]? = some f → DataW.trod enc P w 0 (fun _ => true) true m f.type ((cs.drop f.offset).take (P.cellsOf f.type)) = xs[j]?) → ∃ y, d.K w y (cs.drop off) ∧ good y

theorem fields_last {α : Type} {P : Program} {fs : Array Field} {i off n : Nat} {d : Kd α} {good : α → Prop} {f : Field} (hf : fs[i]? = some f) (ho : f.offset = off) (hn : P.cellsOf f.type = n) (h : Opens P f.type d good) :
    FieldsOpen P fs i off n d good := by
  intro H enc w m cs xs hl hx ha
  have hi : i < xs.length := by
    have := (Array.getElem?_eq_some_iff.1 hf).1
    omega
  have h1 := ha i f hf
  rw [ho, hn, List.take_of_length_le (by rw [List.length_drop]; omega), List.getElem?_eq_getElem hi] at h1
  exact h H enc w m _ _ h1

theorem fields_cons {α β : Type} {P : Program} {fs : Array Field} {i off n1 n2 : Nat} {d1 : Kd α} {d2 : Kd β} {g1 : α → Prop} {g2 : β → Prop} {f : Field} (hf : fs[i]? = some f) (ho : f.offset = off) (hn : P.cellsOf f.type = n1)
    (h1 : Opens P f.type d1 g1) (h2 : FieldsOpen P fs (i + 1) (off + n1) n2 d2 g2) : FieldsOpen P fs i off (n1 + n2) (Kd.pair d1 d2) (fun y => g1 y.1 ∧ g2 y.2) := by
  intro H enc w m cs xs hl hx ha
  have hi : i < xs.length := by
    have := (Array.getElem?_eq_some_iff.1 hf).1
    omega
  have e1 := ha i f hf
  rw [ho, hn, List.getElem?_eq_getElem hi] at e1
  obtain ⟨y1, k1, q1⟩ := h1 H enc w m _ _ e1
  obtain ⟨y2, k2, q2⟩ := h2 H enc w m cs xs (by omega) hx ha
  refine ⟨(y1, y2), ⟨(cs.drop off).take n1, cs.drop (off + n1), ?_, k1, k2⟩, q1, q2⟩
  rw [← List.drop_drop, List.take_append_drop]

theorem opens_struct {α : Type} {P : Program} {t : TypeId} {fs : Array Field} {n : Nat} {d : Kd α} {good : α → Prop} (ht : P.underlying t = some (.struct fs)) (hn : P.cellsOf t = n) (h : FieldsOpen P fs 0 0 n d good) : Opens P t d good := by
  intro H enc w fuel cs x hx
  obtain ⟨xs, m, _, _, hl, hxs, ha⟩ := DataW.trod_struct ht hx
  obtain ⟨y, k, q⟩ := h H enc w m cs xs (by omega) hxs ha
  exact ⟨y, by simpa using k, q⟩

theorem opens_iso {α β : Type} {P : Program} {t : TypeId} {d : Kd α} {good : α → Prop} (f : β → α) (g : α → β) (hfg : ∀ a, f (g a) = a) (h : Opens P t d good) : Opens P t (Kd.iso d f) (fun b => good (f b)) := by
  intro H enc w fuel cs x hx
  obtain ⟨y, k, q⟩ := h H enc w fuel cs x hx
  refine ⟨g y, ?_, ?_⟩
  · show d.K w (f (g y)) cs
    rw [hfg]; exact k
  · show good (f (g y))
    rw [hfg]; exact q

theorem opens_weak {α : Type} {P : Program} {t : TypeId} {d : Kd α} {good good' : α → Prop} (h : Opens P t d good) (hg : ∀ a, good a → good' a) : Opens P t d good' := by
  intro H enc w fuel cs x hx
  obtain ⟨y, k, q⟩ := h H enc w fuel cs x hx
  exact ⟨y, k, hg y q⟩
end Go.Proofs.Ytonhmkllfbagmaa.Op
