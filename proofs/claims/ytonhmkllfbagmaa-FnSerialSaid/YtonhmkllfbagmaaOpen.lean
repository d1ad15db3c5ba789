/- How an argument that reads as data is opened into the print's kinds: whole numbers, bools, strings, floats, slices, structs. Plain lemmas, over any program. -/
import Derived.Test.YtonhmkllfbagmaaWWords
import Derived.Deep.Slices
import Derived.ChangeArms
import Derived.Laws.Cover2
namespace Go.Proofs.Ytonhmkllfbagmaa.Op
open Go.RowKit Go.Proofs.YtonhmkllfbagmaaW.PrintWords Go.ChangeShapes Go.WideShapes

/-- Whatever reads at type t as data is, in memory, of kind d. -/
def Opens {α : Type} (P : Program) (t : TypeId) (d : Kd α) (good : α → Prop) : Prop :=
  ∀ (H : Type) (enc : TypeId × Value → H) (w : World) (fuel : Nat) (cs : List Value) (x : DataW H × List MemPlace),
    DataW.trod enc P w 0 (fun _ => true) true fuel t cs = some x → ∃ y, d.K w y cs ∧ good y

theorem opens_int {P : Program} {t : TypeId} {k : IntKind} (ht : P.underlying t = some (.int k)) : Opens P t (Kd.int k) (fun n => (Lit.int k n).wf = true) := by
  intro H enc w fuel cs x h
  obtain ⟨n, rfl, _, hn⟩ := DataW.trod_int ht h
  exact ⟨n, rfl, hn⟩
theorem opens_slice {α : Type} [Inhabited α] {P : Program} {t e : TypeId} {d : Kd α} {good : α → Prop} (ht : P.underlying t = some (.slice e)) (hs : P.cellsOf e = d.sz) (he : Opens P e d good) :
    Opens P t (Kd.slice e d) (fun xs => xs.length ≤ 9223372036854775807 ∧ ∀ y ∈ xs, good y) := by
  intro H enc w fuel cs x h
  rcases Deep.open_slice ht h with ⟨rfl, _⟩ | ⟨a, len, cap, m, n, D, Pl, rfl, _, hl, hm, hmm, _, hel⟩
  · exact ⟨[], ⟨none, 0, rfl, Nat.le_refl _, rfl, by simp, fun h0 => absurd h0 (by simp)⟩, by simp, by simp⟩
  · have hle : len ≤ m := by rw [hmm]; split <;> omega
    have hcap : len ≤ 9223372036854775807 := by unfold maxLen at hm; omega
    obtain ⟨f, hf⟩ := Deep.choose_lt (n := len) (p := fun i y => good y ∧ ∃ cs', cs'.length = d.sz ∧ d.K w y cs' ∧ ∀ j u, cs'[j]? = some u → w.cell? (a.add (i * d.sz + j)) = some u) (fun i hi => by
      obtain ⟨cs', hc, htr⟩ := hel i (by omega)
      obtain ⟨y, hy, hg⟩ := he H enc w n cs' _ htr
      obtain ⟨_, hlen, hcell⟩ := World.cells?_some hc
      rw [hs] at hlen hcell
      refine ⟨y, hg, cs', hlen, hy, fun j u hu => ?_⟩
      have hj : j < d.sz := by
        have := (List.getElem?_eq_some_iff.1 hu).1
        omega
      rw [← Deep.add_add, hcell j hj, hu])
    refine ⟨(List.range len).map f, ⟨some a, cap, by simp, by simpa using hl, by simp, by simpa using hcap, fun _ => ⟨a, rfl, fun j p hp => ?_⟩⟩, by simpa using hcap, ?_⟩
    · have hj : j < len := by
        have := (List.getElem?_eq_some_iff.1 hp).1
        simpa using this
      have hpe : p = f j := by
        rw [List.getElem?_map, List.getElem?_range hj] at hp
        simpa using hp.symm
      subst hpe
      obtain ⟨_, cs', h1, h2, h3⟩ := hf j hj
      exact ⟨cs', h1, h2, h3⟩
    · intro y hy
      obtain ⟨i, hi, rfl⟩ := List.mem_map.1 hy
      exact (hf i (List.mem_range.1 hi)).1

end Go.Proofs.Ytonhmkllfbagmaa.Op
