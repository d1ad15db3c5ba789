/- Rows of bytes of a call's own. -/
import Derived.Test.YtgiaogocdihhhaaDoorTexR
import Derived.BigRegion
import Derived.IntWalk
import Derived.StillTailTactics
import Derived.Handy
import Derived.Lib.ConvBytes
namespace Go.Proofs.YtgiaogocdihhhaaDoor.Tex
open Go.RowKit Go.Proofs.YtgiaogocdihhhaaDoorW.PrintWords Go.Proofs.YtgiaogocdihhhaaDoorW.PrintLast Go.Proofs.YtgiaogocdihhhaaDoorW.PrintMore
set_option linter.unusedVariables false
set_option linter.unusedSimpArgs false
theorem info5 : (Tryd.prog.info? 5).map (fun i => (i.zero, i.size, i.bytes)) = some (some (.int .u8 0), 1, 1) := by kernel_rfl
/-- A row of bytes of the call's own. -/
def OB (w : World) (base : Nat) (v : Value) (xs : List Int) : Prop := w.ownsRow base 5 1 v xs.length (nums .u8 xs)
section
variable {w w' : World} {base : Nat} {v : Value} {xs : List Int}
theorem OB.below (h : OB w base v xs) (hb : Below w.heap.size w w') : OB w' base v xs := own_move h (fun k hk => hb.block k (own_lt h k hk))
theorem OB.alloc (h : OB w base v xs) (o : Obj) : OB (w.alloc o) base v xs := own_alloc h o
theorem OB.drew (h : OB w base v xs) : OB w.drew base v xs := h
theorem OB.lit (W : World) (base : Nat) (xs : List Int) (hb : base ≤ W.heap.size) (hm : xs.length ≤ 9223372036854775807) : OB (W.alloc (.cells (nums .u8 xs).toArray 5)) base (.slice (some ⟨W.heap.size, 0, none⟩) xs.length xs.length) xs := own_lit W base 5 .u8 xs hb hm
end
theorem lit_R (L : List Int) (W : World) (base : Nat) (hb : base ≤ W.heap.size) (hl : L.length ≤ 9223372036854775807) : (Kd.int .u8).R 5 (W.alloc (.cells (L.map (Value.int .u8)).toArray 5)) base (fun _ => True) (.slice (some ⟨W.heap.size, 0, none⟩) L.length L.length) L := Kd.R_of_own (own_lit W base 5 .u8 L hb hl) (fun _ _ => trivial)
theorem lit_C (L : List Int) (W : World) (hl : L.length ≤ 9223372036854775807) : (Kd.int .u8).C (W.alloc (.cells (L.map (Value.int .u8)).toArray 5)) (some ⟨W.heap.size, 0, none⟩) L.length L := by
  obtain ⟨A, c, e, _, h⟩ := Kd.R_reads (lit_R L W W.heap.size (Nat.le_refl _) hl)
  injection e with e1 e2 e3
  subst e1
  exact h
theorem lit_reads (W : World) (xs : List Int) (hm : xs.length ≤ 9223372036854775807) : ReadsInt (W.alloc (.cells (nums .u8 xs).toArray 5)) .u8 (some ⟨W.heap.size, 0, none⟩) xs.length xs := own_reads' (own_lit W 0 5 .u8 xs (Nat.zero_le _) hm)
end Go.Proofs.YtgiaogocdihhhaaDoor.Tex
