/- Texts: a text that is gone through rune by rune, each giving a row of bytes; plain. -/
import Derived.Test.YtgiaogocdihhhaaDoorTexS
namespace Go.Proofs.YtgiaogocdihhhaaDoor.Tex
open Go.RowKit Go.Proofs.YtgiaogocdihhhaaDoorW.PrintWords Go.Proofs.YtgiaogocdihhhaaDoorW.PrintLast Go.Proofs.YtgiaogocdihhhaaDoorW.PrintMore
set_option linter.unusedVariables false
set_option linter.unusedSimpArgs false

section
variable {s : ByteArray} {P : Int → List Int} {a0 : List Int}
end

/-- The bytes of a rune's own. -/
def sub (s : ByteArray) (i : Int) : ByteArray := s.extract i.toNat (i + nI s i).toNat
theorem sub_size (s : ByteArray) (i : Int) (h0 : 0 ≤ i) (h : i < (s.size : Int)) : ((sub s i).size : Int) = nI s i := by
  have hr := rI_range s i h0 h
  unfold sub
  rw [ByteArray.size_extract]
  omega
end Go.Proofs.YtgiaogocdihhhaaDoor.Tex
