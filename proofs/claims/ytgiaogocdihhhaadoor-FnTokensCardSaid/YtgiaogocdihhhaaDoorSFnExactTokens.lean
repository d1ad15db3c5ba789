/- Tokens: what the print takes as given: a rune of the specification, strings.TrimPrefix of a minus. -/
import Derived.Test.YtgiaogocdihhhaaDoorPFnExactTokensx0
import Derived.Test.YtgiaogocdihhhaaDoorTexR
namespace Go.Proofs.YtgiaogocdihhhaaDoor.PFnExactTokens
open Go.RowKit Go.Proofs.YtgiaogocdihhhaaDoorW.PrintWords Go.Proofs.YtgiaogocdihhhaaDoorW.PrintLast Go.Proofs.YtgiaogocdihhhaaDoorW.PrintMore Go.Proofs.YtgiaogocdihhhaaDoor.Tex
set_option linter.unusedSimpArgs false

def spec_l01Rune.f (a0 : ByteArray) (a1 : Int) : Option (Int × Int) := if 0 ≤ a1 ∧ a1 < (a0.size : Int) ∧ a0.size ≤ 1099511627776 then some (rI a0 a1, nI a0 a1) else none
theorem spec_l01Rune.calls (a0 : ByteArray) (a1 : Int) (r1 : Int) (r2 : Int) (w : World) (h : spec_l01Rune.f a0 a1 = some (r1, r2)) :
    Calls Tryd.prog 20 #[.string a0, .int .i64 a1] w fun e w' => e = .returned (.tuple #[.int .i64 r1, .int .i64 r2]) ∧ Below w.heap.size w w' := by
  unfold spec_l01Rune.f at h
  split at h
  · rename_i hc
    simp only [Option.some.injEq, Prod.mk.injEq] at h
    obtain ⟨rfl, rfl⟩ := h
    exact l01RuneC a0 a1 w hc.1 hc.2.1 hc.2.2
  · cases h
def strings_TrimPrefix.f (a0 : ByteArray) (a1 : ByteArray) : Option (ByteArray) := if Lib.hasPrefix a0.data.toList a1.data.toList = true then none else some a0
theorem strings_TrimPrefix.calls (a0 : ByteArray) (a1 : ByteArray) (r : ByteArray) (w : World) (h : strings_TrimPrefix.f a0 a1 = some r) :
    Calls Tryd.prog 70 #[.string a0, .string a1] w fun e w' => e = .returned (.string r) ∧ Below w.heap.size w w' := by
  unfold strings_TrimPrefix.f at h
  split at h
  · cases h
  · rename_i hc
    obtain rfl := Option.some.inj h
    have hf : Lib.hasPrefix a0.data.toList a1.data.toList = false := by simpa using hc
    have c68 := fun V => Tryd.stringslite_HasPrefix a0 a1 V
    rw [hf] at c68
    have c78 : ∀ V, Calls Tryd.prog 78 #[.string a0, .string a1] V fun e w' => e = .returned (.string a0) ∧ w' = V := by
      intro V
      go_enter Tryd.func78, Tryd.ntmps78
      go_wp2_with (go_at_call 68; refine (c68 _).mono ?_; rintro e w' ⟨rfl, rfl⟩)
      go_ret
      exact ⟨rfl, rfl⟩
    go_enter Tryd.func70, Tryd.ntmps70
    go_wp2_with (go_at_call 78; refine (c78 _).mono ?_; rintro e w' ⟨rfl, rfl⟩)
    go_ret
    exact ⟨rfl, Below.refl _ _⟩
end Go.Proofs.YtgiaogocdihhhaaDoor.PFnExactTokens
