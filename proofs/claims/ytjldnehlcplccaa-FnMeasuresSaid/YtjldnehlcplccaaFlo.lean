/- Floats: what a word stands for, every NaN the same; the four operations and the comparisons are functions of that; an operation in a walk. -/
import Derived.Test.YtjldnehlcplccaaPFnExactSmoothx0
import Derived.WalkLawsBesides
import Derived.Deep.Draws
namespace Go.Proofs.Ytjldnehlcplccaa.Flo
open Go.RowKit Go.Proofs.YtjldnehlcplccaaW.PrintWords Go.Proofs.YtjldnehlcplccaaW.PrintLast Go.Proofs.YtjldnehlcplccaaW.PrintMore
open Ieee
set_option linter.unusedSimpArgs false
set_option linter.unusedVariables false

/-- Every NaN is one. -/
def one : Datum → Datum
  | .nan _ _ => .nan false 0
  | d => d
def cd (b : Nat) : Datum := one (double.read b)

theorem one_one (d : Datum) : one (one d) = one d := by cases d <;> rfl
theorem one_cd (b : Nat) : one (cd b) = cd b := one_one _

def raw (op : BinOp) (x y : Datum) : Option Datum :=
  match op with
  | .add => x.sum y
  | .sub => x.sum y.opposite
  | .mul => x.product y
  | .quo => x.quotient 54 y
  | _ => none
/-- An operation, on what words stand for. -/
def fop (op : BinOp) (x y : Datum) : Datum := ((raw op x y).map fun d => cd (double.write d)).getD (.nan false 0)
theorem sum_one (x y : Datum) : (one x).sum (one y) = x.sum y := by cases x <;> cases y <;> rfl
theorem sub_one (x y : Datum) : (one x).sum (one y).opposite = x.sum y.opposite := by cases x <;> cases y <;> rfl
theorem product_one (x y : Datum) : (one x).product (one y) = x.product y := by cases x <;> cases y <;> rfl
theorem quotient_one (n : Nat) (x y : Datum) : (one x).quotient n (one y) = x.quotient n y := by cases x <;> cases y <;> rfl
theorem order_one (x y : Datum) : (one x).order (one y) = x.order y := by cases x <;> cases y <;> rfl
theorem order_cd (a b : Nat) : FloatKind.f64.format.order a b = (cd a).order (cd b) := (order_one _ _).symm

theorem floatBits_raw (op : BinOp) (a b : Nat) : floatBits op .f64 a b = (raw op (cd a) (cd b)).map double.write := by
  cases op <;> try rfl
  · exact congrArg (Option.map double.write) (sum_one (double.read a) (double.read b)).symm
  · exact congrArg (Option.map double.write) (sub_one (double.read a) (double.read b)).symm
  · exact congrArg (Option.map double.write) (product_one (double.read a) (double.read b)).symm
  · exact congrArg (Option.map double.write) (quotient_one 54 (double.read a) (double.read b)).symm

/-- What the model gives for a NaN that it draws, is one. -/
theorem cd_drawn (t : Nat) : cd ((t % 2) * 2 ^ 63 + 0x7ff0000000000000 + 1 + (t / 2) % (2 ^ 52 - 1)) = .nan false 0 := by
  have h1 : t % 2 < 2 := Nat.mod_lt _ (by decide)
  have h2 : (t / 2) % (2 ^ 52 - 1) < 2 ^ 52 - 1 := Nat.mod_lt _ (by decide)
  generalize t % 2 = u at *
  generalize (t / 2) % (2 ^ 52 - 1) = v at *
  unfold cd
  have hr : double.read (u * 2 ^ 63 + 0x7ff0000000000000 + 1 + v) = .nan (((u * 2 ^ 63 + 0x7ff0000000000000 + 1 + v) / double.signWeight % 2) == 1) ((u * 2 ^ 63 + 0x7ff0000000000000 + 1 + v) % double.signWeight - double.infRung) := by
    have hs : double.signWeight = 9223372036854775808 := rfl
    have hi : double.infRung = 9218868437227405312 := rfl
    have hb : double.binade = 4503599627370496 := rfl
    have hm : (u * 2 ^ 63 + 0x7ff0000000000000 + 1 + v) % 9223372036854775808 = 9218868437227405312 + 1 + v := by omega
    unfold Format.read
    simp only [hs, hi, hb, hm]
    rw [if_neg (by omega), if_neg (by omega), if_neg (by omega)]
  rw [hr]
  rfl

section
variable {P : Program} {ops : Array Oper} {rest : List Oper} {o : Oper} {a : Act} {Q : Exit → Act → World → Prop}
/-- '+', '-', '*', '/' on float64 at the operation. -/
theorem wp_float (w : World) (hg : o.guard = none) (op : BinOp) (h4 : op = .add ∨ op = .sub ∨ op = .mul ∨ op = .quo) (t t' : TypeId) (x y : Operand) (hop : o.op = Op.binOp op t x y t') (bx bz : Nat)
    (hx : a.eval x = .float .f64 bx) (hy : a.eval y = .float .f64 bz)
    (hK : ∀ r n, cd r = fop op (cd bx) (cd bz) → wpList P ops Q rest (a.put o.dst (.float .f64 r)) (w.drewN n)) : wpList P ops Q (o :: rest) a w := by
  refine wpList_plain hg fun K' hK' => ?_
  cases hf : floatBits op .f64 bx bz with
  | some r =>
    have hrun := run_float_arith (P := P) w op t .f64 bx bz r hf
    have hr : cd r = fop op (cd bx) (cd bz) := by
      rw [floatBits_raw] at hf
      unfold fop
      cases hq : raw op (cd bx) (cd bz) with
      | none => rw [hq] at hf; cases hf
      | some d => rw [hq] at hf; simp only [Option.map_some, Option.some.injEq] at hf; subst hf; rfl
    unfold Oper.wp
    rcases h4 with rfl | rfl | rfl | rfl <;> simp [execOp, hop, hx, hy, hrun, eqGuard, Result.andThen] <;> exact hK' _ _ (hK r 0 hr)
  | none =>
    have hfm : raw op (cd bx) (cd bz) = none := by
      rw [floatBits_raw] at hf
      cases hq : raw op (cd bx) (cd bz) with
      | none => rfl
      | some d => rw [hq] at hf; cases hf
    have hn : ∀ t, cd (Question.cut (.nanBits .f64 bx bz) t) = fop op (cd bx) (cd bz) := by
      intro t
      unfold fop
      rw [hfm]
      exact cd_drawn t
    have hrun : (binOp op t (.float .f64 bx) (.float .f64 bz)).run P w = .ok (.float .f64 (Question.cut (.nanBits .f64 bx bz) (w.tape w.drawn (.nanBits .f64 bx bz)))) (w.drewN 1) := by
      unfold floatBits at hf
      rcases h4 with rfl | rfl | rfl | rfl <;> simp only at hf <;> simp [binOp, Op.floatArith, hf, Question.forced, World.drewN]
    unfold Oper.wp
    rcases h4 with rfl | rfl | rfl | rfl <;> simp [execOp, hop, hx, hy, hrun, eqGuard, Result.andThen] <;> exact hK' _ _ (hK _ 1 (hn _))
end

end Go.Proofs.Ytjldnehlcplccaa.Flo
