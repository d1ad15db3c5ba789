/-
  No cell of these rows narrows 'for every input' (looked for: loops, veiled, ifaces, maps, wideKeys, modest, calm, conditions, laid).
  DERIVED. THE GIVEN ROWS OF THIS SEAT. 6 by the template 'for every input the law returns true; each argument reads behind the call as it read before'; 0 by the template 'total and deterministic' (their statements: YtjldnehlcplccaaTotals.lean).
  GIVEN WITH THE SEED: the statements are not yours to turn. If you find one false, say at which input.
  Laid BY PROGRAM, IN A SANDBOX (cutbox-rows.mjs): the forced cells as the released guide's own fill.sh prints them over the translation 7c88ec2e087da6db… (all of the seat's roots in one cut). By AI agents, Wed Nov 11 2026. No macro, syntax, notation, axiom, sorry.
-/
import Derived.Test.YtjldnehlcplccaaChecked
import GoSem.Claim
import GoSem.ClaimJoined
import GoSem.ClaimMapViews
import Derived.JoinedTies
import Derived.KernelRfl
namespace Go.Proofs.Ytjldnehlcplccaa
/- THE CELL 'sum', in the pinned program and in every row, IS THE sha256 OF THE DUMP (.gsa) THAT YtjldnehlcplccaaProg.lean LOADS. Nothing in Lean hashes anything: it is a label: what it is worth is what the hold of that sum in a sandbox is worth. -/
noncomputable def Try.pinned : Pinned := { name := "ytjldnehlcplccaa", sum := "7c88ec2e087da6db8f42fd2ffaa278a0bdc017a290ebeb4f43b23361b3411b56", checked := Try.checked }
namespace Rows
def none {H : Type} : Left H := { results := [], args := [] }

/-- 'laws.FnExactSmooth': WHATEVER THE INPUT: true; the input reads as it did. -/
def fnExactSmoothSpec : ChangeSpec := { name := "fnExactSmooth", fn := fun _ => fun
  | [d1, d2] => { results := [.lit (.bool true)], args := [d1, d2] }
  | _ => none }
def fnExactSmoothRow : OpenClaim := { program := "ytjldnehlcplccaa", sum := "7c88ec2e087da6db8f42fd2ffaa278a0bdc017a290ebeb4f43b23361b3411b56", func := "loop.example/g00045/laws.FnExactSmooth", spec := "fnExactSmooth", apart := false }
def FnExactSmoothSaid : Prop := fnExactSmoothRow.holds Try.pinned (OpenSpec.ofChange fnExactSmoothSpec)

/-- ITS FALSE NEIGHBOUR: 'it returns false'. Refute it at one input. -/
def fnExactSmoothWrong : ChangeSpec := { name := "fnExactSmooth", fn := fun _ => fun
  | [d1, d2] => { results := [.lit (.bool false)], args := [d1, d2] }
  | _ => none }
def FnExactSmoothWrongFalsely : Prop := fnExactSmoothRow.holds Try.pinned (OpenSpec.ofChange fnExactSmoothWrong)

/-- 'laws.FnExactSummary': WHATEVER THE INPUT: true; the input reads as it did. -/
def fnExactSummarySpec : ChangeSpec := { name := "fnExactSummary", fn := fun _ => fun
  | [d] => { results := [.lit (.bool true)], args := [d] }
  | _ => none }
def fnExactSummaryRow : OpenClaim := { program := "ytjldnehlcplccaa", sum := "7c88ec2e087da6db8f42fd2ffaa278a0bdc017a290ebeb4f43b23361b3411b56", func := "loop.example/g00045/laws.FnExactSummary", spec := "fnExactSummary", apart := false }
def FnExactSummarySaid : Prop := fnExactSummaryRow.holds Try.pinned (OpenSpec.ofChange fnExactSummarySpec)

/-- ITS FALSE NEIGHBOUR: 'it returns false'. Refute it at one input. -/
def fnExactSummaryWrong : ChangeSpec := { name := "fnExactSummary", fn := fun _ => fun
  | [d] => { results := [.lit (.bool false)], args := [d] }
  | _ => none }
def FnExactSummaryWrongFalsely : Prop := fnExactSummaryRow.holds Try.pinned (OpenSpec.ofChange fnExactSummaryWrong)

/-- 'laws.FnExactWaves8': WHATEVER THE INPUT: true; the input reads as it did. -/
def fnExactWaves8Spec : ChangeSpec := { name := "fnExactWaves8", fn := fun _ => fun
  | [d] => { results := [.lit (.bool true)], args := [d] }
  | _ => none }
def fnExactWaves8Row : OpenClaim := { program := "ytjldnehlcplccaa", sum := "7c88ec2e087da6db8f42fd2ffaa278a0bdc017a290ebeb4f43b23361b3411b56", func := "loop.example/g00045/laws.FnExactWaves8", spec := "fnExactWaves8", apart := false }
def FnExactWaves8Said : Prop := fnExactWaves8Row.holds Try.pinned (OpenSpec.ofChange fnExactWaves8Spec)

/-- ITS FALSE NEIGHBOUR: 'it returns false'. Refute it at one input. -/
def fnExactWaves8Wrong : ChangeSpec := { name := "fnExactWaves8", fn := fun _ => fun
  | [d] => { results := [.lit (.bool false)], args := [d] }
  | _ => none }
def FnExactWaves8WrongFalsely : Prop := fnExactWaves8Row.holds Try.pinned (OpenSpec.ofChange fnExactWaves8Wrong)

/-- 'laws.FnExactShares': WHATEVER THE INPUT: true; the input reads as it did. -/
def fnExactSharesSpec : ChangeSpec := { name := "fnExactShares", fn := fun _ => fun
  | [d] => { results := [.lit (.bool true)], args := [d] }
  | _ => none }
def fnExactSharesRow : OpenClaim := { program := "ytjldnehlcplccaa", sum := "7c88ec2e087da6db8f42fd2ffaa278a0bdc017a290ebeb4f43b23361b3411b56", func := "loop.example/g00045/laws.FnExactShares", spec := "fnExactShares", apart := false }
def FnExactSharesSaid : Prop := fnExactSharesRow.holds Try.pinned (OpenSpec.ofChange fnExactSharesSpec)

/-- ITS FALSE NEIGHBOUR: 'it returns false'. Refute it at one input. -/
def fnExactSharesWrong : ChangeSpec := { name := "fnExactShares", fn := fun _ => fun
  | [d] => { results := [.lit (.bool false)], args := [d] }
  | _ => none }
def FnExactSharesWrongFalsely : Prop := fnExactSharesRow.holds Try.pinned (OpenSpec.ofChange fnExactSharesWrong)

/-- 'laws.FnExactBuckets': WHATEVER THE INPUT: true; the input reads as it did. -/
def fnExactBucketsSpec : ChangeSpec := { name := "fnExactBuckets", fn := fun _ => fun
  | [d1, d2] => { results := [.lit (.bool true)], args := [d1, d2] }
  | _ => none }
def fnExactBucketsRow : OpenClaim := { program := "ytjldnehlcplccaa", sum := "7c88ec2e087da6db8f42fd2ffaa278a0bdc017a290ebeb4f43b23361b3411b56", func := "loop.example/g00045/laws.FnExactBuckets", spec := "fnExactBuckets", apart := false }
def FnExactBucketsSaid : Prop := fnExactBucketsRow.holds Try.pinned (OpenSpec.ofChange fnExactBucketsSpec)

/-- ITS FALSE NEIGHBOUR: 'it returns false'. Refute it at one input. -/
def fnExactBucketsWrong : ChangeSpec := { name := "fnExactBuckets", fn := fun _ => fun
  | [d1, d2] => { results := [.lit (.bool false)], args := [d1, d2] }
  | _ => none }
def FnExactBucketsWrongFalsely : Prop := fnExactBucketsRow.holds Try.pinned (OpenSpec.ofChange fnExactBucketsWrong)

/-- 'laws.FnMeasures': WHATEVER THE INPUT: true; the input reads as it did. -/
def fnMeasuresSpec : ChangeSpec := { name := "fnMeasures", fn := fun _ => fun
  | [d1, d2] => { results := [.lit (.bool true)], args := [d1, d2] }
  | _ => none }
def fnMeasuresRow : OpenClaim := { program := "ytjldnehlcplccaa", sum := "7c88ec2e087da6db8f42fd2ffaa278a0bdc017a290ebeb4f43b23361b3411b56", func := "loop.example/g00045/laws.FnMeasures", spec := "fnMeasures", apart := false }
def FnMeasuresSaid : Prop := fnMeasuresRow.holds Try.pinned (OpenSpec.ofChange fnMeasuresSpec)

/-- ITS FALSE NEIGHBOUR: 'it returns false'. Refute it at one input. -/
def fnMeasuresWrong : ChangeSpec := { name := "fnMeasures", fn := fun _ => fun
  | [d1, d2] => { results := [.lit (.bool false)], args := [d1, d2] }
  | _ => none }
def FnMeasuresWrongFalsely : Prop := fnMeasuresRow.holds Try.pinned (OpenSpec.ofChange fnMeasuresWrong)

/- THE SECOND FORM. 'bulk': how many values and letters a reading holds, each counted each time it is reached (what is shared counts as often as it is met; a slice's spare places count too). A statement '..UptoSaid' is the law's where the arguments, and the package variables that the reading takes, are together of bulk at most 1048576: NARROWER than '..Said'. Prove '..Said' where nothing that the law and all that it calls make is longer than what came in: it says more and counts as full. Else prove '..UptoSaid'. A law counts once. -/
mutual
def uptoBulk {H : Type} : DataW H → Nat
  | .lit (.string bytes) => bytes.length + 1
  | .lit _ => 1
  | .nil => 1
  | .ptr d => uptoBulk d + 1
  | .slice elems spare => uptoBulkAll elems + uptoBulkAll spare + 1
  | .agg parts => uptoBulkAll parts + 1
  | .iface _ d => uptoBulk d + 1
  | .map entries => uptoBulkEntries entries + 1
  | .held _ => 1
def uptoBulkAll {H : Type} : List (DataW H) → Nat
  | [] => 0
  | d :: r => uptoBulk d + uptoBulkAll r
def uptoBulkEntries {H : Type} : List (Lit × DataW H) → Nat
  | [] => 0
  | x :: r => uptoBulkEntry x + uptoBulkEntries r
def uptoBulkEntry {H : Type} : Lit × DataW H → Nat
  | (.string bytes, d) => bytes.length + uptoBulk d + 1
  | (_, d) => uptoBulk d + 1
 end
def uptoSmall : (H : Type) → List (DataW H) → Bool := fun _ ds => decide (uptoBulkAll ds ≤ 1048576)
def OpenSpec.upto (s : _root_.Go.ChangeSpec) : _root_.Go.OpenSpec := { _root_.Go.OpenSpec.ofChange s with cond := some uptoSmall }

/-- 'laws.FnExactSmooth', WHERE WHAT IT READS IS OF BULK AT MOST 1048576: true; the input reads as it did. -/
def fnExactSmoothUptoRow : OpenClaim := { program := "ytjldnehlcplccaa", sum := "7c88ec2e087da6db8f42fd2ffaa278a0bdc017a290ebeb4f43b23361b3411b56", func := "loop.example/g00045/laws.FnExactSmooth", spec := "fnExactSmooth", apart := false, narrowed := true }
def FnExactSmoothUptoSaid : Prop := fnExactSmoothUptoRow.holds Try.pinned (OpenSpec.upto fnExactSmoothSpec)

/-- 'laws.FnExactSummary', WHERE WHAT IT READS IS OF BULK AT MOST 1048576: true; the input reads as it did. -/
def fnExactSummaryUptoRow : OpenClaim := { program := "ytjldnehlcplccaa", sum := "7c88ec2e087da6db8f42fd2ffaa278a0bdc017a290ebeb4f43b23361b3411b56", func := "loop.example/g00045/laws.FnExactSummary", spec := "fnExactSummary", apart := false, narrowed := true }
def FnExactSummaryUptoSaid : Prop := fnExactSummaryUptoRow.holds Try.pinned (OpenSpec.upto fnExactSummarySpec)

/-- 'laws.FnExactWaves8', WHERE WHAT IT READS IS OF BULK AT MOST 1048576: true; the input reads as it did. -/
def fnExactWaves8UptoRow : OpenClaim := { program := "ytjldnehlcplccaa", sum := "7c88ec2e087da6db8f42fd2ffaa278a0bdc017a290ebeb4f43b23361b3411b56", func := "loop.example/g00045/laws.FnExactWaves8", spec := "fnExactWaves8", apart := false, narrowed := true }
def FnExactWaves8UptoSaid : Prop := fnExactWaves8UptoRow.holds Try.pinned (OpenSpec.upto fnExactWaves8Spec)

/-- 'laws.FnExactShares', WHERE WHAT IT READS IS OF BULK AT MOST 1048576: true; the input reads as it did. -/
def fnExactSharesUptoRow : OpenClaim := { program := "ytjldnehlcplccaa", sum := "7c88ec2e087da6db8f42fd2ffaa278a0bdc017a290ebeb4f43b23361b3411b56", func := "loop.example/g00045/laws.FnExactShares", spec := "fnExactShares", apart := false, narrowed := true }
def FnExactSharesUptoSaid : Prop := fnExactSharesUptoRow.holds Try.pinned (OpenSpec.upto fnExactSharesSpec)

/-- 'laws.FnExactBuckets', WHERE WHAT IT READS IS OF BULK AT MOST 1048576: true; the input reads as it did. -/
def fnExactBucketsUptoRow : OpenClaim := { program := "ytjldnehlcplccaa", sum := "7c88ec2e087da6db8f42fd2ffaa278a0bdc017a290ebeb4f43b23361b3411b56", func := "loop.example/g00045/laws.FnExactBuckets", spec := "fnExactBuckets", apart := false, narrowed := true }
def FnExactBucketsUptoSaid : Prop := fnExactBucketsUptoRow.holds Try.pinned (OpenSpec.upto fnExactBucketsSpec)

/-- 'laws.FnMeasures', WHERE WHAT IT READS IS OF BULK AT MOST 1048576: true; the input reads as it did. -/
def fnMeasuresUptoRow : OpenClaim := { program := "ytjldnehlcplccaa", sum := "7c88ec2e087da6db8f42fd2ffaa278a0bdc017a290ebeb4f43b23361b3411b56", func := "loop.example/g00045/laws.FnMeasures", spec := "fnMeasures", apart := false, narrowed := true }
def FnMeasuresUptoSaid : Prop := fnMeasuresUptoRow.holds Try.pinned (OpenSpec.upto fnMeasuresSpec)

end Rows
end Go.Proofs.Ytjldnehlcplccaa
