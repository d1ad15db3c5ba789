/-
  No cell of these rows narrows 'for every input' (looked for: loops, veiled, ifaces, maps, wideKeys, modest, calm, conditions, laid).
  DERIVED. THE GIVEN ROWS OF THIS SEAT. 10 by the template 'for every input the law returns true; each argument reads behind the call as it read before'; 0 by the template 'total and deterministic' (their statements: YthkngfieabdelaaTotals.lean).
  GIVEN WITH THE SEED: the statements are not yours to turn. If you find one false, say at which input.
  Laid BY PROGRAM, IN A SANDBOX (cutbox-rows.mjs): the forced cells as the released guide's own fill.sh prints them over the translation b30a5c9f1e6deda0… (all of the seat's roots in one cut). By AI agents, Wed Nov 11 2026. No macro, syntax, notation, axiom, sorry.
-/
import Derived.Test.YthkngfieabdelaaChecked
import GoSem.Claim
import GoSem.ClaimJoined
import GoSem.ClaimMapViews
import Derived.JoinedTies
import Derived.KernelRfl
namespace Go.Proofs.Ythkngfieabdelaa
/- THE CELL 'sum', in the pinned program and in every row, IS THE sha256 OF THE DUMP (.gsa) THAT YthkngfieabdelaaProg.lean LOADS. Nothing in Lean hashes anything: it is a label: what it is worth is what the hold of that sum in a sandbox is worth. -/
noncomputable def Try.pinned : Pinned := { name := "ythkngfieabdelaa", sum := "b30a5c9f1e6deda039b2dc207dcc5801777f99fea31676e27f87c1160551dfd0", checked := Try.checked }
namespace Rows
def none {H : Type} : Left H := { results := [], args := [] }

/-- 'laws.FnExactConstants': WHATEVER THE INPUT: true; the input reads as it did. -/
def fnExactConstantsSpec : ChangeSpec := { name := "fnExactConstants", fn := fun _ => fun
  | [] => { results := [.lit (.bool true)], args := [] }
  | _ => none }
def fnExactConstantsRow : OpenClaim := { program := "ythkngfieabdelaa", sum := "b30a5c9f1e6deda039b2dc207dcc5801777f99fea31676e27f87c1160551dfd0", func := "loop.example/g00045/laws.FnExactConstants", spec := "fnExactConstants", apart := false }
def FnExactConstantsSaid : Prop := fnExactConstantsRow.holds Try.pinned (OpenSpec.ofChange fnExactConstantsSpec)

/-- ITS FALSE NEIGHBOUR: 'it returns false'. Refute it at one input. -/
def fnExactConstantsWrong : ChangeSpec := { name := "fnExactConstants", fn := fun _ => fun
  | [] => { results := [.lit (.bool false)], args := [] }
  | _ => none }
def FnExactConstantsWrongFalsely : Prop := fnExactConstantsRow.holds Try.pinned (OpenSpec.ofChange fnExactConstantsWrong)

/-- 'laws.FnExactIsLetter': WHATEVER THE INPUT: true; the input reads as it did. -/
def fnExactIsLetterSpec : ChangeSpec := { name := "fnExactIsLetter", fn := fun _ => fun
  | [d] => { results := [.lit (.bool true)], args := [d] }
  | _ => none }
def fnExactIsLetterRow : OpenClaim := { program := "ythkngfieabdelaa", sum := "b30a5c9f1e6deda039b2dc207dcc5801777f99fea31676e27f87c1160551dfd0", func := "loop.example/g00045/laws.FnExactIsLetter", spec := "fnExactIsLetter", unfollowed := true, recurses := true, apart := false }
def FnExactIsLetterSaid : Prop := fnExactIsLetterRow.holds Try.pinned (OpenSpec.ofChange fnExactIsLetterSpec)

/-- ITS FALSE NEIGHBOUR: 'it returns false'. Refute it at one input. -/
def fnExactIsLetterWrong : ChangeSpec := { name := "fnExactIsLetter", fn := fun _ => fun
  | [d] => { results := [.lit (.bool false)], args := [d] }
  | _ => none }
def FnExactIsLetterWrongFalsely : Prop := fnExactIsLetterRow.holds Try.pinned (OpenSpec.ofChange fnExactIsLetterWrong)

/-- 'laws.FnExactApart': WHATEVER THE INPUT: true; the input reads as it did. -/
def fnExactApartSpec : ChangeSpec := { name := "fnExactApart", fn := fun _ => fun
  | [d1, d2] => { results := [.lit (.bool true)], args := [d1, d2] }
  | _ => none }
def fnExactApartRow : OpenClaim := { program := "ythkngfieabdelaa", sum := "b30a5c9f1e6deda039b2dc207dcc5801777f99fea31676e27f87c1160551dfd0", func := "loop.example/g00045/laws.FnExactApart", spec := "fnExactApart", unfollowed := true, recurses := true, apart := false }
def FnExactApartSaid : Prop := fnExactApartRow.holds Try.pinned (OpenSpec.ofChange fnExactApartSpec)

/-- ITS FALSE NEIGHBOUR: 'it returns false'. Refute it at one input. -/
def fnExactApartWrong : ChangeSpec := { name := "fnExactApart", fn := fun _ => fun
  | [d1, d2] => { results := [.lit (.bool false)], args := [d1, d2] }
  | _ => none }
def FnExactApartWrongFalsely : Prop := fnExactApartRow.holds Try.pinned (OpenSpec.ofChange fnExactApartWrong)

/-- 'laws.FnExactSmooth': WHATEVER THE INPUT: true; the input reads as it did. -/
def fnExactSmoothSpec : ChangeSpec := { name := "fnExactSmooth", fn := fun _ => fun
  | [d1, d2] => { results := [.lit (.bool true)], args := [d1, d2] }
  | _ => none }
def fnExactSmoothRow : OpenClaim := { program := "ythkngfieabdelaa", sum := "b30a5c9f1e6deda039b2dc207dcc5801777f99fea31676e27f87c1160551dfd0", func := "loop.example/g00045/laws.FnExactSmooth", spec := "fnExactSmooth", apart := false }
def FnExactSmoothSaid : Prop := fnExactSmoothRow.holds Try.pinned (OpenSpec.ofChange fnExactSmoothSpec)

/-- ITS FALSE NEIGHBOUR: 'it returns false'. Refute it at one input. -/
def fnExactSmoothWrong : ChangeSpec := { name := "fnExactSmooth", fn := fun _ => fun
  | [d1, d2] => { results := [.lit (.bool false)], args := [d1, d2] }
  | _ => none }
def FnExactSmoothWrongFalsely : Prop := fnExactSmoothRow.holds Try.pinned (OpenSpec.ofChange fnExactSmoothWrong)

/-- 'laws.FnExactHistoryOK': WHATEVER THE INPUT: true; the input reads as it did. -/
def fnExactHistoryOKSpec : ChangeSpec := { name := "fnExactHistoryOK", fn := fun _ => fun
  | [d] => { results := [.lit (.bool true)], args := [d] }
  | _ => none }
def fnExactHistoryOKRow : OpenClaim := { program := "ythkngfieabdelaa", sum := "b30a5c9f1e6deda039b2dc207dcc5801777f99fea31676e27f87c1160551dfd0", func := "loop.example/g00045/laws.FnExactHistoryOK", spec := "fnExactHistoryOK", apart := false }
def FnExactHistoryOKSaid : Prop := fnExactHistoryOKRow.holds Try.pinned (OpenSpec.ofChange fnExactHistoryOKSpec)

/-- ITS FALSE NEIGHBOUR: 'it returns false'. Refute it at one input. -/
def fnExactHistoryOKWrong : ChangeSpec := { name := "fnExactHistoryOK", fn := fun _ => fun
  | [d] => { results := [.lit (.bool false)], args := [d] }
  | _ => none }
def FnExactHistoryOKWrongFalsely : Prop := fnExactHistoryOKRow.holds Try.pinned (OpenSpec.ofChange fnExactHistoryOKWrong)

/-- 'laws.FnExactSummary': WHATEVER THE INPUT: true; the input reads as it did. -/
def fnExactSummarySpec : ChangeSpec := { name := "fnExactSummary", fn := fun _ => fun
  | [d] => { results := [.lit (.bool true)], args := [d] }
  | _ => none }
def fnExactSummaryRow : OpenClaim := { program := "ythkngfieabdelaa", sum := "b30a5c9f1e6deda039b2dc207dcc5801777f99fea31676e27f87c1160551dfd0", func := "loop.example/g00045/laws.FnExactSummary", spec := "fnExactSummary", apart := false }
def FnExactSummarySaid : Prop := fnExactSummaryRow.holds Try.pinned (OpenSpec.ofChange fnExactSummarySpec)

/-- ITS FALSE NEIGHBOUR: 'it returns false'. Refute it at one input. -/
def fnExactSummaryWrong : ChangeSpec := { name := "fnExactSummary", fn := fun _ => fun
  | [d] => { results := [.lit (.bool false)], args := [d] }
  | _ => none }
def FnExactSummaryWrongFalsely : Prop := fnExactSummaryRow.holds Try.pinned (OpenSpec.ofChange fnExactSummaryWrong)

/-- 'laws.FnExactWaves8': WHATEVER THE INPUT: true; the input reads as it did. -/
def fnExactWaves8Spec : ChangeSpec := { name := "fnExactWaves8", fn := fun _ => fun
  | [d] => { results := [.lit (.bool true)], args := [d] }
  | _ => none }
def fnExactWaves8Row : OpenClaim := { program := "ythkngfieabdelaa", sum := "b30a5c9f1e6deda039b2dc207dcc5801777f99fea31676e27f87c1160551dfd0", func := "loop.example/g00045/laws.FnExactWaves8", spec := "fnExactWaves8", apart := false }
def FnExactWaves8Said : Prop := fnExactWaves8Row.holds Try.pinned (OpenSpec.ofChange fnExactWaves8Spec)

/-- ITS FALSE NEIGHBOUR: 'it returns false'. Refute it at one input. -/
def fnExactWaves8Wrong : ChangeSpec := { name := "fnExactWaves8", fn := fun _ => fun
  | [d] => { results := [.lit (.bool false)], args := [d] }
  | _ => none }
def FnExactWaves8WrongFalsely : Prop := fnExactWaves8Row.holds Try.pinned (OpenSpec.ofChange fnExactWaves8Wrong)

/-- 'laws.FnExactShares': WHATEVER THE INPUT: true; the input reads as it did. -/
def fnExactSharesSpec : ChangeSpec := { name := "fnExactShares", fn := fun _ => fun
  | [d] => { results := [.lit (.bool true)], args := [d] }
  | _ => none }
def fnExactSharesRow : OpenClaim := { program := "ythkngfieabdelaa", sum := "b30a5c9f1e6deda039b2dc207dcc5801777f99fea31676e27f87c1160551dfd0", func := "loop.example/g00045/laws.FnExactShares", spec := "fnExactShares", apart := false }
def FnExactSharesSaid : Prop := fnExactSharesRow.holds Try.pinned (OpenSpec.ofChange fnExactSharesSpec)

/-- ITS FALSE NEIGHBOUR: 'it returns false'. Refute it at one input. -/
def fnExactSharesWrong : ChangeSpec := { name := "fnExactShares", fn := fun _ => fun
  | [d] => { results := [.lit (.bool false)], args := [d] }
  | _ => none }
def FnExactSharesWrongFalsely : Prop := fnExactSharesRow.holds Try.pinned (OpenSpec.ofChange fnExactSharesWrong)

/-- 'laws.FnExactBuckets': WHATEVER THE INPUT: true; the input reads as it did. -/
def fnExactBucketsSpec : ChangeSpec := { name := "fnExactBuckets", fn := fun _ => fun
  | [d1, d2] => { results := [.lit (.bool true)], args := [d1, d2] }
  | _ => none }
def fnExactBucketsRow : OpenClaim := { program := "ythkngfieabdelaa", sum := "b30a5c9f1e6deda039b2dc207dcc5801777f99fea31676e27f87c1160551dfd0", func := "loop.example/g00045/laws.FnExactBuckets", spec := "fnExactBuckets", apart := false }
def FnExactBucketsSaid : Prop := fnExactBucketsRow.holds Try.pinned (OpenSpec.ofChange fnExactBucketsSpec)

/-- ITS FALSE NEIGHBOUR: 'it returns false'. Refute it at one input. -/
def fnExactBucketsWrong : ChangeSpec := { name := "fnExactBuckets", fn := fun _ => fun
  | [d1, d2] => { results := [.lit (.bool false)], args := [d1, d2] }
  | _ => none }
def FnExactBucketsWrongFalsely : Prop := fnExactBucketsRow.holds Try.pinned (OpenSpec.ofChange fnExactBucketsWrong)

/-- 'laws.FnExactTraceOK': WHATEVER THE INPUT: true; the input reads as it did. -/
def fnExactTraceOKSpec : ChangeSpec := { name := "fnExactTraceOK", fn := fun _ => fun
  | [d] => { results := [.lit (.bool true)], args := [d] }
  | _ => none }
def fnExactTraceOKRow : OpenClaim := { program := "ythkngfieabdelaa", sum := "b30a5c9f1e6deda039b2dc207dcc5801777f99fea31676e27f87c1160551dfd0", func := "loop.example/g00045/laws.FnExactTraceOK", spec := "fnExactTraceOK", apart := false }
def FnExactTraceOKSaid : Prop := fnExactTraceOKRow.holds Try.pinned (OpenSpec.ofChange fnExactTraceOKSpec)

/-- ITS FALSE NEIGHBOUR: 'it returns false'. Refute it at one input. -/
def fnExactTraceOKWrong : ChangeSpec := { name := "fnExactTraceOK", fn := fun _ => fun
  | [d] => { results := [.lit (.bool false)], args := [d] }
  | _ => none }
def FnExactTraceOKWrongFalsely : Prop := fnExactTraceOKRow.holds Try.pinned (OpenSpec.ofChange fnExactTraceOKWrong)

/- THE SECOND FORM. 'bulk': how many values and letters a reading holds, each counted each time it is reached (what is shared counts as often as it is met; a slice's spare places count too). A statement '..UptoSaid' is the law's where the arguments, and the package variables that the reading takes, are together of bulk at most 1048576: NARROWER than '..Said'. Prove '..Said' where nothing that the law and all that it calls make is longer than what came in: it says more and counts as full. Else prove '..UptoSaid'. A law counts once. -/
mutual
def uptoBulk {H : Type} : DataW H → Nat
  | .lit (.string bytes) => bytes.length + 1
  | .lit _ => 1
  | .nil => 1
  | .ptr d => uptoBulk d + 1
  | .slice elems spare => uptoBulkAll elems + uptoBulkAll spare + 1
  | .agg parts => uptoBulkAll parts + 1
  | .iface _ d => uptoBulk d + 1
  | .map entries => uptoBulkEntries entries + 1
  | .held _ => 1
def uptoBulkAll {H : Type} : List (DataW H) → Nat
  | [] => 0
  | d :: r => uptoBulk d + uptoBulkAll r
def uptoBulkEntries {H : Type} : List (Lit × DataW H) → Nat
  | [] => 0
  | x :: r => uptoBulkEntry x + uptoBulkEntries r
def uptoBulkEntry {H : Type} : Lit × DataW H → Nat
  | (.string bytes, d) => bytes.length + uptoBulk d + 1
  | (_, d) => uptoBulk d + 1
 end
def uptoSmall : (H : Type) → List (DataW H) → Bool := fun _ ds => decide (uptoBulkAll ds ≤ 1048576)
def OpenSpec.upto (s : _root_.Go.ChangeSpec) : _root_.Go.OpenSpec := { _root_.Go.OpenSpec.ofChange s with cond := some uptoSmall }

/-- 'laws.FnExactConstants', WHERE WHAT IT READS IS OF BULK AT MOST 1048576: true; the input reads as it did. -/
def fnExactConstantsUptoRow : OpenClaim := { program := "ythkngfieabdelaa", sum := "b30a5c9f1e6deda039b2dc207dcc5801777f99fea31676e27f87c1160551dfd0", func := "loop.example/g00045/laws.FnExactConstants", spec := "fnExactConstants", apart := false, narrowed := true }
def FnExactConstantsUptoSaid : Prop := fnExactConstantsUptoRow.holds Try.pinned (OpenSpec.upto fnExactConstantsSpec)

/-- 'laws.FnExactIsLetter', WHERE WHAT IT READS IS OF BULK AT MOST 1048576: true; the input reads as it did. -/
def fnExactIsLetterUptoRow : OpenClaim := { program := "ythkngfieabdelaa", sum := "b30a5c9f1e6deda039b2dc207dcc5801777f99fea31676e27f87c1160551dfd0", func := "loop.example/g00045/laws.FnExactIsLetter", spec := "fnExactIsLetter", unfollowed := true, recurses := true, apart := false, narrowed := true }
def FnExactIsLetterUptoSaid : Prop := fnExactIsLetterUptoRow.holds Try.pinned (OpenSpec.upto fnExactIsLetterSpec)

/-- 'laws.FnExactApart', WHERE WHAT IT READS IS OF BULK AT MOST 1048576: true; the input reads as it did. -/
def fnExactApartUptoRow : OpenClaim := { program := "ythkngfieabdelaa", sum := "b30a5c9f1e6deda039b2dc207dcc5801777f99fea31676e27f87c1160551dfd0", func := "loop.example/g00045/laws.FnExactApart", spec := "fnExactApart", unfollowed := true, recurses := true, apart := false, narrowed := true }
def FnExactApartUptoSaid : Prop := fnExactApartUptoRow.holds Try.pinned (OpenSpec.upto fnExactApartSpec)

/-- 'laws.FnExactSmooth', WHERE WHAT IT READS IS OF BULK AT MOST 1048576: true; the input reads as it did. -/
def fnExactSmoothUptoRow : OpenClaim := { program := "ythkngfieabdelaa", sum := "b30a5c9f1e6deda039b2dc207dcc5801777f99fea31676e27f87c1160551dfd0", func := "loop.example/g00045/laws.FnExactSmooth", spec := "fnExactSmooth", apart := false, narrowed := true }
def FnExactSmoothUptoSaid : Prop := fnExactSmoothUptoRow.holds Try.pinned (OpenSpec.upto fnExactSmoothSpec)

/-- 'laws.FnExactHistoryOK', WHERE WHAT IT READS IS OF BULK AT MOST 1048576: true; the input reads as it did. -/
def fnExactHistoryOKUptoRow : OpenClaim := { program := "ythkngfieabdelaa", sum := "b30a5c9f1e6deda039b2dc207dcc5801777f99fea31676e27f87c1160551dfd0", func := "loop.example/g00045/laws.FnExactHistoryOK", spec := "fnExactHistoryOK", apart := false, narrowed := true }
def FnExactHistoryOKUptoSaid : Prop := fnExactHistoryOKUptoRow.holds Try.pinned (OpenSpec.upto fnExactHistoryOKSpec)

/-- 'laws.FnExactSummary', WHERE WHAT IT READS IS OF BULK AT MOST 1048576: true; the input reads as it did. -/
def fnExactSummaryUptoRow : OpenClaim := { program := "ythkngfieabdelaa", sum := "b30a5c9f1e6deda039b2dc207dcc5801777f99fea31676e27f87c1160551dfd0", func := "loop.example/g00045/laws.FnExactSummary", spec := "fnExactSummary", apart := false, narrowed := true }
def FnExactSummaryUptoSaid : Prop := fnExactSummaryUptoRow.holds Try.pinned (OpenSpec.upto fnExactSummarySpec)

/-- 'laws.FnExactWaves8', WHERE WHAT IT READS IS OF BULK AT MOST 1048576: true; the input reads as it did. -/
def fnExactWaves8UptoRow : OpenClaim := { program := "ythkngfieabdelaa", sum := "b30a5c9f1e6deda039b2dc207dcc5801777f99fea31676e27f87c1160551dfd0", func := "loop.example/g00045/laws.FnExactWaves8", spec := "fnExactWaves8", apart := false, narrowed := true }
def FnExactWaves8UptoSaid : Prop := fnExactWaves8UptoRow.holds Try.pinned (OpenSpec.upto fnExactWaves8Spec)

/-- 'laws.FnExactShares', WHERE WHAT IT READS IS OF BULK AT MOST 1048576: true; the input reads as it did. -/
def fnExactSharesUptoRow : OpenClaim := { program := "ythkngfieabdelaa", sum := "b30a5c9f1e6deda039b2dc207dcc5801777f99fea31676e27f87c1160551dfd0", func := "loop.example/g00045/laws.FnExactShares", spec := "fnExactShares", apart := false, narrowed := true }
def FnExactSharesUptoSaid : Prop := fnExactSharesUptoRow.holds Try.pinned (OpenSpec.upto fnExactSharesSpec)

/-- 'laws.FnExactBuckets', WHERE WHAT IT READS IS OF BULK AT MOST 1048576: true; the input reads as it did. -/
def fnExactBucketsUptoRow : OpenClaim := { program := "ythkngfieabdelaa", sum := "b30a5c9f1e6deda039b2dc207dcc5801777f99fea31676e27f87c1160551dfd0", func := "loop.example/g00045/laws.FnExactBuckets", spec := "fnExactBuckets", apart := false, narrowed := true }
def FnExactBucketsUptoSaid : Prop := fnExactBucketsUptoRow.holds Try.pinned (OpenSpec.upto fnExactBucketsSpec)

/-- 'laws.FnExactTraceOK', WHERE WHAT IT READS IS OF BULK AT MOST 1048576: true; the input reads as it did. -/
def fnExactTraceOKUptoRow : OpenClaim := { program := "ythkngfieabdelaa", sum := "b30a5c9f1e6deda039b2dc207dcc5801777f99fea31676e27f87c1160551dfd0", func := "loop.example/g00045/laws.FnExactTraceOK", spec := "fnExactTraceOK", apart := false, narrowed := true }
def FnExactTraceOKUptoSaid : Prop := fnExactTraceOKUptoRow.holds Try.pinned (OpenSpec.upto fnExactTraceOKSpec)

end Rows
end Go.Proofs.Ythkngfieabdelaa
