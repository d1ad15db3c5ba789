/-
  No cell of these rows narrows 'for every input' (looked for: loops, veiled, ifaces, maps, wideKeys, modest, calm, conditions, laid).
  DERIVED. THE GIVEN ROWS OF THIS SEAT. 4 by the template 'for every input the law returns true; each argument reads behind the call as it read before'; 0 by the template 'total and deterministic' (their statements: YtlfhdjodcfifpaaTotals.lean).
  GIVEN WITH THE SEED: the statements are not yours to turn. If you find one false, say at which input.
  Laid BY PROGRAM, IN A SANDBOX (cutbox-rows.mjs): the forced cells as the released guide's own fill.sh prints them over the translation acadfe9cfadb2bfb… (all of the seat's roots in one cut). By AI agents, Wed Nov 11 2026. No macro, syntax, notation, axiom, sorry.
-/
import Derived.Test.YtlfhdjodcfifpaaChecked
import GoSem.Claim
import GoSem.ClaimJoined
import GoSem.ClaimMapViews
import Derived.JoinedTies
import Derived.KernelRfl
namespace Go.Proofs.Ytlfhdjodcfifpaa
/- THE CELL 'sum', in the pinned program and in every row, IS THE sha256 OF THE DUMP (.gsa) THAT YtlfhdjodcfifpaaProg.lean LOADS. Nothing in Lean hashes anything: it is a label: what it is worth is what the hold of that sum in a sandbox is worth. -/
noncomputable def Try.pinned : Pinned := { name := "ytlfhdjodcfifpaa", sum := "acadfe9cfadb2bfb95e045f424ea346f05d675f96622e66d8e0171734bef28cf", checked := Try.checked }
namespace Rows
def none {H : Type} : Left H := { results := [], args := [] }

/-- 'laws.FnExactSyncOK': WHATEVER THE INPUT: true; the input reads as it did. -/
def fnExactSyncOKSpec : ChangeSpec := { name := "fnExactSyncOK", fn := fun _ => fun
  | [d] => { results := [.lit (.bool true)], args := [d] }
  | _ => none }
def fnExactSyncOKRow : OpenClaim := { program := "ytlfhdjodcfifpaa", sum := "acadfe9cfadb2bfb95e045f424ea346f05d675f96622e66d8e0171734bef28cf", func := "loop.example/g00045/laws.FnExactSyncOK", spec := "fnExactSyncOK", unfollowed := true, recurses := true, apart := false }
def FnExactSyncOKSaid : Prop := fnExactSyncOKRow.holds Try.pinned (OpenSpec.ofChange fnExactSyncOKSpec)

/-- ITS FALSE NEIGHBOUR: 'it returns false'. Refute it at one input. -/
def fnExactSyncOKWrong : ChangeSpec := { name := "fnExactSyncOK", fn := fun _ => fun
  | [d] => { results := [.lit (.bool false)], args := [d] }
  | _ => none }
def FnExactSyncOKWrongFalsely : Prop := fnExactSyncOKRow.holds Try.pinned (OpenSpec.ofChange fnExactSyncOKWrong)

/-- 'laws.FnExactFair': WHATEVER THE INPUT: true; the input reads as it did. -/
def fnExactFairSpec : ChangeSpec := { name := "fnExactFair", fn := fun _ => fun
  | [d1, d2] => { results := [.lit (.bool true)], args := [d1, d2] }
  | _ => none }
def fnExactFairRow : OpenClaim := { program := "ytlfhdjodcfifpaa", sum := "acadfe9cfadb2bfb95e045f424ea346f05d675f96622e66d8e0171734bef28cf", func := "loop.example/g00045/laws.FnExactFair", spec := "fnExactFair", unfollowed := true, recurses := true, apart := false }
def FnExactFairSaid : Prop := fnExactFairRow.holds Try.pinned (OpenSpec.ofChange fnExactFairSpec)

/-- ITS FALSE NEIGHBOUR: 'it returns false'. Refute it at one input. -/
def fnExactFairWrong : ChangeSpec := { name := "fnExactFair", fn := fun _ => fun
  | [d1, d2] => { results := [.lit (.bool false)], args := [d1, d2] }
  | _ => none }
def FnExactFairWrongFalsely : Prop := fnExactFairRow.holds Try.pinned (OpenSpec.ofChange fnExactFairWrong)

/-- 'laws.FnHeld': WHATEVER THE INPUT: true; the input reads as it did. -/
def fnHeldSpec : ChangeSpec := { name := "fnHeld", fn := fun _ => fun
  | [d1, d2] => { results := [.lit (.bool true)], args := [d1, d2] }
  | _ => none }
def fnHeldRow : OpenClaim := { program := "ytlfhdjodcfifpaa", sum := "acadfe9cfadb2bfb95e045f424ea346f05d675f96622e66d8e0171734bef28cf", func := "loop.example/g00045/laws.FnHeld", spec := "fnHeld", unfollowed := true, recurses := true, apart := false }
def FnHeldSaid : Prop := fnHeldRow.holds Try.pinned (OpenSpec.ofChange fnHeldSpec)

/-- ITS FALSE NEIGHBOUR: 'it returns false'. Refute it at one input. -/
def fnHeldWrong : ChangeSpec := { name := "fnHeld", fn := fun _ => fun
  | [d1, d2] => { results := [.lit (.bool false)], args := [d1, d2] }
  | _ => none }
def FnHeldWrongFalsely : Prop := fnHeldRow.holds Try.pinned (OpenSpec.ofChange fnHeldWrong)

/-- 'laws.FnCircle': WHATEVER THE INPUT: true; the input reads as it did. -/
def fnCircleSpec : ChangeSpec := { name := "fnCircle", fn := fun _ => fun
  | [d1, d2] => { results := [.lit (.bool true)], args := [d1, d2] }
  | _ => none }
def fnCircleRow : OpenClaim := { program := "ytlfhdjodcfifpaa", sum := "acadfe9cfadb2bfb95e045f424ea346f05d675f96622e66d8e0171734bef28cf", func := "loop.example/g00045/laws.FnCircle", spec := "fnCircle", unfollowed := true, recurses := true, apart := false }
def FnCircleSaid : Prop := fnCircleRow.holds Try.pinned (OpenSpec.ofChange fnCircleSpec)

/-- ITS FALSE NEIGHBOUR: 'it returns false'. Refute it at one input. -/
def fnCircleWrong : ChangeSpec := { name := "fnCircle", fn := fun _ => fun
  | [d1, d2] => { results := [.lit (.bool false)], args := [d1, d2] }
  | _ => none }
def FnCircleWrongFalsely : Prop := fnCircleRow.holds Try.pinned (OpenSpec.ofChange fnCircleWrong)

/- THE SECOND FORM. 'bulk': how many values and letters a reading holds, each counted each time it is reached (what is shared counts as often as it is met; a slice's spare places count too). A statement '..UptoSaid' is the law's where the arguments, and the package variables that the reading takes, are together of bulk at most 1048576: NARROWER than '..Said'. Prove '..Said' where nothing that the law and all that it calls make is longer than what came in: it says more and counts as full. Else prove '..UptoSaid'. A law counts once. -/
mutual
def uptoBulk {H : Type} : DataW H → Nat
  | .lit (.string bytes) => bytes.length + 1
  | .lit _ => 1
  | .nil => 1
  | .ptr d => uptoBulk d + 1
  | .slice elems spare => uptoBulkAll elems + uptoBulkAll spare + 1
  | .agg parts => uptoBulkAll parts + 1
  | .iface _ d => uptoBulk d + 1
  | .map entries => uptoBulkEntries entries + 1
  | .held _ => 1
def uptoBulkAll {H : Type} : List (DataW H) → Nat
  | [] => 0
  | d :: r => uptoBulk d + uptoBulkAll r
def uptoBulkEntries {H : Type} : List (Lit × DataW H) → Nat
  | [] => 0
  | x :: r => uptoBulkEntry x + uptoBulkEntries r
def uptoBulkEntry {H : Type} : Lit × DataW H → Nat
  | (.string bytes, d) => bytes.length + uptoBulk d + 1
  | (_, d) => uptoBulk d + 1
 end
def uptoSmall : (H : Type) → List (DataW H) → Bool := fun _ ds => decide (uptoBulkAll ds ≤ 1048576)
def OpenSpec.upto (s : _root_.Go.ChangeSpec) : _root_.Go.OpenSpec := { _root_.Go.OpenSpec.ofChange s with cond := some uptoSmall }

/-- 'laws.FnExactSyncOK', WHERE WHAT IT READS IS OF BULK AT MOST 1048576: true; the input reads as it did. -/
def fnExactSyncOKUptoRow : OpenClaim := { program := "ytlfhdjodcfifpaa", sum := "acadfe9cfadb2bfb95e045f424ea346f05d675f96622e66d8e0171734bef28cf", func := "loop.example/g00045/laws.FnExactSyncOK", spec := "fnExactSyncOK", unfollowed := true, recurses := true, apart := false, narrowed := true }
def FnExactSyncOKUptoSaid : Prop := fnExactSyncOKUptoRow.holds Try.pinned (OpenSpec.upto fnExactSyncOKSpec)

/-- 'laws.FnExactFair', WHERE WHAT IT READS IS OF BULK AT MOST 1048576: true; the input reads as it did. -/
def fnExactFairUptoRow : OpenClaim := { program := "ytlfhdjodcfifpaa", sum := "acadfe9cfadb2bfb95e045f424ea346f05d675f96622e66d8e0171734bef28cf", func := "loop.example/g00045/laws.FnExactFair", spec := "fnExactFair", unfollowed := true, recurses := true, apart := false, narrowed := true }
def FnExactFairUptoSaid : Prop := fnExactFairUptoRow.holds Try.pinned (OpenSpec.upto fnExactFairSpec)

/-- 'laws.FnHeld', WHERE WHAT IT READS IS OF BULK AT MOST 1048576: true; the input reads as it did. -/
def fnHeldUptoRow : OpenClaim := { program := "ytlfhdjodcfifpaa", sum := "acadfe9cfadb2bfb95e045f424ea346f05d675f96622e66d8e0171734bef28cf", func := "loop.example/g00045/laws.FnHeld", spec := "fnHeld", unfollowed := true, recurses := true, apart := false, narrowed := true }
def FnHeldUptoSaid : Prop := fnHeldUptoRow.holds Try.pinned (OpenSpec.upto fnHeldSpec)

/-- 'laws.FnCircle', WHERE WHAT IT READS IS OF BULK AT MOST 1048576: true; the input reads as it did. -/
def fnCircleUptoRow : OpenClaim := { program := "ytlfhdjodcfifpaa", sum := "acadfe9cfadb2bfb95e045f424ea346f05d675f96622e66d8e0171734bef28cf", func := "loop.example/g00045/laws.FnCircle", spec := "fnCircle", unfollowed := true, recurses := true, apart := false, narrowed := true }
def FnCircleUptoSaid : Prop := fnCircleUptoRow.holds Try.pinned (OpenSpec.upto fnCircleSpec)

end Rows
end Go.Proofs.Ytlfhdjodcfifpaa
