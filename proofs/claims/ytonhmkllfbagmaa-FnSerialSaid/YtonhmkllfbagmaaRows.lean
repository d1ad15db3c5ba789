/-
  No cell of these rows narrows 'for every input' (looked for: loops, veiled, ifaces, maps, wideKeys, modest, calm, conditions, laid).
  DERIVED. THE GIVEN ROWS OF THIS SEAT. 5 by the template 'for every input the law returns true; each argument reads behind the call as it read before'; 0 by the template 'total and deterministic' (their statements: YtonhmkllfbagmaaTotals.lean).
  GIVEN WITH THE SEED: the statements are not yours to turn. If you find one false, say at which input.
  Laid BY PROGRAM, IN A SANDBOX (cutbox-rows.mjs): the forced cells as the released guide's own fill.sh prints them over the translation 65330a0117cd9307… (all of the seat's roots in one cut). By AI agents, Wed Nov 11 2026. No macro, syntax, notation, axiom, sorry.
-/
import Derived.Test.YtonhmkllfbagmaaChecked
import GoSem.Claim
import GoSem.ClaimJoined
import GoSem.ClaimMapViews
import Derived.JoinedTies
import Derived.KernelRfl
namespace Go.Proofs.Ytonhmkllfbagmaa
/- THE CELL 'sum', in the pinned program and in every row, IS THE sha256 OF THE DUMP (.gsa) THAT YtonhmkllfbagmaaProg.lean LOADS. Nothing in Lean hashes anything: it is a label: what it is worth is what the hold of that sum in a sandbox is worth. -/
noncomputable def Try.pinned : Pinned := { name := "ytonhmkllfbagmaa", sum := "65330a0117cd9307fe34b2cdd0e220e488b8a3df8a57709b4fb75c7dd437db74", checked := Try.checked }
namespace Rows
def none {H : Type} : Left H := { results := [], args := [] }

/-- 'laws.FnExactTxOK': WHATEVER THE INPUT: true; the input reads as it did. -/
def fnExactTxOKSpec : ChangeSpec := { name := "fnExactTxOK", fn := fun _ => fun
  | [d] => { results := [.lit (.bool true)], args := [d] }
  | _ => none }
def fnExactTxOKRow : OpenClaim := { program := "ytonhmkllfbagmaa", sum := "65330a0117cd9307fe34b2cdd0e220e488b8a3df8a57709b4fb75c7dd437db74", func := "loop.example/g00045/laws.FnExactTxOK", spec := "fnExactTxOK", apart := false }
def FnExactTxOKSaid : Prop := fnExactTxOKRow.holds Try.pinned (OpenSpec.ofChange fnExactTxOKSpec)

/-- ITS FALSE NEIGHBOUR: 'it returns false'. Refute it at one input. -/
def fnExactTxOKWrong : ChangeSpec := { name := "fnExactTxOK", fn := fun _ => fun
  | [d] => { results := [.lit (.bool false)], args := [d] }
  | _ => none }
def FnExactTxOKWrongFalsely : Prop := fnExactTxOKRow.holds Try.pinned (OpenSpec.ofChange fnExactTxOKWrong)

/-- 'laws.FnExactTxSerial': WHATEVER THE INPUT: true; the input reads as it did. -/
def fnExactTxSerialSpec : ChangeSpec := { name := "fnExactTxSerial", fn := fun _ => fun
  | [d1, d2] => { results := [.lit (.bool true)], args := [d1, d2] }
  | _ => none }
def fnExactTxSerialRow : OpenClaim := { program := "ytonhmkllfbagmaa", sum := "65330a0117cd9307fe34b2cdd0e220e488b8a3df8a57709b4fb75c7dd437db74", func := "loop.example/g00045/laws.FnExactTxSerial", spec := "fnExactTxSerial", apart := false }
def FnExactTxSerialSaid : Prop := fnExactTxSerialRow.holds Try.pinned (OpenSpec.ofChange fnExactTxSerialSpec)

/-- ITS FALSE NEIGHBOUR: 'it returns false'. Refute it at one input. -/
def fnExactTxSerialWrong : ChangeSpec := { name := "fnExactTxSerial", fn := fun _ => fun
  | [d1, d2] => { results := [.lit (.bool false)], args := [d1, d2] }
  | _ => none }
def FnExactTxSerialWrongFalsely : Prop := fnExactTxSerialRow.holds Try.pinned (OpenSpec.ofChange fnExactTxSerialWrong)

/-- 'laws.FnExactTxFair': WHATEVER THE INPUT: true; the input reads as it did. -/
def fnExactTxFairSpec : ChangeSpec := { name := "fnExactTxFair", fn := fun _ => fun
  | [d1, d2] => { results := [.lit (.bool true)], args := [d1, d2] }
  | _ => none }
def fnExactTxFairRow : OpenClaim := { program := "ytonhmkllfbagmaa", sum := "65330a0117cd9307fe34b2cdd0e220e488b8a3df8a57709b4fb75c7dd437db74", func := "loop.example/g00045/laws.FnExactTxFair", spec := "fnExactTxFair", apart := false }
def FnExactTxFairSaid : Prop := fnExactTxFairRow.holds Try.pinned (OpenSpec.ofChange fnExactTxFairSpec)

/-- ITS FALSE NEIGHBOUR: 'it returns false'. Refute it at one input. -/
def fnExactTxFairWrong : ChangeSpec := { name := "fnExactTxFair", fn := fun _ => fun
  | [d1, d2] => { results := [.lit (.bool false)], args := [d1, d2] }
  | _ => none }
def FnExactTxFairWrongFalsely : Prop := fnExactTxFairRow.holds Try.pinned (OpenSpec.ofChange fnExactTxFairWrong)

/-- 'laws.FnFairWork': WHATEVER THE INPUT: true; the input reads as it did. -/
def fnFairWorkSpec : ChangeSpec := { name := "fnFairWork", fn := fun _ => fun
  | [d] => { results := [.lit (.bool true)], args := [d] }
  | _ => none }
def fnFairWorkRow : OpenClaim := { program := "ytonhmkllfbagmaa", sum := "65330a0117cd9307fe34b2cdd0e220e488b8a3df8a57709b4fb75c7dd437db74", func := "loop.example/g00045/laws.FnFairWork", spec := "fnFairWork", apart := false }
def FnFairWorkSaid : Prop := fnFairWorkRow.holds Try.pinned (OpenSpec.ofChange fnFairWorkSpec)

/-- ITS FALSE NEIGHBOUR: 'it returns false'. Refute it at one input. -/
def fnFairWorkWrong : ChangeSpec := { name := "fnFairWork", fn := fun _ => fun
  | [d] => { results := [.lit (.bool false)], args := [d] }
  | _ => none }
def FnFairWorkWrongFalsely : Prop := fnFairWorkRow.holds Try.pinned (OpenSpec.ofChange fnFairWorkWrong)

/-- 'laws.FnSerial': WHATEVER THE INPUT: true; the input reads as it did. -/
def fnSerialSpec : ChangeSpec := { name := "fnSerial", fn := fun _ => fun
  | [d1, d2] => { results := [.lit (.bool true)], args := [d1, d2] }
  | _ => none }
def fnSerialRow : OpenClaim := { program := "ytonhmkllfbagmaa", sum := "65330a0117cd9307fe34b2cdd0e220e488b8a3df8a57709b4fb75c7dd437db74", func := "loop.example/g00045/laws.FnSerial", spec := "fnSerial", apart := false }
def FnSerialSaid : Prop := fnSerialRow.holds Try.pinned (OpenSpec.ofChange fnSerialSpec)

/-- ITS FALSE NEIGHBOUR: 'it returns false'. Refute it at one input. -/
def fnSerialWrong : ChangeSpec := { name := "fnSerial", fn := fun _ => fun
  | [d1, d2] => { results := [.lit (.bool false)], args := [d1, d2] }
  | _ => none }
def FnSerialWrongFalsely : Prop := fnSerialRow.holds Try.pinned (OpenSpec.ofChange fnSerialWrong)

/- THE SECOND FORM. 'bulk': how many values and letters a reading holds, each counted each time it is reached (what is shared counts as often as it is met; a slice's spare places count too). A statement '..UptoSaid' is the law's where the arguments, and the package variables that the reading takes, are together of bulk at most 1048576: NARROWER than '..Said'. Prove '..Said' where nothing that the law and all that it calls make is longer than what came in: it says more and counts as full. Else prove '..UptoSaid'. A law counts once. -/
mutual
def uptoBulk {H : Type} : DataW H → Nat
  | .lit (.string bytes) => bytes.length + 1
  | .lit _ => 1
  | .nil => 1
  | .ptr d => uptoBulk d + 1
  | .slice elems spare => uptoBulkAll elems + uptoBulkAll spare + 1
  | .agg parts => uptoBulkAll parts + 1
  | .iface _ d => uptoBulk d + 1
  | .map entries => uptoBulkEntries entries + 1
  | .held _ => 1
def uptoBulkAll {H : Type} : List (DataW H) → Nat
  | [] => 0
  | d :: r => uptoBulk d + uptoBulkAll r
def uptoBulkEntries {H : Type} : List (Lit × DataW H) → Nat
  | [] => 0
  | x :: r => uptoBulkEntry x + uptoBulkEntries r
def uptoBulkEntry {H : Type} : Lit × DataW H → Nat
  | (.string bytes, d) => bytes.length + uptoBulk d + 1
  | (_, d) => uptoBulk d + 1
 end
def uptoSmall : (H : Type) → List (DataW H) → Bool := fun _ ds => decide (uptoBulkAll ds ≤ 1048576)
def OpenSpec.upto (s : _root_.Go.ChangeSpec) : _root_.Go.OpenSpec := { _root_.Go.OpenSpec.ofChange s with cond := some uptoSmall }

/-- 'laws.FnExactTxOK', WHERE WHAT IT READS IS OF BULK AT MOST 1048576: true; the input reads as it did. -/
def fnExactTxOKUptoRow : OpenClaim := { program := "ytonhmkllfbagmaa", sum := "65330a0117cd9307fe34b2cdd0e220e488b8a3df8a57709b4fb75c7dd437db74", func := "loop.example/g00045/laws.FnExactTxOK", spec := "fnExactTxOK", apart := false, narrowed := true }
def FnExactTxOKUptoSaid : Prop := fnExactTxOKUptoRow.holds Try.pinned (OpenSpec.upto fnExactTxOKSpec)

/-- 'laws.FnExactTxSerial', WHERE WHAT IT READS IS OF BULK AT MOST 1048576: true; the input reads as it did. -/
def fnExactTxSerialUptoRow : OpenClaim := { program := "ytonhmkllfbagmaa", sum := "65330a0117cd9307fe34b2cdd0e220e488b8a3df8a57709b4fb75c7dd437db74", func := "loop.example/g00045/laws.FnExactTxSerial", spec := "fnExactTxSerial", apart := false, narrowed := true }
def FnExactTxSerialUptoSaid : Prop := fnExactTxSerialUptoRow.holds Try.pinned (OpenSpec.upto fnExactTxSerialSpec)

/-- 'laws.FnExactTxFair', WHERE WHAT IT READS IS OF BULK AT MOST 1048576: true; the input reads as it did. -/
def fnExactTxFairUptoRow : OpenClaim := { program := "ytonhmkllfbagmaa", sum := "65330a0117cd9307fe34b2cdd0e220e488b8a3df8a57709b4fb75c7dd437db74", func := "loop.example/g00045/laws.FnExactTxFair", spec := "fnExactTxFair", apart := false, narrowed := true }
def FnExactTxFairUptoSaid : Prop := fnExactTxFairUptoRow.holds Try.pinned (OpenSpec.upto fnExactTxFairSpec)

/-- 'laws.FnFairWork', WHERE WHAT IT READS IS OF BULK AT MOST 1048576: true; the input reads as it did. -/
def fnFairWorkUptoRow : OpenClaim := { program := "ytonhmkllfbagmaa", sum := "65330a0117cd9307fe34b2cdd0e220e488b8a3df8a57709b4fb75c7dd437db74", func := "loop.example/g00045/laws.FnFairWork", spec := "fnFairWork", apart := false, narrowed := true }
def FnFairWorkUptoSaid : Prop := fnFairWorkUptoRow.holds Try.pinned (OpenSpec.upto fnFairWorkSpec)

/-- 'laws.FnSerial', WHERE WHAT IT READS IS OF BULK AT MOST 1048576: true; the input reads as it did. -/
def fnSerialUptoRow : OpenClaim := { program := "ytonhmkllfbagmaa", sum := "65330a0117cd9307fe34b2cdd0e220e488b8a3df8a57709b4fb75c7dd437db74", func := "loop.example/g00045/laws.FnSerial", spec := "fnSerial", apart := false, narrowed := true }
def FnSerialUptoSaid : Prop := fnSerialUptoRow.holds Try.pinned (OpenSpec.upto fnSerialSpec)

end Rows
end Go.Proofs.Ytonhmkllfbagmaa
