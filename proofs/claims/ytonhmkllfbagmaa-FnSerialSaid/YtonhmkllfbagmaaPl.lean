/- Transactions: the plain machine. -/
import Derived.Test.YtonhmkllfbagmaaMem
namespace Go.Proofs.Ytonhmkllfbagmaa.Tx
open Go.RowKit Go.Proofs.YtonhmkllfbagmaaW.PrintWords Go.Proofs.Ytonhmkllfbagmaa.PFnExactTxFair
set_option linter.unusedVariables false
/-- Work as it stands: cells, their versions and owners; of each thread its transaction, its try, where it is, when it began, its weight, what it has read (versions, -1 none), what it has written; the goes, the events. -/
structure St where
  cells : Nat → Int
  vers : Nat → Int
  owners : Nat → Int
  tx : Nat → Int
  try_ : Nat → Int
  begun : Nat → Bool
  started : Nat → Bool
  at_ : Nat → Int
  start : Nat → Int
  weight : Nat → Int
  read : Nat → Nat → Int
  wrote : Nat → Nat → Bool
  kept : Nat → Nat → Int
  goes : Int
  events : List S53
  done : Nat → Int
def up {α : Type} (f : Nat → α) (i : Nat) (v : α) : Nat → α := fun j => if j = i then v else f j
theorem up_self {α : Type} (f : Nat → α) (i : Nat) (v : α) : up f i v i = v := if_pos rfl
theorem up_ne {α : Type} (f : Nat → α) (i j : Nat) (v : α) (h : j ≠ i) : up f i v j = f j := if_neg h
abbrev inc (x : Int) : Int := wrap64 (x + 1)
def event (S : St) (t : Nat) (op cell num : Int) : St := { S with events := S.events ++ [⟨(t : Int), S.tx t, S.try_ t, op, cell, num⟩] }
def freeO (t : Nat) (f : Nat → Int) : Nat → Int := fun c => if f c = (t : Int) then -1 else f c
def free (S : St) (t : Nat) : St := { S with owners := freeO t S.owners }
def giveUp (S : St) (t : Nat) : St := { free (event S t 4 0 0) t with try_ := up S.try_ t (inc (S.try_ t)), begun := up S.begun t false }
/-- Does a try own a cell, and what that leaves. -/
def own (man : Int) (S : St) (t c : Nat) : Bool × St :=
  if S.owners c = -1 ∨ S.owners c = (t : Int) then (true, { S with owners := up S.owners c (t : Int) })
  else if man = 3 ∧ S.start (S.owners c).toNat ≤ S.start t then (false, event S t 5 (c : Int) 0)
  else if man = 2 ∨ man = 3 ∨ (man = 4 ∧ S.weight (S.owners c).toNat < S.weight t) then (true, { giveUp S (S.owners c).toNat with owners := up (giveUp S (S.owners c).toNat).owners c (t : Int) })
  else (false, giveUp S t)
def see (S : St) (t c : Nat) : Int × St :=
  if S.wrote t c = true then (S.kept t c, S) else (S.cells c, { S with read := up S.read t (up (S.read t) c (S.vers c)) })
def begin_ (S : St) (t : Nat) : St :=
  { S with begun := up S.begun t true, started := up S.started t true, at_ := up S.at_ t 0, start := up S.start t (if S.started t = true then S.start t else S.goes), weight := up S.weight t (if S.started t = true then S.weight t else 0), read := up S.read t (fun _ => -1), wrote := up S.wrote t (fun _ => false), kept := up S.kept t (fun _ => 0) }
def commit (S : St) (t : Nat) : St :=
  let S1 : St := { S with cells := fun c => if S.wrote t c = true then S.kept t c else S.cells c, vers := fun c => if S.wrote t c = true then inc (S.vers c) else S.vers c }
  let S2 := free (event S1 t 6 0 0) t
  { S2 with done := up S2.done t (inc (S2.done t)), tx := up S2.tx t (inc (S2.tx t)), try_ := up S2.try_ t 1, begun := up S2.begun t false, started := up S2.started t false, at_ := up S2.at_ t 0, start := up S2.start t 0, weight := up S2.weight t 0 }
/-- Has another's commit turned what a try has read? -/
def conf (S : St) (nc t : Nat) : Bool := (List.range nc).any fun c => decide (S.read t c ≥ 0) && (S.read t c != S.vers c)
def thr (T : List (List (List S63))) (i : Nat) : List (List S63) := T.getD i []
def opsOf (T : List (List (List S63))) (S : St) (t : Nat) : List S63 := (thr T t).getD (S.tx t).toNat []
def adv (S : St) (t : Nat) : St := { S with at_ := up S.at_ t (inc (S.at_ t)), weight := up S.weight t (inc (S.weight t)) }
def put_ (S : St) (t c : Nat) (num : Int) : St := { S with wrote := up S.wrote t (up (S.wrote t) c true), kept := up S.kept t (up (S.kept t) c num) }
/-- A try's operation, its cell owned where it must be. -/
def act (S : St) (t : Nat) (x : S63) : St :=
  if x.f0 = 1 then adv (event (see S t x.f1.toNat).2 t x.f0 x.f1 (wrap64 (x.f2 + (see S t x.f1.toNat).1))) t
  else if x.f0 = 2 then adv (event (put_ S t x.f1.toNat x.f2) t x.f0 x.f1 x.f2) t
  else adv (event (put_ (see S t x.f1.toNat).2 t x.f1.toNat (wrap64 (x.f2 + (see S t x.f1.toNat).1))) t x.f0 x.f1 (wrap64 (x.f2 + (see S t x.f1.toNat).1))) t
/-- A go of a try that has begun. -/
def step1 (man : Int) (nc : Nat) (T : List (List (List S63))) (S : St) (t : Nat) : St :=
  if conf S nc t = true then giveUp S t
  else if S.at_ t = ((opsOf T S t).length : Int) then commit S t
  else if ((opsOf T S t).getD (S.at_ t).toNat z63).f0 = 1 then act S t ((opsOf T S t).getD (S.at_ t).toNat z63)
  else if (own man S t ((opsOf T S t).getD (S.at_ t).toNat z63).f1.toNat).1 = true then act (own man S t ((opsOf T S t).getD (S.at_ t).toNat z63).f1.toNat).2 t ((opsOf T S t).getD (S.at_ t).toNat z63)
  else (own man S t ((opsOf T S t).getD (S.at_ t).toNat z63).f1.toNat).2
def stepS (man : Int) (nc : Nat) (T : List (List (List S63))) (S : St) (t : Nat) : St := step1 man nc T (if S.begun t = true then S else begin_ S t) t
end Go.Proofs.Ytonhmkllfbagmaa.Tx
