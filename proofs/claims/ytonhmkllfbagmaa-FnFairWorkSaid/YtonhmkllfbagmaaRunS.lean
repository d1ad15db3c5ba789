/- Transactions: what one store leaves of the reference's run. -/
import Derived.Test.YtonhmkllfbagmaaRunB
namespace Go.Proofs.Ytonhmkllfbagmaa.Tx
open Go.RowKit Go.Proofs.YtonhmkllfbagmaaW.PrintWords Go.Proofs.YtonhmkllfbagmaaW.PrintLast Go.Proofs.YtonhmkllfbagmaaW.PrintMore Go.Proofs.Ytonhmkllfbagmaa.PFnExactTxFair
set_option linter.unusedVariables false
set_option linter.unusedSimpArgs false
section
variable {P : Par} {w0 w : World} {D : Dyn} {S : St}
theorem Run.setT (h : Run P w0 w D S) (i f : Nat) (hi : i < P.n) (hf : f < 10) (v : Value) (S' : St) (hs : ∀ j, okS P S' j → okS P S j) (h1 : tRow D S' i f = v) (h2 : ∀ m, m < 10 → m ≠ f → tRow D S' i m = tRow D S i m) (h3 : ∀ j, j ≠ i → ∀ m, m < 10 → tRow D S' j m = tRow D S j m) (h4 : ∀ j, okS P S' j → j ≠ .t → ∀ m, m < szS P j → rowS P D S' j m = rowS P D S j m) (he : S'.events = S.events) (hb : ∀ i, S'.begun i = true → S.begun i = true) :
    Run P w0 (w.setCell ⟨D.blk .t, i * 10 + f, none⟩ v) D S' := by
  refine h.set .t trivial (i * 10 + f) (show i * 10 + f < P.n * 10 by omega) v S' hs ?_ ?_ h4 he hb
  · show tRow D S' ((i * 10 + f) / 10) ((i * 10 + f) % 10) = v
    rw [show (i * 10 + f) / 10 = i by omega, show (i * 10 + f) % 10 = f by omega]
    exact h1
  · intro m hm hne
    show tRow D S' (m / 10) (m % 10) = tRow D S (m / 10) (m % 10)
    by_cases e : m / 10 = i
    · rw [e]
      exact h2 _ (by omega) (by omega)
    · exact h3 _ e _ (by omega)
theorem up_b {f : Nat → Bool} {i j : Nat} (h : up f i false j = true) : f j = true := by
  unfold up at h
  split at h
  · cases h
  · exact h
theorem Run.set_try_ (h : Run P w0 w D S) (i : Nat) (hi : i < P.n) (x : Int) : Run P w0 (w.setCell ⟨D.blk .t, i * 10 + 1, none⟩ (.int .i64 x)) D { S with try_ := up S.try_ i x } := by
  refine h.setT i 1 hi (by decide) _ _ (fun j hj => hj) ?_ ?_ ?_ ?_ rfl (fun _ hb => hb)
  · show Value.int .i64 (up S.try_ i x i) = _
    rw [up_self]
  · intro m hm hne
    match m with
    | 0 | 2 | 3 | 4 | 5 | 6 | 7 | 8 | 9 => rfl
    | 1 => exact absurd rfl hne
    | m + 10 => omega
  · intro j hj m hm
    match m with
    | 0 | 2 | 3 | 4 | 5 | 6 | 7 | 8 | 9 => rfl
    | 1 => show Value.int .i64 (up S.try_ i x j) = Value.int .i64 (S.try_ j); rw [up_ne _ _ _ _ hj]
    | m + 10 => omega
  · intro j hj hne m hm
    cases j <;> first | rfl | exact absurd rfl hne
theorem Run.set_begun (h : Run P w0 w D S) (i : Nat) (hi : i < P.n) : Run P w0 (w.setCell ⟨D.blk .t, i * 10 + 2, none⟩ (.bool false)) D { S with begun := up S.begun i false } := by
  refine h.setT i 2 hi (by decide) _ _ (fun j hj => by cases j <;> first | trivial | exact ⟨hj.1, up_b hj.2⟩) ?_ ?_ ?_ ?_ rfl (fun _ hb => up_b hb)
  · show Value.bool (up S.begun i false i) = _
    rw [up_self]
  · intro m hm hne
    match m with
    | 0 | 1 | 3 | 4 | 5 | 6 | 7 | 8 | 9 => rfl
    | 2 => exact absurd rfl hne
    | m + 10 => omega
  · intro j hj m hm
    match m with
    | 0 | 1 | 3 | 4 | 5 | 6 | 7 | 8 | 9 => rfl
    | 2 => show Value.bool (up S.begun i false j) = Value.bool (S.begun j); rw [up_ne _ _ _ _ hj]
    | m + 10 => omega
  · intro j hj hne m hm
    cases j <;> first | rfl | exact absurd rfl hne
theorem Run.set_at_ (h : Run P w0 w D S) (i : Nat) (hi : i < P.n) (x : Int) : Run P w0 (w.setCell ⟨D.blk .t, i * 10 + 4, none⟩ (.int .i64 x)) D { S with at_ := up S.at_ i x } := by
  refine h.setT i 4 hi (by decide) _ _ (fun j hj => hj) ?_ ?_ ?_ ?_ rfl (fun _ hb => hb)
  · show Value.int .i64 (up S.at_ i x i) = _
    rw [up_self]
  · intro m hm hne
    match m with
    | 0 | 1 | 2 | 3 | 5 | 6 | 7 | 8 | 9 => rfl
    | 4 => exact absurd rfl hne
    | m + 10 => omega
  · intro j hj m hm
    match m with
    | 0 | 1 | 2 | 3 | 5 | 6 | 7 | 8 | 9 => rfl
    | 4 => show Value.int .i64 (up S.at_ i x j) = Value.int .i64 (S.at_ j); rw [up_ne _ _ _ _ hj]
    | m + 10 => omega
  · intro j hj hne m hm
    cases j <;> first | rfl | exact absurd rfl hne
theorem Run.set_weight (h : Run P w0 w D S) (i : Nat) (hi : i < P.n) (x : Int) : Run P w0 (w.setCell ⟨D.blk .t, i * 10 + 6, none⟩ (.int .i64 x)) D { S with weight := up S.weight i x } := by
  refine h.setT i 6 hi (by decide) _ _ (fun j hj => hj) ?_ ?_ ?_ ?_ rfl (fun _ hb => hb)
  · show Value.int .i64 (up S.weight i x i) = _
    rw [up_self]
  · intro m hm hne
    match m with
    | 0 | 1 | 2 | 3 | 4 | 5 | 7 | 8 | 9 => rfl
    | 6 => exact absurd rfl hne
    | m + 10 => omega
  · intro j hj m hm
    match m with
    | 0 | 1 | 2 | 3 | 4 | 5 | 7 | 8 | 9 => rfl
    | 6 => show Value.int .i64 (up S.weight i x j) = Value.int .i64 (S.weight j); rw [up_ne _ _ _ _ hj]
    | m + 10 => omega
  · intro j hj hne m hm
    cases j <;> first | rfl | exact absurd rfl hne
theorem Run.set_cells (h : Run P w0 w D S) (c : Nat) (hc : c < P.nc) (x : Int) : Run P w0 (w.setCell ⟨D.blk .c, c, none⟩ (.int .i64 x)) D { S with cells := up S.cells c x } :=
  h.set .c trivial c hc _ _ (fun j hj => hj) (by show Value.int .i64 (up S.cells c x c) = _; rw [up_self]) (fun m hm hne => by show Value.int .i64 (up S.cells c x m) = Value.int .i64 (S.cells m); rw [up_ne _ _ _ _ hne]) (fun j hj hne m hm => by cases j <;> first | rfl | exact absurd rfl hne) rfl (fun _ hb => hb)
theorem Run.set_vers (h : Run P w0 w D S) (c : Nat) (hc : c < P.nc) (x : Int) : Run P w0 (w.setCell ⟨D.blk .v, c, none⟩ (.int .i64 x)) D { S with vers := up S.vers c x } :=
  h.set .v trivial c hc _ _ (fun j hj => hj) (by show Value.int .i64 (up S.vers c x c) = _; rw [up_self]) (fun m hm hne => by show Value.int .i64 (up S.vers c x m) = Value.int .i64 (S.vers m); rw [up_ne _ _ _ _ hne]) (fun j hj hne m hm => by cases j <;> first | rfl | exact absurd rfl hne) rfl (fun _ hb => hb)
theorem Run.set_owners (h : Run P w0 w D S) (c : Nat) (hc : c < P.nc) (x : Int) : Run P w0 (w.setCell ⟨D.blk .o, c, none⟩ (.int .i64 x)) D { S with owners := up S.owners c x } :=
  h.set .o trivial c hc _ _ (fun j hj => hj) (by show Value.int .i64 (up S.owners c x c) = _; rw [up_self]) (fun m hm hne => by show Value.int .i64 (up S.owners c x m) = Value.int .i64 (S.owners m); rw [up_ne _ _ _ _ hne]) (fun j hj hne m hm => by cases j <;> first | rfl | exact absurd rfl hne) rfl (fun _ hb => hb)
theorem Run.set_done (h : Run P w0 w D S) (c : Nat) (hc : c < P.n) (x : Int) : Run P w0 (w.setCell ⟨D.blk .d, c, none⟩ (.int .i64 x)) D { S with done := up S.done c x } :=
  h.set .d trivial c hc _ _ (fun j hj => hj) (by show Value.int .i64 (up S.done c x c) = _; rw [up_self]) (fun m hm hne => by show Value.int .i64 (up S.done c x m) = Value.int .i64 (S.done m); rw [up_ne _ _ _ _ hne]) (fun j hj hne m hm => by cases j <;> first | rfl | exact absurd rfl hne) rfl (fun _ hb => hb)
theorem Run.set_read (h : Run P w0 w D S) (i c : Nat) (hi : i < P.n) (hb : S.begun i = true) (hc : c < P.nc) (x : Int) : Run P w0 (w.setCell ⟨D.blk (.r i), c, none⟩ (.int .i64 x)) D { S with read := up S.read i (up (S.read i) c x) } := by
  refine h.set (.r i) ⟨hi, hb⟩ c hc _ _ (fun j hj => hj) ?_ ?_ ?_ rfl (fun _ hb => hb)
  · show Value.int .i64 (up S.read i (up (S.read i) c x) i c) = _
    rw [up_self, up_self]
  · intro m hm hne
    show Value.int .i64 (up S.read i (up (S.read i) c x) i m) = Value.int .i64 (S.read i m)
    rw [up_self, up_ne _ _ _ _ hne]
  · intro j hj hne m hm
    cases j with
    | r l =>
      show Value.int .i64 (up S.read i (up (S.read i) c x) l m) = Value.int .i64 (S.read l m)
      rw [up_ne _ _ _ _ (fun e => hne (by rw [e]))]
    | _ => rfl
theorem Run.set_wrote (h : Run P w0 w D S) (i c : Nat) (hi : i < P.n) (hb : S.begun i = true) (hc : c < P.nc) (x : Bool) : Run P w0 (w.setCell ⟨D.blk (.w i), c, none⟩ (.bool x)) D { S with wrote := up S.wrote i (up (S.wrote i) c x) } := by
  refine h.set (.w i) ⟨hi, hb⟩ c hc _ _ (fun j hj => hj) ?_ ?_ ?_ rfl (fun _ hb => hb)
  · show Value.bool (up S.wrote i (up (S.wrote i) c x) i c) = _
    rw [up_self, up_self]
  · intro m hm hne
    show Value.bool (up S.wrote i (up (S.wrote i) c x) i m) = Value.bool (S.wrote i m)
    rw [up_self, up_ne _ _ _ _ hne]
  · intro j hj hne m hm
    cases j with
    | w l =>
      show Value.bool (up S.wrote i (up (S.wrote i) c x) l m) = Value.bool (S.wrote l m)
      rw [up_ne _ _ _ _ (fun e => hne (by rw [e]))]
    | _ => rfl
theorem Run.set_kept (h : Run P w0 w D S) (i c : Nat) (hi : i < P.n) (hb : S.begun i = true) (hc : c < P.nc) (x : Int) : Run P w0 (w.setCell ⟨D.blk (.k i), c, none⟩ (.int .i64 x)) D { S with kept := up S.kept i (up (S.kept i) c x) } := by
  refine h.set (.k i) ⟨hi, hb⟩ c hc _ _ (fun j hj => hj) ?_ ?_ ?_ rfl (fun _ hb => hb)
  · show Value.int .i64 (up S.kept i (up (S.kept i) c x) i c) = _
    rw [up_self, up_self]
  · intro m hm hne
    show Value.int .i64 (up S.kept i (up (S.kept i) c x) i m) = Value.int .i64 (S.kept i m)
    rw [up_self, up_ne _ _ _ _ hne]
  · intro j hj hne m hm
    cases j with
    | k l =>
      show Value.int .i64 (up S.kept i (up (S.kept i) c x) l m) = Value.int .i64 (S.kept l m)
      rw [up_ne _ _ _ _ (fun e => hne (by rw [e]))]
    | _ => rfl
theorem Run.set_goes (h : Run P w0 w D S) (x : Int) : Run P w0 (w.setCell ⟨D.blk .g, 7, none⟩ (.int .i64 x)) D { S with goes := x } := by
  refine h.set .g trivial 7 (show 7 < 13 by decide) _ _ (fun j hj => hj) rfl ?_ ?_ rfl (fun _ hb => hb)
  · intro m hm hne
    show gRow P D { S with goes := x } m = gRow P D S m
    match m with
    | 0 | 1 | 2 | 3 | 4 | 5 | 6 | 8 | 9 | 10 | 11 | 12 => rfl
    | 7 => exact absurd rfl hne
    | m + 13 => exact absurd hm (by show ¬ m + 13 < 13; omega)
  · intro j hj hne m hm
    cases j <;> first | rfl | exact absurd rfl hne
theorem Run.rd_ (h : Run P w0 w D S) (i c : Nat) (hi : i < P.n) (hb : S.begun i = true) (hc : c < P.nc) : w.cell? ⟨D.blk (.r i), c, none⟩ = some (.int .i64 (S.read i c)) := (h.lay.at_ (.r i) ⟨hi, hb⟩).cell c hc
theorem Run.wr_ (h : Run P w0 w D S) (i c : Nat) (hi : i < P.n) (hb : S.begun i = true) (hc : c < P.nc) : w.cell? ⟨D.blk (.w i), c, none⟩ = some (.bool (S.wrote i c)) := (h.lay.at_ (.w i) ⟨hi, hb⟩).cell c hc
theorem Run.kp_ (h : Run P w0 w D S) (i c : Nat) (hi : i < P.n) (hb : S.begun i = true) (hc : c < P.nc) : w.cell? ⟨D.blk (.k i), c, none⟩ = some (.int .i64 (S.kept i c)) := (h.lay.at_ (.k i) ⟨hi, hb⟩).cell c hc
end
end Go.Proofs.Ytonhmkllfbagmaa.Tx
