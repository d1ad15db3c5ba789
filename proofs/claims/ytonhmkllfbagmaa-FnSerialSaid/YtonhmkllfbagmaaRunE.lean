/- Transactions: what one store leaves of the reference's run. -/
import Derived.Test.YtonhmkllfbagmaaRunB
namespace Go.Proofs.Ytonhmkllfbagmaa.Tx
open Go.RowKit Go.Proofs.YtonhmkllfbagmaaW.PrintWords Go.Proofs.YtonhmkllfbagmaaW.PrintLast Go.Proofs.YtonhmkllfbagmaaW.PrintMore Go.Proofs.Ytonhmkllfbagmaa.PFnExactTxFair
set_option linter.unusedVariables false
set_option linter.unusedSimpArgs false
section
variable {P : Par} {w0 w : World} {D : Dyn} {S : St}
theorem Run.setT (h : Run P w0 w D S) (i f : Nat) (hi : i < P.n) (hf : f < 10) (v : Value) (S' : St) (hs : ∀ j, okS P S' j → okS P S j) (h1 : tRow D S' i f = v) (h2 : ∀ m, m < 10 → m ≠ f → tRow D S' i m = tRow D S i m) (h3 : ∀ j, j ≠ i → ∀ m, m < 10 → tRow D S' j m = tRow D S j m) (h4 : ∀ j, okS P S' j → j ≠ .t → ∀ m, m < szS P j → rowS P D S' j m = rowS P D S j m) (he : S'.events = S.events) (hb : ∀ i, S'.begun i = true → S.begun i = true) :
    Run P w0 (w.setCell ⟨D.blk .t, i * 10 + f, none⟩ v) D S' := by
  refine h.set .t trivial (i * 10 + f) (show i * 10 + f < P.n * 10 by omega) v S' hs ?_ ?_ h4 he hb
  · show tRow D S' ((i * 10 + f) / 10) ((i * 10 + f) % 10) = v
    rw [show (i * 10 + f) / 10 = i by omega, show (i * 10 + f) % 10 = f by omega]
    exact h1
  · intro m hm hne
    show tRow D S' (m / 10) (m % 10) = tRow D S (m / 10) (m % 10)
    by_cases e : m / 10 = i
    · rw [e]
      exact h2 _ (by omega) (by omega)
    · exact h3 _ e _ (by omega)
theorem up_b {f : Nat → Bool} {i j : Nat} (h : up f i false j = true) : f j = true := by
  unfold up at h
  split at h
  · cases h
  · exact h
theorem Run.set_try_ (h : Run P w0 w D S) (i : Nat) (hi : i < P.n) (x : Int) : Run P w0 (w.setCell ⟨D.blk .t, i * 10 + 1, none⟩ (.int .i64 x)) D { S with try_ := up S.try_ i x } := by
  refine h.setT i 1 hi (by decide) _ _ (fun j hj => hj) ?_ ?_ ?_ ?_ rfl (fun _ hb => hb)
  · show Value.int .i64 (up S.try_ i x i) = _
    rw [up_self]
  · intro m hm hne
    match m with
    | 0 | 2 | 3 | 4 | 5 | 6 | 7 | 8 | 9 => rfl
    | 1 => exact absurd rfl hne
    | m + 10 => omega
  · intro j hj m hm
    match m with
    | 0 | 2 | 3 | 4 | 5 | 6 | 7 | 8 | 9 => rfl
    | 1 => show Value.int .i64 (up S.try_ i x j) = Value.int .i64 (S.try_ j); rw [up_ne _ _ _ _ hj]
    | m + 10 => omega
  · intro j hj hne m hm
    cases j <;> first | rfl | exact absurd rfl hne
theorem Run.set_begun (h : Run P w0 w D S) (i : Nat) (hi : i < P.n) : Run P w0 (w.setCell ⟨D.blk .t, i * 10 + 2, none⟩ (.bool false)) D { S with begun := up S.begun i false } := by
  refine h.setT i 2 hi (by decide) _ _ (fun j hj => by cases j <;> first | trivial | exact ⟨hj.1, up_b hj.2⟩) ?_ ?_ ?_ ?_ rfl (fun _ hb => up_b hb)
  · show Value.bool (up S.begun i false i) = _
    rw [up_self]
  · intro m hm hne
    match m with
    | 0 | 1 | 3 | 4 | 5 | 6 | 7 | 8 | 9 => rfl
    | 2 => exact absurd rfl hne
    | m + 10 => omega
  · intro j hj m hm
    match m with
    | 0 | 1 | 3 | 4 | 5 | 6 | 7 | 8 | 9 => rfl
    | 2 => show Value.bool (up S.begun i false j) = Value.bool (S.begun j); rw [up_ne _ _ _ _ hj]
    | m + 10 => omega
  · intro j hj hne m hm
    cases j <;> first | rfl | exact absurd rfl hne
theorem Run.set_at_ (h : Run P w0 w D S) (i : Nat) (hi : i < P.n) (x : Int) : Run P w0 (w.setCell ⟨D.blk .t, i * 10 + 4, none⟩ (.int .i64 x)) D { S with at_ := up S.at_ i x } := by
  refine h.setT i 4 hi (by decide) _ _ (fun j hj => hj) ?_ ?_ ?_ ?_ rfl (fun _ hb => hb)
  · show Value.int .i64 (up S.at_ i x i) = _
    rw [up_self]
  · intro m hm hne
    match m with
    | 0 | 1 | 2 | 3 | 5 | 6 | 7 | 8 | 9 => rfl
    | 4 => exact absurd rfl hne
    | m + 10 => omega
  · intro j hj m hm
    match m with
    | 0 | 1 | 2 | 3 | 5 | 6 | 7 | 8 | 9 => rfl
    | 4 => show Value.int .i64 (up S.at_ i x j) = Value.int .i64 (S.at_ j); rw [up_ne _ _ _ _ hj]
    | m + 10 => omega
  · intro j hj hne m hm
    cases j <;> first | rfl | exact absurd rfl hne
theorem Run.set_weight (h : Run P w0 w D S) (i : Nat) (hi : i < P.n) (x : Int) : Run P w0 (w.setCell ⟨D.blk .t, i * 10 + 6, none⟩ (.int .i64 x)) D { S with weight := up S.weight i x } := by
  refine h.setT i 6 hi (by decide) _ _ (fun j hj => hj) ?_ ?_ ?_ ?_ rfl (fun _ hb => hb)
  · show Value.int .i64 (up S.weight i x i) = _
    rw [up_self]
  · intro m hm hne
    match m with
    | 0 | 1 | 2 | 3 | 4 | 5 | 7 | 8 | 9 => rfl
    | 6 => exact absurd rfl hne
    | m + 10 => omega
  · intro j hj m hm
    match m with
    | 0 | 1 | 2 | 3 | 4 | 5 | 7 | 8 | 9 => rfl
    | 6 => show Value.int .i64 (up S.weight i x j) = Value.int .i64 (S.weight j); rw [up_ne _ _ _ _ hj]
    | m + 10 => omega
  · intro j hj hne m hm
    cases j <;> first | rfl | exact absurd rfl hne
theorem Run.set_cells (h : Run P w0 w D S) (c : Nat) (hc : c < P.nc) (x : Int) : Run P w0 (w.setCell ⟨D.blk .c, c, none⟩ (.int .i64 x)) D { S with cells := up S.cells c x } :=
  h.set .c trivial c hc _ _ (fun j hj => hj) (by show Value.int .i64 (up S.cells c x c) = _; rw [up_self]) (fun m hm hne => by show Value.int .i64 (up S.cells c x m) = Value.int .i64 (S.cells m); rw [up_ne _ _ _ _ hne]) (fun j hj hne m hm => by cases j <;> first | rfl | exact absurd rfl hne) rfl (fun _ hb => hb)
theorem Run.set_vers (h : Run P w0 w D S) (c : Nat) (hc : c < P.nc) (x : Int) : Run P w0 (w.setCell ⟨D.blk .v, c, none⟩ (.int .i64 x)) D { S with vers := up S.vers c x } :=
  h.set .v trivial c hc _ _ (fun j hj => hj) (by show Value.int .i64 (up S.vers c x c) = _; rw [up_self]) (fun m hm hne => by show Value.int .i64 (up S.vers c x m) = Value.int .i64 (S.vers m); rw [up_ne _ _ _ _ hne]) (fun j hj hne m hm => by cases j <;> first | rfl | exact absurd rfl hne) rfl (fun _ hb => hb)
theorem Run.set_owners (h : Run P w0 w D S) (c : Nat) (hc : c < P.nc) (x : Int) : Run P w0 (w.setCell ⟨D.blk .o, c, none⟩ (.int .i64 x)) D { S with owners := up S.owners c x } :=
  h.set .o trivial c hc _ _ (fun j hj => hj) (by show Value.int .i64 (up S.owners c x c) = _; rw [up_self]) (fun m hm hne => by show Value.int .i64 (up S.owners c x m) = Value.int .i64 (S.owners m); rw [up_ne _ _ _ _ hne]) (fun j hj hne m hm => by cases j <;> first | rfl | exact absurd rfl hne) rfl (fun _ hb => hb)
theorem Run.set_done (h : Run P w0 w D S) (c : Nat) (hc : c < P.n) (x : Int) : Run P w0 (w.setCell ⟨D.blk .d, c, none⟩ (.int .i64 x)) D { S with done := up S.done c x } :=
  h.set .d trivial c hc _ _ (fun j hj => hj) (by show Value.int .i64 (up S.done c x c) = _; rw [up_self]) (fun m hm hne => by show Value.int .i64 (up S.done c x m) = Value.int .i64 (S.done m); rw [up_ne _ _ _ _ hne]) (fun j hj hne m hm => by cases j <;> first | rfl | exact absurd rfl hne) rfl (fun _ hb => hb)
theorem Run.set_read (h : Run P w0 w D S) (i c : Nat) (hi : i < P.n) (hb : S.begun i = true) (hc : c < P.nc) (x : Int) : Run P w0 (w.setCell ⟨D.blk (.r i), c, none⟩ (.int .i64 x)) D { S with read := up S.read i (up (S.read i) c x) } := by
  refine h.set (.r i) ⟨hi, hb⟩ c hc _ _ (fun j hj => hj) ?_ ?_ ?_ rfl (fun _ hb => hb)
  · show Value.int .i64 (up S.read i (up (S.read i) c x) i c) = _
    rw [up_self, up_self]
  · intro m hm hne
    show Value.int .i64 (up S.read i (up (S.read i) c x) i m) = Value.int .i64 (S.read i m)
    rw [up_self, up_ne _ _ _ _ hne]
  · intro j hj hne m hm
    cases j with
    | r l =>
      show Value.int .i64 (up S.read i (up (S.read i) c x) l m) = Value.int .i64 (S.read l m)
      rw [up_ne _ _ _ _ (fun e => hne (by rw [e]))]
    | _ => rfl
theorem Run.set_wrote (h : Run P w0 w D S) (i c : Nat) (hi : i < P.n) (hb : S.begun i = true) (hc : c < P.nc) (x : Bool) : Run P w0 (w.setCell ⟨D.blk (.w i), c, none⟩ (.bool x)) D { S with wrote := up S.wrote i (up (S.wrote i) c x) } := by
  refine h.set (.w i) ⟨hi, hb⟩ c hc _ _ (fun j hj => hj) ?_ ?_ ?_ rfl (fun _ hb => hb)
  · show Value.bool (up S.wrote i (up (S.wrote i) c x) i c) = _
    rw [up_self, up_self]
  · intro m hm hne
    show Value.bool (up S.wrote i (up (S.wrote i) c x) i m) = Value.bool (S.wrote i m)
    rw [up_self, up_ne _ _ _ _ hne]
  · intro j hj hne m hm
    cases j with
    | w l =>
      show Value.bool (up S.wrote i (up (S.wrote i) c x) l m) = Value.bool (S.wrote l m)
      rw [up_ne _ _ _ _ (fun e => hne (by rw [e]))]
    | _ => rfl
theorem Run.set_kept (h : Run P w0 w D S) (i c : Nat) (hi : i < P.n) (hb : S.begun i = true) (hc : c < P.nc) (x : Int) : Run P w0 (w.setCell ⟨D.blk (.k i), c, none⟩ (.int .i64 x)) D { S with kept := up S.kept i (up (S.kept i) c x) } := by
  refine h.set (.k i) ⟨hi, hb⟩ c hc _ _ (fun j hj => hj) ?_ ?_ ?_ rfl (fun _ hb => hb)
  · show Value.int .i64 (up S.kept i (up (S.kept i) c x) i c) = _
    rw [up_self, up_self]
  · intro m hm hne
    show Value.int .i64 (up S.kept i (up (S.kept i) c x) i m) = Value.int .i64 (S.kept i m)
    rw [up_self, up_ne _ _ _ _ hne]
  · intro j hj hne m hm
    cases j with
    | k l =>
      show Value.int .i64 (up S.kept i (up (S.kept i) c x) l m) = Value.int .i64 (S.kept l m)
      rw [up_ne _ _ _ _ (fun e => hne (by rw [e]))]
    | _ => rfl
theorem Run.set_goes (h : Run P w0 w D S) (x : Int) : Run P w0 (w.setCell ⟨D.blk .g, 7, none⟩ (.int .i64 x)) D { S with goes := x } := by
  refine h.set .g trivial 7 (show 7 < 13 by decide) _ _ (fun j hj => hj) rfl ?_ ?_ rfl (fun _ hb => hb)
  · intro m hm hne
    show gRow P D { S with goes := x } m = gRow P D S m
    match m with
    | 0 | 1 | 2 | 3 | 4 | 5 | 6 | 8 | 9 | 10 | 11 | 12 => rfl
    | 7 => exact absurd rfl hne
    | m + 13 => exact absurd hm (by show ¬ m + 13 < 13; omega)
  · intro j hj hne m hm
    cases j <;> first | rfl | exact absurd rfl hne
theorem Run.rd_ (h : Run P w0 w D S) (i c : Nat) (hi : i < P.n) (hb : S.begun i = true) (hc : c < P.nc) : w.cell? ⟨D.blk (.r i), c, none⟩ = some (.int .i64 (S.read i c)) := (h.lay.at_ (.r i) ⟨hi, hb⟩).cell c hc
theorem Run.wr_ (h : Run P w0 w D S) (i c : Nat) (hi : i < P.n) (hb : S.begun i = true) (hc : c < P.nc) : w.cell? ⟨D.blk (.w i), c, none⟩ = some (.bool (S.wrote i c)) := (h.lay.at_ (.w i) ⟨hi, hb⟩).cell c hc
theorem Run.kp_ (h : Run P w0 w D S) (i c : Nat) (hi : i < P.n) (hb : S.begun i = true) (hc : c < P.nc) : w.cell? ⟨D.blk (.k i), c, none⟩ = some (.int .i64 (S.kept i c)) := (h.lay.at_ (.k i) ⟨hi, hb⟩).cell c hc
end
end Go.Proofs.Ytonhmkllfbagmaa.Tx
/- Transactions: the reference's giveUp, own, see. -/
namespace Go.Proofs.Ytonhmkllfbagmaa.Tx
open Go.RowKit Go.Proofs.YtonhmkllfbagmaaW.PrintWords Go.Proofs.YtonhmkllfbagmaaW.PrintLast Go.Proofs.YtonhmkllfbagmaaW.PrintMore Go.Proofs.Ytonhmkllfbagmaa.PFnExactTxFair
set_option linter.unusedVariables false
set_option linter.unusedSimpArgs false
set_option maxHeartbeats 4000000 in
set_option maxRecDepth 100000 in
theorem giveUpC (P : Par) (w0 w : World) (D : Dyn) (S : St) (i : Nat) (h : Run P w0 w D S) (hi : i < P.n) (hn : P.n ≤ 1000) (hnc : P.nc ≤ 1000) (hl : S.events.length ≤ 100000) :
    Calls Try.prog 57 #[.pointer (some ⟨D.blk .g, 0, none⟩), .int .i64 (i : Int)] w fun e w' => e = .returned (.tuple #[]) ∧ ∃ V, Run P w0 w' { D with V := V } (giveUp S i) ∧ Fr P w w' D { D with V := V } S (giveUp S i) := by
  have hin := eq_true (show (i : Int) < (P.n : Int) by omega)
  go_enter Try.func57, Try.ntmps57
  go_wp2_with fail
  refine (eventC P w0 w D S i 4 0 0 h hi hn hl).mono ?_
  rintro e w1 ⟨rfl, V, h1, k1⟩
  have H1 := Lib.hid h1
  have K1 := Lib.hid k1
  clear h1 h k1
  go_wp2_with fail
  refine (freeC P w0 w1 { D with V := V } _ i H1.out hnc).mono ?_
  rintro e w2 ⟨rfl, h2, k2⟩
  have K2 := Lib.hid ((K1.out.trans k2).trans ((Fr.set { D with V := V } _ { free (event S i 4 0 0) i with try_ := up S.try_ i (inc (S.try_ i)) } .t trivial (fun _ h => h) (i * 10 + 1) (.int .i64 (inc (S.try_ i)))).trans (Fr.set { D with V := V } _ (giveUp S i) .t trivial (fun j hj => by cases j <;> first | trivial | exact ⟨hj.1, up_b hj.2⟩) (i * 10 + 2) (.bool false))))
  clear k2
  have g6 := h2.g 6 (by decide)
  have t1 : w2.cell? ⟨D.blk .t, i * 10 + 1, none⟩ = some (.int .i64 (S.try_ i)) := h2.t i 1 hi (by decide)
  have t2 : w2.cell? ⟨D.blk .t, i * 10 + 2, none⟩ = some (.bool (S.begun i)) := h2.t i 2 hi (by decide)
  simp only [gRow] at g6
  have f1 := h2.thaw .t trivial (i * 10 + 1)
  have f2 := h2.thaw .t trivial (i * 10 + 2)
  have hA := h2.set_try_ i hi (inc (S.try_ i))
  have g6' := hA.g 6 (by decide)
  simp only [gRow] at g6'
  have HB := Lib.hid (show Run P w0 ((w2.setCell ⟨D.blk .t, i * 10 + 1, none⟩ (.int .i64 (inc (S.try_ i)))).setCell ⟨D.blk .t, i * 10 + 2, none⟩ (.bool false)) { D with V := V } (giveUp S i) from hA.set_begun i hi)
  clear h2 hA H1
  go_wp2_with fail
  go_end0
  exact ⟨rfl, V, HB.out, K2.out⟩
set_option maxHeartbeats 8000000 in
set_option maxRecDepth 100000 in
theorem ownC (P : Par) (w0 w : World) (D : Dyn) (S : St) (i c : Nat) (h : Run P w0 w D S) (hi : i < P.n) (hc : c < P.nc) (hn : P.n ≤ 1000) (hnc : P.nc ≤ 1000) (hl : S.events.length ≤ 100000) (hman : 1 ≤ P.man ∧ P.man ≤ 4) (ho : S.owners c = -1 ∨ ∃ o : Nat, o < P.n ∧ S.owners c = (o : Int)) :
    Calls Try.prog 59 #[.pointer (some ⟨D.blk .g, 0, none⟩), .int .i64 (i : Int), .int .i64 (c : Int)] w fun e w' => e = .returned (.bool (own P.man S i c).1) ∧ ∃ V, Run P w0 w' { D with V := V } (own P.man S i c).2 ∧ Fr P w w' D { D with V := V } S (own P.man S i c).2 := by
  have hin := eq_true (show (i : Int) < (P.n : Int) by omega)
  have hcn := eq_true (show (c : Int) < (P.nc : Int) by omega)
  have g5 := h.g 5 (by decide); have g6 := h.g 6 (by decide); have g1 := h.g 1 (by decide)
  have o1 := h.o c hc; have fo := h.thaw .o trivial c
  simp only [gRow] at g5 g6 g1
  by_cases hA : S.owners c = -1 ∨ S.owners c = (i : Int)
  · have e : own P.man S i c = (true, { S with owners := up S.owners c (i : Int) }) := by unfold own; rw [if_pos hA]
    rw [e]
    have HB := Lib.hid (h.set_owners c hc (i : Int))
    have KB := Lib.hid (Fr.set (P := P) (w := w) D S { S with owners := up S.owners c (i : Int) } .o trivial (fun _ h => h) c (.int .i64 (i : Int)))
    clear h e ho g6 g1
    rcases hA with hA | hA
    · rw [hA] at o1
      clear hA
      go_enter Try.func59, Try.ntmps59
      go_wp2_with fail
      go_ret
      exact ⟨rfl, D.V, HB.out, KB.out⟩
    · rw [hA] at o1
      have n1 : (((i : Int)) == -1) = false := beq_eq_false_iff_ne.mpr (by omega)
      clear hA
      go_enter Try.func59, Try.ntmps59
      go_wp2_with fail
      go_ret
      exact ⟨rfl, D.V, HB.out, KB.out⟩
  · obtain ⟨o, hon, hoe⟩ : ∃ o : Nat, o < P.n ∧ S.owners c = (o : Int) := by
      rcases ho with ho | ho
      · exact absurd (.inl ho) hA
      · exact ho
    have hne : o ≠ i := fun e => hA (.inr (by rw [hoe, e]))
    have n1 : (((o : Int)) == -1) = false := beq_eq_false_iff_ne.mpr (by omega)
    have n2 : (((o : Int)) == (i : Int)) = false := beq_eq_false_iff_ne.mpr (by omega)
    have hons := eq_true (show (o : Int) < (P.n : Int) by omega)
    have e0 : (S.owners c).toNat = o := by rw [hoe, Int.toNat_natCast]
    rw [hoe] at o1
    have hOwn : own P.man S i c = if P.man = 3 ∧ S.start o ≤ S.start i then (false, event S i 5 (c : Int) 0) else if P.man = 2 ∨ P.man = 3 ∨ (P.man = 4 ∧ S.weight o < S.weight i) then (true, { giveUp S o with owners := up (giveUp S o).owners c (i : Int) }) else (false, giveUp S i) := by unfold own; rw [if_neg hA, e0]
    have cUp := fun j (hj : j < P.n) => giveUpC P w0 w D S j h hj hn hnc hl
    have t5 : w.cell? ⟨D.blk .t, i * 10 + 5, none⟩ = some (.int .i64 (S.start i)) := h.t i 5 hi (by decide)
    have s5 : w.cell? ⟨D.blk .t, o * 10 + 5, none⟩ = some (.int .i64 (S.start o)) := h.t o 5 hon (by decide)
    have t6 : w.cell? ⟨D.blk .t, i * 10 + 6, none⟩ = some (.int .i64 (S.weight i)) := h.t i 6 hi (by decide)
    have s6 : w.cell? ⟨D.blk .t, o * 10 + 6, none⟩ = some (.int .i64 (S.weight o)) := h.t o 6 hon (by decide)
    have H := Lib.hid h
    clear h hA e0 hoe ho
    -- the other one gives up
    have hm : P.man = 1 ∨ P.man = 2 ∨ P.man = 3 ∨ P.man = 4 := by omega
    have takeover : ∀ w1 V, Run P w0 w1 { D with V := V } (giveUp S o) → Run P w0 (w1.setCell ⟨D.blk .o, c, none⟩ (.int .i64 (i : Int))) { D with V := V } { giveUp S o with owners := up (giveUp S o).owners c (i : Int) } := fun w1 V h1 => h1.set_owners c hc (i : Int)
    have takeF : ∀ w1 V, Fr P w w1 D { D with V := V } S (giveUp S o) → Fr P w (w1.setCell ⟨D.blk .o, c, none⟩ (.int .i64 (i : Int))) D { D with V := V } S { giveUp S o with owners := up (giveUp S o).owners c (i : Int) } := fun w1 V h1 => h1.trans (Fr.set { D with V := V } _ _ .o trivial (fun _ h => h) c _)
    have facts : ∀ w1 V, Run P w0 w1 { D with V := V } (giveUp S o) → w1.cell? ⟨D.blk .g, 5, none⟩ = some (.slice (some ⟨D.blk .o, 0, none⟩) P.nc P.cO) ∧ w1.cell? ⟨D.blk .o, c, none⟩ = some (.int .i64 ((giveUp S o).owners c)) ∧ w1.frozen? ⟨D.blk .o, c, none⟩ = false := fun w1 V h1 => ⟨h1.g 5 (by decide), h1.o c hc, h1.thaw .o trivial c⟩
    rcases hm with hm | hm | hm | hm
    · rw [hm] at g1
      have e : own P.man S i c = (false, giveUp S i) := by rw [hOwn, if_neg (by omega), if_neg (by omega)]
      rw [e]
      clear hOwn e t5 s5 t6 s6 takeover facts takeF
      go_enter Try.func59, Try.ntmps59
      go_wp2_with fail
      refine (cUp i hi).mono ?_
      rintro e w1 ⟨rfl, V, h1, k1⟩
      have H1 := Lib.hid h1
      have K1 := Lib.hid k1
      clear h1 cUp k1
      go_wp2_with fail
      go_ret
      exact ⟨rfl, V, H1.out, K1.out⟩
    · rw [hm] at g1
      have e : own P.man S i c = (true, { giveUp S o with owners := up (giveUp S o).owners c (i : Int) }) := by rw [hOwn, if_neg (by omega), if_pos (by omega)]
      rw [e]
      clear hOwn e t5 s5 t6 s6
      go_enter Try.func59, Try.ntmps59
      go_wp2_with fail
      refine (cUp o hon).mono ?_
      rintro e w1 ⟨rfl, V, h1, k1⟩
      obtain ⟨a1, a2, a3⟩ := facts w1 V h1
      have H1 := Lib.hid (takeover w1 V h1)
      have K1 := Lib.hid (takeF w1 V k1)
      clear h1 cUp facts takeover takeF k1
      go_wp2_with fail
      go_ret
      exact ⟨rfl, V, H1.out, K1.out⟩
    · rw [hm] at g1
      by_cases hs : S.start o ≤ S.start i
      · have e : own P.man S i c = (false, event S i 5 (c : Int) 0) := by rw [hOwn, if_pos ⟨hm, hs⟩]
        rw [e]
        have q1 : decide (S.start i ≥ S.start o) = true := decide_eq_true hs
        have q2 : decide (S.start o ≤ S.start i) = true := decide_eq_true hs
        clear hOwn e t6 s6 takeover facts cUp takeF
        go_enter Try.func59, Try.ntmps59
        go_wp2_with fail
        go_quiet (fail)
        go_wp2_with fail
        refine (eventC P w0 _ D S i 5 (c : Int) 0 (H.out.step (pw_below_drewN (Below.refl _ _) _)) hi hn hl).mono ?_
        rintro e w1 ⟨rfl, V, h1, k1⟩
        have H1 := Lib.hid h1
        have K1 := Lib.hid ((Fr.below D S (pw_below_drewN (Below.refl _ _) _)).trans k1)
        clear h1 k1
        go_wp2_with fail
        go_ret
        exact ⟨rfl, V, H1.out, K1.out⟩
      · have e : own P.man S i c = (true, { giveUp S o with owners := up (giveUp S o).owners c (i : Int) }) := by rw [hOwn, if_neg (by omega), if_pos (by omega)]
        rw [e]
        have q1 : decide (S.start i ≥ S.start o) = false := decide_eq_false hs
        have q2 : decide (S.start o ≤ S.start i) = false := decide_eq_false hs
        clear hOwn e t6 s6 cUp
        go_enter Try.func59, Try.ntmps59
        go_wp2_with fail
        go_quiet (fail)
        go_wp2_with fail
        refine (giveUpC P w0 _ D S o (H.out.step (pw_below_drewN (Below.refl _ _) _)) hon hn hnc hl).mono ?_
        rintro e w1 ⟨rfl, V, h1, k1⟩
        obtain ⟨a1, a2, a3⟩ := facts w1 V h1
        have H1 := Lib.hid (takeover w1 V h1)
        have K1 := Lib.hid (takeF w1 V ((Fr.below D S (pw_below_drewN (Below.refl _ _) _)).trans k1))
        clear h1 facts takeover takeF k1
        go_wp2_with fail
        go_ret
        exact ⟨rfl, V, H1.out, K1.out⟩
    · rw [hm] at g1
      by_cases hs : S.weight o < S.weight i
      · have e : own P.man S i c = (true, { giveUp S o with owners := up (giveUp S o).owners c (i : Int) }) := by rw [hOwn, if_neg (by omega), if_pos (by omega)]
        rw [e]
        have q1 : decide (S.weight i > S.weight o) = true := decide_eq_true hs
        have q2 : decide (S.weight o < S.weight i) = true := decide_eq_true hs
        clear hOwn e t5 s5 cUp
        go_enter Try.func59, Try.ntmps59
        go_wp2_with fail
        go_quiet (fail)
        go_wp2_with fail
        refine (giveUpC P w0 _ D S o (H.out.step (pw_below_drewN (Below.refl _ _) _)) hon hn hnc hl).mono ?_
        rintro e w1 ⟨rfl, V, h1, k1⟩
        obtain ⟨a1, a2, a3⟩ := facts w1 V h1
        have H1 := Lib.hid (takeover w1 V h1)
        have K1 := Lib.hid (takeF w1 V ((Fr.below D S (pw_below_drewN (Below.refl _ _) _)).trans k1))
        clear h1 facts takeover takeF k1
        go_wp2_with fail
        go_ret
        exact ⟨rfl, V, H1.out, K1.out⟩
      · have e : own P.man S i c = (false, giveUp S i) := by rw [hOwn, if_neg (by omega), if_neg (by omega)]
        rw [e]
        have q1 : decide (S.weight i > S.weight o) = false := decide_eq_false hs
        have q2 : decide (S.weight o < S.weight i) = false := decide_eq_false hs
        clear hOwn e t5 s5 cUp
        go_enter Try.func59, Try.ntmps59
        go_wp2_with fail
        go_quiet (fail)
        go_wp2_with fail
        refine (giveUpC P w0 _ D S i (H.out.step (pw_below_drewN (Below.refl _ _) _)) hi hn hnc hl).mono ?_
        rintro e w1 ⟨rfl, V, h1, k1⟩
        have H1 := Lib.hid h1
        have K1 := Lib.hid ((Fr.below D S (pw_below_drewN (Below.refl _ _) _)).trans k1)
        clear h1 k1
        go_wp2_with fail
        go_ret
        exact ⟨rfl, V, H1.out, K1.out⟩
end Go.Proofs.Ytonhmkllfbagmaa.Tx
/- Transactions: the reference's see and may. -/
namespace Go.Proofs.Ytonhmkllfbagmaa.Tx
open Go.RowKit Go.Proofs.YtonhmkllfbagmaaW.PrintWords Go.Proofs.YtonhmkllfbagmaaW.PrintLast Go.Proofs.YtonhmkllfbagmaaW.PrintMore Go.Proofs.Ytonhmkllfbagmaa.PFnExactTxFair
set_option linter.unusedVariables false
set_option linter.unusedSimpArgs false
section
variable {P : Par} {w0 w : World} {D : Dyn} {S : St}
theorem Run.t789 (h : Run P w0 w D S) (i : Nat) (hi : i < P.n) (hb : S.begun i = true) : ∃ c7 c8 c9, w.cell? ⟨D.blk .t, i * 10 + 7, none⟩ = some (.slice (some ⟨D.blk (.r i), 0, none⟩) P.nc c7) ∧ w.cell? ⟨D.blk .t, i * 10 + 8, none⟩ = some (.slice (some ⟨D.blk (.w i), 0, none⟩) P.nc c8) ∧ w.cell? ⟨D.blk .t, i * 10 + 9, none⟩ = some (.slice (some ⟨D.blk (.k i), 0, none⟩) P.nc c9) := by
  obtain ⟨c7, c8, c9, -, -, -, e7, e8, e9⟩ := h.inn i hi hb
  have h7 := h.t i 7 hi (by decide); have h8 := h.t i 8 hi (by decide); have h9 := h.t i 9 hi (by decide)
  simp only [tRow, e7, e8, e9] at h7 h8 h9
  exact ⟨c7, c8, c9, h7, h8, h9⟩
end
set_option maxHeartbeats 8000000 in
set_option maxRecDepth 100000 in
theorem seeC (P : Par) (w0 w : World) (D : Dyn) (S : St) (i c : Nat) (h : Run P w0 w D S) (hi : i < P.n) (hb : S.begun i = true) (hc : c < P.nc) (hn : P.n ≤ 1000) (hnc : P.nc ≤ 1000) :
    Calls Try.prog 60 #[.pointer (some ⟨D.blk .g, 0, none⟩), .int .i64 (i : Int), .int .i64 (c : Int)] w fun e w' => e = .returned (.int .i64 (see S i c).1) ∧ Run P w0 w' D (see S i c).2 ∧ Fr P w w' D D S (see S i c).2 := by
  have hin := eq_true (show (i : Int) < (P.n : Int) by omega)
  have hcn := eq_true (show (c : Int) < (P.nc : Int) by omega)
  have g6 := h.g 6 (by decide); have g4 := h.g 4 (by decide); have g3 := h.g 3 (by decide)
  simp only [gRow] at g6 g4 g3
  obtain ⟨c7, c8, c9, t7, t8, t9⟩ := h.t789 i hi hb
  have r1 := h.rd_ i c hi hb hc; have r2 := h.wr_ i c hi hb hc; have r3 := h.kp_ i c hi hb hc
  have v1 := h.v c hc; have c1 := h.c c hc
  have fr := h.thaw (.r i) ⟨hi, hb⟩ c
  rcases hw : S.wrote i c with _ | _
  · have e : see S i c = (S.cells c, { S with read := up S.read i (up (S.read i) c (S.vers c)) }) := by unfold see; rw [if_neg (by rw [hw]; decide)]
    rw [e]
    rw [hw] at r2
    have hS := h.set_read i c hi hb hc (S.vers c)
    have a3 := hS.g 3 (by decide); have a1 := hS.c c hc
    simp only [gRow] at a3
    have HB := Lib.hid hS
    have KB := Lib.hid (Fr.set (P := P) (w := w) D S { S with read := up S.read i (up (S.read i) c (S.vers c)) } (.r i) ⟨hi, hb⟩ (fun _ h => h) c (.int .i64 (S.vers c)))
    clear h e hw hS
    go_enter Try.func60, Try.ntmps60
    go_wp2_with fail
    go_region
    go_wp2_with fail
    go_ret
    exact ⟨rfl, HB.out.step (below_drew1 (Below.refl _ _)), KB.out.trans (Fr.below D _ (below_drew1 (Below.refl _ _)))⟩
  · have e : see S i c = (S.kept i c, S) := by unfold see; rw [if_pos hw]
    rw [e]
    rw [hw] at r2
    have HB := Lib.hid h
    clear h e hw
    go_enter Try.func60, Try.ntmps60
    go_wp2_with fail
    go_ret
    exact ⟨rfl, HB.out, Fr.refl P w D S⟩
/-- The threads of the program, read where the call began. -/
def Prg (P : Par) (w0 : World) (T : List (List (List S63))) : Prop := ∃ AV cV, P.vT = .slice AV T.length cV ∧ T.length ≤ cV ∧ Kd.C (Kd.slice 61 (Kd.slice 63 k63)) w0 AV T.length T ∧ T.length = P.n
theorem Run.thr {P : Par} {w0 w : World} {D : Dyn} {S : St} {T : List (List (List S63))} (h : Run P w0 w D S) (hP : Prg P w0 T) (i : Nat) (hi : i < P.n) : ∃ ad cV A0 c0, w.cell? ⟨D.blk .g, 2, none⟩ = some (.slice (some ad) P.n cV) ∧ w.cell? (ad.add i) = some (.slice A0 (thr T i).length c0) ∧ (thr T i).length ≤ c0 ∧ (Kd.slice 63 k63).C w A0 (thr T i).length (thr T i) := by
  obtain ⟨AV, cV, e, hc, hC, hn⟩ := hP
  obtain ⟨ad, A0, c0, rfl, h1, h2, h3⟩ := at_L6 (Kd.C_below hC h.below) (i : Int) (by omega) (by omega)
  have g2 := h.g 2 (by decide)
  simp only [gRow, e] at g2
  rw [hn] at g2
  exact ⟨ad, cV, A0, c0, g2, h1, h2, h3⟩
set_option maxHeartbeats 8000000 in
set_option maxRecDepth 100000 in
theorem mayC (P : Par) (w0 w : World) (D : Dyn) (S : St) (T : List (List (List S63))) (i : Nat) (h : Run P w0 w D S) (hP : Prg P w0 T) (hi : i < P.n) (hn : P.n ≤ 1000) :
    Calls Try.prog 39 #[.pointer (some ⟨D.blk .g, 0, none⟩), .int .i64 (i : Int)] w fun e w' => e = .returned (.bool (decide (S.tx i < ((thr T i).length : Int)))) ∧ Run P w0 w' D S ∧ Fr P w w' D D S S := by
  have hin := eq_true (show (i : Int) < (P.n : Int) by omega)
  have hind := decide_eq_true (show (i : Int) < (P.n : Int) by omega)
  have hi0 := eq_true (show (0 : Int) ≤ (i : Int) by omega)
  have hi1 := decide_eq_true (show (i : Int) ≥ 0 by omega)
  have g6 := h.g 6 (by decide)
  simp only [gRow] at g6
  have t0 := h.t0 i hi
  simp only [tRow] at t0
  obtain ⟨ad, cV, A0, c0, g2, l1, hl, hr⟩ := h.thr hP i hi
  obtain ⟨m, hm⟩ : ∃ m, (thr T i).length = m := ⟨_, rfl⟩
  rw [hm] at l1 ⊢
  have H := Lib.hid h
  clear h hr hl hm hP
  go_enter Try.func39, Try.ntmps39
  go_wp2_with fail
  go_quiet (fail)
  go_wp2_with fail
  go_ret
  exact ⟨rfl, H.out.step (pw_below_drewN (Below.refl _ _) _), Fr.below D S (pw_below_drewN (Below.refl _ _) _)⟩
end Go.Proofs.Ytonhmkllfbagmaa.Tx
/- Transactions: the reference's commit. -/
namespace Go.Proofs.Ytonhmkllfbagmaa.Tx
open Go.RowKit Go.Proofs.YtonhmkllfbagmaaW.PrintWords Go.Proofs.YtonhmkllfbagmaaW.PrintLast Go.Proofs.YtonhmkllfbagmaaW.PrintMore Go.Proofs.Ytonhmkllfbagmaa.PFnExactTxFair
set_option linter.unusedVariables false
set_option linter.unusedSimpArgs false
/-- Cells of one try stored, one behind the other. -/
def st10 (w : World) (b i : Nat) (v : Nat → Value) : Nat → World
  | 0 => w
  | k + 1 => (st10 w b i v k).setCell ⟨b, i * 10 + k, none⟩ (v k)
def isT : Ix → Bool
  | .t => true
  | _ => false
def rowI (P : Par) (D : Dyn) (S : St) (i : Nat) (v : Nat → Value) (k : Nat) : Ix → Nat → Value := fun j m => if isT j = true ∧ m / 10 = i ∧ m % 10 < k then v (m % 10) else rowS P D S j m
theorem st10_lay {P : Par} {w : World} {D : Dyn} {S : St} {base : Nat} (h : Lay w base (okS P S) D.blk tyS (szS P) (rowS P D S)) (i : Nat) (hi : i < P.n) (v : Nat → Value) : ∀ k, k ≤ 10 → Lay (st10 w (D.blk .t) i v k) base (okS P S) D.blk tyS (szS P) (rowI P D S i v k)
  | 0, _ => h.sub (fun j hj => hj) (fun j hj m hm => by unfold rowI; rw [if_neg (by omega)])
  | k + 1, hk => by
    refine (st10_lay h i hi v k (by omega)).set .t trivial (i * 10 + k) (show i * 10 + k < P.n * 10 by omega) (v k) (fun j hj => hj) ?_ ?_ ?_
    · unfold rowI
      rw [if_pos ⟨rfl, by omega, by omega⟩, show (i * 10 + k) % 10 = k by omega]
    · intro m hm hne
      unfold rowI
      by_cases c : isT .t = true ∧ m / 10 = i ∧ m % 10 < k
      · rw [if_pos c, if_pos ⟨c.1, c.2.1, by omega⟩]
      · rw [if_neg c, if_neg (fun hh => c ⟨hh.1, hh.2.1, by omega⟩)]
    · intro j hj hne m hm
      cases j <;> first | exact absurd rfl hne | rfl
theorem st10_far (w : World) (b i : Nat) (v : Nat → Value) (c : Nat) (hc : c ≠ b) : ∀ k, (st10 w b i v k).heap[c]? = w.heap[c]?
  | 0 => rfl
  | k + 1 => (Below.heap_setCell _ _ _ c hc).trans (st10_far w b i v c hc k)
theorem st10_below {w0 w : World} {b i : Nat} (v : Nat → Value) (h : Below w0.heap.size w0 w) (hb : w0.heap.size ≤ b) : ∀ k, Below w0.heap.size w0 (st10 w b i v k)
  | 0 => h
  | k + 1 => (st10_below v h hb k).setCell (p := ⟨b, i * 10 + k, none⟩) hb _
theorem Run.st10 {P : Par} {w0 w : World} {D : Dyn} {S : St} (h : Run P w0 w D S) (i : Nat) (hi : i < P.n) (v : Nat → Value) (D' : Dyn) (S' : St) (hblk : D'.blk = D.blk) (hV : D'.V = D.V) (hok : ∀ j, okS P S' j → okS P S j) (hev : S'.events = S.events)
    (h1 : ∀ m, m < 10 → tRow D' S' i m = v m) (h2 : ∀ l, l ≠ i → ∀ m, m < 10 → tRow D' S' l m = tRow D S l m) (h3 : ∀ j, okS P S' j → isT j = false → ∀ m, m < szS P j → rowS P D' S' j m = rowS P D S j m)
    (hin : ∀ l, l < P.n → S'.begun l = true → Inn P D' l) :
    Run P w0 (Tx.st10 w (D.blk .t) i v 10) D' S' := by
  refine ⟨?_, ?_, hin, st10_below v h.below (h.lay.ge .t trivial) 10⟩
  · rw [hblk]
    refine (st10_lay h.lay i hi v 10 (Nat.le_refl _)).sub hok ?_
    intro j hj m hm
    rcases ht : isT j with _ | _
    · rw [h3 j hj ht m hm]
      unfold rowI
      rw [if_neg (by rw [ht]; rintro ⟨hh, -⟩; cases hh)]
    · have e : j = .t := by cases j <;> first | rfl | cases ht
      subst e
      show tRow D' S' (m / 10) (m % 10) = _
      unfold rowI
      by_cases c : m / 10 = i
      · rw [if_pos ⟨ht, c, by omega⟩, c]
        exact h1 _ (by omega)
      · rw [if_neg (fun hh => c hh.2.1)]
        exact h2 _ c _ (by omega)
  · rw [hV, hev, hblk]
    refine Kd.R_mono (Kd.R_step h.ev (fun b hb hlt => st10_far w _ i v b (hb .t trivial) 10)) (fun b hb j hj => hb j (hok j hj))
theorem st10_size (w : World) (b i : Nat) (v : Nat → Value) : ∀ k, (st10 w b i v k).heap.size = w.heap.size
  | 0 => rfl
  | k + 1 => by
    have := st10_size w b i v k
    simpa [Tx.st10, World.setCell] using this
theorem Fr.st10 {P : Par} {w : World} {D D' : Dyn} {S S' : St} (i : Nat) (v : Nat → Value) (hb : D'.blk = D.blk) (hV : D'.V = D.V) (hs : ∀ j, okS P S' j → okS P S j) : Fr P w (Tx.st10 w (D.blk .t) i v 10) D D' S S' :=
  ⟨Nat.le_of_eq (st10_size _ _ _ _ _).symm, fun b hlt ho => ⟨⟨fun j hj => by rw [hb]; exact ho.1 j (hs j hj), by rw [hV]; exact ho.2⟩, st10_far w _ i v b (ho.1 .t trivial) 10⟩⟩
theorem st10_ten (w : World) (b i : Nat) (v : Nat → Value) : st10 w b i v 10 = (((((((((w.setCell ⟨b, i * 10, none⟩ (v 0)).setCell ⟨b, i * 10 + 1, none⟩ (v 1)).setCell ⟨b, i * 10 + 2, none⟩ (v 2)).setCell ⟨b, i * 10 + 3, none⟩ (v 3)).setCell ⟨b, i * 10 + 4, none⟩ (v 4)).setCell ⟨b, i * 10 + 5, none⟩ (v 5)).setCell ⟨b, i * 10 + 6, none⟩ (v 6)).setCell ⟨b, i * 10 + 7, none⟩ (v 7)).setCell ⟨b, i * 10 + 8, none⟩ (v 8)).setCell ⟨b, i * 10 + 9, none⟩ (v 9) := rfl
/-- A commit's cells, the first x of them. -/
def cmt (S : St) (t x : Nat) : St := { S with cells := fun c => if c < x ∧ S.wrote t c = true then S.kept t c else S.cells c, vers := fun c => if c < x ∧ S.wrote t c = true then inc (S.vers c) else S.vers c }
theorem cmt_no (S : St) (t x : Nat) (h : S.wrote t x = false) : cmt S t (x + 1) = cmt S t x := by
  have e : ∀ c, (c < x + 1 ∧ S.wrote t c = true) ↔ (c < x ∧ S.wrote t c = true) := by
    intro c
    by_cases hc : c = x
    · subst hc; rw [h]; simp
    · constructor
      · rintro ⟨a, b⟩; exact ⟨by omega, b⟩
      · rintro ⟨a, b⟩; exact ⟨by omega, b⟩
  unfold cmt
  simp only [e]
theorem cmt_yes (S : St) (t x : Nat) (h : S.wrote t x = true) : cmt S t (x + 1) = { cmt S t x with cells := up (cmt S t x).cells x (S.kept t x), vers := up (cmt S t x).vers x (inc (S.vers x)) } := by
  have e1 : (fun c => if c < x + 1 ∧ S.wrote t c = true then S.kept t c else S.cells c) = up (cmt S t x).cells x (S.kept t x) := by
    funext c
    unfold up cmt
    by_cases hc : c = x
    · subst hc; rw [if_pos rfl, if_pos ⟨by omega, h⟩]
    · rw [if_neg hc]
      by_cases h2 : c < x ∧ S.wrote t c = true
      · rw [if_pos ⟨by omega, h2.2⟩]; exact (if_pos h2).symm
      · rw [if_neg (fun hh => h2 ⟨by omega, hh.2⟩)]; exact (if_neg h2).symm
  have e2 : (fun c => if c < x + 1 ∧ S.wrote t c = true then inc (S.vers c) else S.vers c) = up (cmt S t x).vers x (inc (S.vers x)) := by
    funext c
    unfold up cmt
    by_cases hc : c = x
    · subst hc; rw [if_pos rfl, if_pos ⟨by omega, h⟩]
    · rw [if_neg hc]
      by_cases h2 : c < x ∧ S.wrote t c = true
      · rw [if_pos ⟨by omega, h2.2⟩]; exact (if_pos h2).symm
      · rw [if_neg (fun hh => h2 ⟨by omega, hh.2⟩)]; exact (if_neg h2).symm
  conv => lhs; unfold cmt
  rw [e1, e2]
  rfl
/-- All cells of a commit. -/
def cmtA (S : St) (t : Nat) : St := { S with cells := fun c => if S.wrote t c = true then S.kept t c else S.cells c, vers := fun c => if S.wrote t c = true then inc (S.vers c) else S.vers c }
theorem Run.all {P : Par} {w0 w : World} {D : Dyn} {S : St} {i : Nat} (h : Run P w0 w D (cmt S i P.nc)) : Run P w0 w D (cmtA S i) := by
  refine ⟨h.lay.sub (fun j hj => hj) (fun j hj m hm => ?_), h.ev, h.inn, h.below⟩
  cases j <;> try rfl
  · show Value.int .i64 (if S.wrote i m = true then S.kept i m else S.cells m) = Value.int .i64 (if m < P.nc ∧ S.wrote i m = true then S.kept i m else S.cells m)
    have : (m < P.nc ∧ S.wrote i m = true) ↔ S.wrote i m = true := ⟨fun h => h.2, fun h => ⟨hm, h⟩⟩
    simp only [this]
  · show Value.int .i64 (if S.wrote i m = true then inc (S.vers m) else S.vers m) = Value.int .i64 (if m < P.nc ∧ S.wrote i m = true then inc (S.vers m) else S.vers m)
    have : (m < P.nc ∧ S.wrote i m = true) ↔ S.wrote i m = true := ⟨fun h => h.2, fun h => ⟨hm, h⟩⟩
    simp only [this]
set_option maxHeartbeats 8000000 in
set_option maxRecDepth 100000 in
theorem commitC (P : Par) (w0 w : World) (D : Dyn) (S : St) (i : Nat) (h : Run P w0 w D S) (hi : i < P.n) (hb : S.begun i = true) (hn : P.n ≤ 1000) (hnc : P.nc ≤ 1000) (hl : S.events.length ≤ 100000) :
    Calls Try.prog 58 #[.pointer (some ⟨D.blk .g, 0, none⟩), .int .i64 (i : Int)] w fun e w' => e = .returned (.tuple #[]) ∧ ∃ D', D'.blk = D.blk ∧ Run P w0 w' D' (commit S i) ∧ Fr P w w' D D' S (commit S i) := by
  have hin := eq_true (show (i : Int) < (P.n : Int) by omega)
  have H := Lib.hid (show Run P w0 w D (cmt S i 0) by
    have e : cmt S i 0 = S := by unfold cmt; simp
    rw [e]; exact h)
  clear h
  go_enter Try.func58, Try.ntmps58
  go_wp2_with fail
  go_loopw [4] (fun iv wr => ∃ x : Nat, x ≤ P.nc ∧ iv = .int .i64 (x : Int) ∧ Run P w0 wr D (cmt S i x) ∧ Fr P w wr D D S S) (fun iv _ => P.nc - (intOf iv).toNat)
  case atStart => exact ⟨0, Nat.zero_le _, rfl, H.out, Fr.refl P w D S⟩
  case round =>
    clear H
    obtain ⟨x, hx, rfl, hR, hFr⟩ := hrel
    have H := Lib.hid hR
    have FR := Lib.hid hFr
    clear hFr
    have g3 := hR.g 3 (by decide); have g4 := hR.g 4 (by decide); have g6 := hR.g 6 (by decide)
    simp only [gRow] at g3 g4 g6
    obtain ⟨c7, c8, c9, -, t8, t9⟩ := hR.t789 i hi hb
    clear hR
    by_cases hlt : x < P.nc
    · have q0 := decide_eq_true (show (x : Int) < (P.nc : Int) by omega)
      have hcn := eq_true (show (x : Int) < (P.nc : Int) by omega)
      have r2 : wr.cell? ⟨D.blk (.w i), x, none⟩ = some (.bool (S.wrote i x)) := H.out.wr_ i x hi hb hlt
      have r3 : wr.cell? ⟨D.blk (.k i), x, none⟩ = some (.int .i64 (S.kept i x)) := H.out.kp_ i x hi hb hlt
      have c1 := H.out.c x hlt
      have v1 : wr.cell? ⟨D.blk .v, x, none⟩ = some (.int .i64 (S.vers x)) := (H.out.v x hlt).trans (by show some (Value.int .i64 (if x < x ∧ _ then _ else S.vers x)) = _; rw [if_neg (by omega)])
      have fc := H.out.thaw .c trivial x; have fv := H.out.thaw .v trivial x
      have p1 : IntKind.wrap .i64 ((x : Int) + 1) = (x : Int) + 1 := by rw [i64_w]; unfold wrap64; omega
      have nxt : ∀ wr', Run P w0 wr' D (cmt S i (x + 1)) → Fr P w wr' D D S S → ∃ y : Nat, y ≤ P.nc ∧ Value.int .i64 ((x : Int) + 1) = .int .i64 (y : Int) ∧ Run P w0 wr' D (cmt S i y) ∧ Fr P w wr' D D S S := fun wr' h h2 => ⟨x + 1, hlt, rfl, h, h2⟩
      rcases hk : S.wrote i x with _ | _
      · rw [hk] at r2
        have H2 := Lib.hid (show Run P w0 wr D (cmt S i (x + 1)) by rw [cmt_no S i x hk]; exact H.out)
        clear hk
        go_wp2_with fail
        go_roundw
        case measure => simp [intOf]; omega
        case rel => exact nxt _ H2.out FR.out
      · rw [hk] at r2
        have hA := H.out.set_cells x hlt (S.kept i x)
        have a4 := hA.g 4 (by decide)
        simp only [gRow] at a4
        have b1 : (wr.setCell ⟨D.blk .c, x, none⟩ (.int .i64 (S.kept i x))).cell? ⟨D.blk .v, x, none⟩ = some (.int .i64 (S.vers x)) := (hA.v x hlt).trans (by show some (Value.int .i64 (if x < x ∧ _ then _ else S.vers x)) = _; rw [if_neg (by omega)])
        have H2 := Lib.hid (show Run P w0 ((wr.setCell ⟨D.blk .c, x, none⟩ (.int .i64 (S.kept i x))).setCell ⟨D.blk .v, x, none⟩ (.int .i64 (inc (S.vers x)))) D (cmt S i (x + 1)) by rw [cmt_yes S i x hk]; exact hA.set_vers x hlt (inc (S.vers x)))
        clear hk hA
        go_wp2_with fail
        go_region
        go_wp2_with fail
        go_roundw
        case measure => simp [intOf]; omega
        case rel => exact nxt _ (H2.out.step (below_drew1 (Below.refl _ _))) (((FR.out.trans (Fr.set D S S .c trivial (fun _ h => h) x _)).trans (Fr.set D S S .v trivial (fun _ h => h) x _)).trans (Fr.below D S (below_drew1 (Below.refl _ _))))
    · have q0 := decide_eq_false (show ¬ (x : Int) < (P.nc : Int) by omega)
      obtain rfl : x = P.nc := by omega
      have H2 := Lib.hid (H.out.all)
      clear H
      go_wp2_with fail
      refine (eventC P w0 wr D _ i 6 0 0 H2.out hi hn hl).mono ?_
      rintro e w1 ⟨rfl, V, h1, k1⟩
      have H1 := Lib.hid h1
      have K1 := Lib.hid (show Fr P w w1 D { D with V := V } S (event (cmtA S i) i 6 0 0) from FR.out.trans k1)
      clear k1 FR
      clear h1 H2 g3 g4 g6 t8 t9
      go_wp2_with fail
      refine (freeC P w0 w1 { D with V := V } _ i H1.out hnc).mono ?_
      rintro e w2 ⟨rfl, h2, k2⟩
      have K2 := Lib.hid ((K1.out.trans k2).trans (Fr.set { D with V := V } _ { free (event (cmtA S i) i 6 0 0) i with done := up S.done i (inc (S.done i)) } .d trivial (fun _ h => h) i (.int .i64 (inc (S.done i)))))
      clear k2 K1
      have g12 := h2.g 12 (by decide); have g6 := h2.g 6 (by decide)
      simp only [gRow] at g12 g6
      have d1 : w2.cell? ⟨D.blk .d, i, none⟩ = some (.int .i64 (S.done i)) := h2.d i hi
      have fd := h2.thaw .d trivial i
      have hA := h2.set_done i hi (inc (S.done i))
      have HA := Lib.hid hA
      clear h2 hA H1
      go_wp2_with fail
      refine name_w fun E hE => ?_
      have HE := Lib.hid (show Run P w0 E { D with V := V } { free (event (cmtA S i) i 6 0 0) i with done := up S.done i (inc (S.done i)) } by rw [hE]; exact HA.out)
      have KE := Lib.hid (show Fr P w E D { D with V := V } S { free (event (cmtA S i) i 6 0 0) i with done := up S.done i (inc (S.done i)) } by rw [hE]; exact K2.out)
      clear K2
      clear hE HA g12 g6 d1 fd
      have g6 := HE.out.g 6 (by decide)
      have t0 : E.cell? ⟨D.blk .t, i * 10, none⟩ = some (.int .i64 (S.tx i)) := HE.out.t0 i hi
      have t1 := HE.out.t i 1 hi (by decide); have t2 := HE.out.t i 2 hi (by decide); have t3 := HE.out.t i 3 hi (by decide); have t4 := HE.out.t i 4 hi (by decide); have t5 := HE.out.t i 5 hi (by decide); have t6 := HE.out.t i 6 hi (by decide); have t7 := HE.out.t i 7 hi (by decide); have t8 := HE.out.t i 8 hi (by decide); have t9 := HE.out.t i 9 hi (by decide)
      simp only [gRow, tRow] at g6 t1 t2 t3 t4 t5 t6 t7 t8 t9
      have f0 := HE.out.thaw .t trivial (i * 10); have f1 := HE.out.thaw .t trivial (i * 10 + 1); have f2 := HE.out.thaw .t trivial (i * 10 + 2); have f3 := HE.out.thaw .t trivial (i * 10 + 3); have f4 := HE.out.thaw .t trivial (i * 10 + 4); have f5 := HE.out.thaw .t trivial (i * 10 + 5); have f6 := HE.out.thaw .t trivial (i * 10 + 6); have f7 := HE.out.thaw .t trivial (i * 10 + 7); have f8 := HE.out.thaw .t trivial (i * 10 + 8); have f9 := HE.out.thaw .t trivial (i * 10 + 9)
      go_region
      have HF := Lib.hid (HE.out.st10 i hi (fun m => match m with | 0 => .int .i64 (inc (S.tx i)) | 1 => .int .i64 1 | 2 => .bool false | 3 => .bool false | 4 => .int .i64 0 | 5 => .int .i64 0 | 6 => .int .i64 0 | _ => .slice none 0 0) { D with V := V, x7 := up D.x7 i (none, 0, 0), x8 := up D.x8 i (none, 0, 0), x9 := up D.x9 i (none, 0, 0) } (commit S i) rfl rfl
        (fun j hj => by cases j <;> first | trivial | exact ⟨hj.1, up_b hj.2⟩) rfl ?_ ?_ ?_ ?_)
      · have HG := HF.out
        have KG := KE.out.trans (Fr.st10 (D' := { D with V := V, x7 := up D.x7 i (none, 0, 0), x8 := up D.x8 i (none, 0, 0), x9 := up D.x9 i (none, 0, 0) }) (S' := commit S i) i (fun m => match m with | 0 => .int .i64 (inc (S.tx i)) | 1 => .int .i64 1 | 2 => .bool false | 3 => .bool false | 4 => .int .i64 0 | 5 => .int .i64 0 | 6 => .int .i64 0 | _ => .slice none 0 0) rfl rfl (fun j hj => by cases j <;> first | trivial | exact ⟨hj.1, up_b hj.2⟩))
        rw [st10_ten] at HG KG
        have HG := Lib.hid HG
        have KG := Lib.hid KG
        clear HF
        go_end0
        exact ⟨rfl, { D with V := V, x7 := up D.x7 i (none, 0, 0), x8 := up D.x8 i (none, 0, 0), x9 := up D.x9 i (none, 0, 0) }, rfl, HG.out.step (below_drew1 (Below.refl _ _)), KG.out.trans (Fr.below _ _ (below_drew1 (Below.refl _ _)))⟩
      · intro m hm
        match m with
        | 0 | 1 | 2 | 3 | 4 | 5 | 6 | 7 | 8 | 9 => simp only [tRow, commit, up_self]; try rfl
        | m + 10 => omega
      · intro l hl m hm
        match m with
        | 0 | 1 | 2 | 3 | 4 | 5 | 6 | 7 | 8 | 9 => simp only [tRow, commit, up_ne _ _ _ _ hl]; try rfl
        | m + 10 => omega
      · intro j hj ht m hm
        cases j <;> first | rfl | cases ht
      · intro l hl hbl
        have hli : l ≠ i := by
          intro e
          subst e
          simp only [commit, up_self] at hbl
          cases hbl
        have hbl2 : S.begun l = true := up_b hbl
        have := HE.out.inn l hl hbl2
        simp only [Inn, up_ne _ _ _ _ hli]
        exact this
end Go.Proofs.Ytonhmkllfbagmaa.Tx
