/- Transactions: turns of the ledger that goOn makes. -/
import Derived.Test.YtonhmkllfbagmaaLedF
import Derived.Test.YtonhmkllfbagmaaPlB
namespace Go.Proofs.Ytonhmkllfbagmaa.Tx
open Go.RowKit Go.Proofs.YtonhmkllfbagmaaW.PrintWords Go.Proofs.YtonhmkllfbagmaaW.PrintLast Go.Proofs.YtonhmkllfbagmaaW.PrintMore Go.Proofs.Ytonhmkllfbagmaa.PFnExactTxFair
set_option linter.unusedVariables false
set_option linter.unusedSimpArgs false
theorem step1_goes (man : Int) (nc : Nat) (T : List (List (List S63))) (S : St) (i : Nat) (x : Int) : step1 man nc T { S with goes := x } i = { step1 man nc T S i with goes := x } := by
  have e1 : ∀ y : S63, act { S with goes := x } i y = { act S i y with goes := x } := by
    intro y
    unfold act
    have e : ∀ c, see { S with goes := x } i c = ((see S i c).1, { (see S i c).2 with goes := x }) := by intro c; unfold see; show (if S.wrote i c = true then _ else _) = _; by_cases h : S.wrote i c = true <;> simp [h]
    rw [e]
    by_cases h1 : y.f0 = 1
    · rw [if_pos h1, if_pos h1]; rfl
    · rw [if_neg h1, if_neg h1]
      by_cases h2 : y.f0 = 2
      · rw [if_pos h2, if_pos h2]; rfl
      · rw [if_neg h2, if_neg h2]; rfl
  have e1' : ∀ (Z : St) (y : S63), act { Z with goes := x } i y = { act Z i y with goes := x } := by
    intro Z y
    unfold act
    have e : ∀ c, see { Z with goes := x } i c = ((see Z i c).1, { (see Z i c).2 with goes := x }) := by intro c; unfold see; show (if Z.wrote i c = true then _ else _) = _; by_cases h : Z.wrote i c = true <;> simp [h]
    rw [e]
    by_cases h1 : y.f0 = 1
    · rw [if_pos h1, if_pos h1]; rfl
    · rw [if_neg h1, if_neg h1]
      by_cases h2 : y.f0 = 2
      · rw [if_pos h2, if_pos h2]; rfl
      · rw [if_neg h2, if_neg h2]; rfl
  have e2 : ∀ c, own man { S with goes := x } i c = ((own man S i c).1, { (own man S i c).2 with goes := x }) := by
    intro c
    unfold own
    show (if S.owners c = -1 ∨ S.owners c = (i : Int) then _ else _) = _
    by_cases h1 : S.owners c = -1 ∨ S.owners c = (i : Int)
    · rw [if_pos h1, if_pos h1]
    · rw [if_neg h1, if_neg h1]
      show (if man = 3 ∧ S.start (S.owners c).toNat ≤ S.start i then _ else _) = _
      by_cases h2 : man = 3 ∧ S.start (S.owners c).toNat ≤ S.start i
      · rw [if_pos h2, if_pos h2]; rfl
      · rw [if_neg h2, if_neg h2]
        show (if man = 2 ∨ man = 3 ∨ (man = 4 ∧ S.weight (S.owners c).toNat < S.weight i) then _ else _) = _
        by_cases h3 : man = 2 ∨ man = 3 ∨ (man = 4 ∧ S.weight (S.owners c).toNat < S.weight i)
        · rw [if_pos h3, if_pos h3]; rfl
        · rw [if_neg h3, if_neg h3]; rfl
  unfold step1
  show (if conf S nc i = true then _ else if S.at_ i = ((opsOf T S i).length : Int) then _ else if ((opsOf T S i).getD (S.at_ i).toNat z63).f0 = 1 then act { S with goes := x } i ((opsOf T S i).getD (S.at_ i).toNat z63) else if (own man { S with goes := x } i ((opsOf T S i).getD (S.at_ i).toNat z63).f1.toNat).1 = true then act (own man { S with goes := x } i ((opsOf T S i).getD (S.at_ i).toNat z63).f1.toNat).2 i ((opsOf T S i).getD (S.at_ i).toNat z63) else (own man { S with goes := x } i ((opsOf T S i).getD (S.at_ i).toNat z63).f1.toNat).2) = _
  rw [e2]
  by_cases h1 : conf S nc i = true
  · rw [if_pos h1, if_pos h1]; rfl
  rw [if_neg h1, if_neg h1]
  by_cases h2 : S.at_ i = ((opsOf T S i).length : Int)
  · rw [if_pos h2, if_pos h2]; rfl
  rw [if_neg h2, if_neg h2]
  by_cases h3 : ((opsOf T S i).getD (S.at_ i).toNat z63).f0 = 1
  · rw [if_pos h3, if_pos h3]; exact e1 _
  rw [if_neg h3, if_neg h3]
  by_cases h4 : (own man S i ((opsOf T S i).getD (S.at_ i).toNat z63).f1.toNat).1 = true
  · rw [if_pos h4, if_pos h4]; exact e1' _ _
  rw [if_neg h4, if_neg h4]
section
variable {P : LPar} {w0 w w' : World} {D : LDyn} {S : St}
theorem seen_begin (nc : Nat) (S : St) (i : Nat) : seenF nc (begin_ S i) i = fun _ => none := by
  funext c
  refine if_neg (fun hh => ?_)
  have h4 : 0 ≤ up S.read i (fun _ => -1) i c.toNat := hh.2.2.2
  rw [up_self] at h4
  have : (0 : Int) ≤ -1 := h4
  omega
theorem kept_begin (nc : Nat) (S : St) (i : Nat) : keptF nc (begin_ S i) i = fun _ => none := by
  funext c
  refine if_neg (fun hh => ?_)
  have h4 : up S.wrote i (fun _ => false) i c.toNat = true := hh.2.2.2
  rw [up_self] at h4
  cases h4
theorem begin_out (nc : Nat) (S : St) (i l : Nat) (h : l ≠ i) : seenF nc (begin_ S i) l = seenF nc S l ∧ keptF nc (begin_ S i) l = keptF nc S l ∧ opA (begin_ S i) l = opA S l := by
  have b : (begin_ S i).begun l = S.begun l := up_ne _ _ _ _ h
  have r : (begin_ S i).read l = S.read l := up_ne _ _ _ _ h
  have wr : (begin_ S i).wrote l = S.wrote l := up_ne _ _ _ _ h
  have k : (begin_ S i).kept l = S.kept l := up_ne _ _ _ _ h
  have a : (begin_ S i).at_ l = S.at_ l := up_ne _ _ _ _ h
  unfold seenF keptF opA
  rw [b, r, wr, k, a]
  exact ⟨rfl, rfl, rfl⟩
theorem opA_begin (S : St) (i : Nat) : opA (begin_ S i) i = 0 := by
  unfold opA
  have b : (begin_ S i).begun i = true := up_self _ _ _
  rw [if_pos b]
  exact up_self _ _ _
/-- A try of a transaction that some try has begun before. -/
theorem Led.begin1 (h : Led P w0 w D S) (i : Nat) (hi : i < P.n) (hb : S.begun i = false) (hs : S.started i = true) : Led P w0 w D (begin_ S i) := by
  refine h.same _ rfl (fun j hj => ?_) (fun l hl hsl => ?_)
  · cases j <;> first | exact fun _ _ => rfl | skip
    · rename_i l
      intro m hm
      show aJ D (begin_ S i) l m = aJ D S l m
      by_cases e : l = i
      · subst e
        match m with
        | 0 | 1 | 3 | 4 | 6 => rfl
        | 2 => show Value.int .i64 (opA (begin_ S l) l) = Value.int .i64 (opA S l); rw [opA_begin]; unfold opA; rw [if_neg (by rw [hb]; decide)]
        | 5 => show Value.bool (up S.started l true l) = Value.bool (S.started l); rw [up_self, hs]
        | m + 7 => rfl
      · match m with
        | 0 | 1 | 3 | 4 | 6 => rfl
        | 2 => show Value.int .i64 (opA (begin_ S i) l) = Value.int .i64 (opA S l); rw [(begin_out P.nc S i l e).2.2]
        | 5 => show Value.bool (up S.started i true l) = Value.bool (S.started l); rw [up_ne _ _ _ _ e]
        | m + 7 => rfl
    · rename_i l
      show seenF P.nc (begin_ S i) l = seenF P.nc S l
      by_cases e : l = i
      · subst e; rw [seen_begin, seen_off _ _ _ hb]
      · exact (begin_out P.nc S i l e).1
    · rename_i l
      show keptF P.nc (begin_ S i) l = keptF P.nc S l
      by_cases e : l = i
      · subst e; rw [kept_begin, kept_off _ _ _ hb]
      · exact (begin_out P.nc S i l e).2.1
  · show D.st l = up S.start i (if S.started i = true then S.start i else S.goes) l ∧ D.wt l = up S.weight i (if S.started i = true then S.weight i else 0) l
    by_cases e : l = i
    · subst e
      rw [up_self, up_self, if_pos hs, if_pos hs]
      exact h.sw l hl hs
    · rw [up_ne _ _ _ _ e, up_ne _ _ _ _ e]
      have : up S.started i true l = true := hsl
      rw [up_ne _ _ _ _ e] at this
      exact h.sw l hl this
/-- The first try of a transaction. -/
theorem Led.begin2 (h : Led P w0 w D S) (i : Nat) (hi : i < P.n) (hb : S.begun i = false) (hs : S.started i = false) :
    Led P w0 (((w.setCell ⟨D.blk (.a i), 5, none⟩ (.bool true)).setCell ⟨D.blk (.a i), 3, none⟩ (.int .i64 S.goes)).setCell ⟨D.blk (.a i), 4, none⟩ (.int .i64 0)) { D with st := up D.st i S.goes, wt := up D.wt i 0 } (begin_ S i) ∧
    FrL P w (((w.setCell ⟨D.blk (.a i), 5, none⟩ (.bool true)).setCell ⟨D.blk (.a i), 3, none⟩ (.int .i64 S.goes)).setCell ⟨D.blk (.a i), 4, none⟩ (.int .i64 0)) D { D with st := up D.st i S.goes, wt := up D.wt i 0 } := by
  have hg := h.ge (.a i) hi
  refine h.turn (fun j => j = .a i) (((h.below.setCell (p := ⟨D.blk (.a i), 5, none⟩) hg _).setCell (p := ⟨D.blk (.a i), 3, none⟩) hg _).setCell (p := ⟨D.blk (.a i), 4, none⟩) hg _) (by simp [World.setCell])
    (fun b hb' hn => (Below.heap_setCell _ _ _ b (hn (.a i) hi rfl)).trans ((Below.heap_setCell _ _ _ b (hn (.a i) hi rfl)).trans (Below.heap_setCell _ _ _ b (hn (.a i) hi rfl)))) rfl rfl ?_ (fun j l _ _ e1 e2 _ _ => e1.trans e2.symm) ?_ ?_
  · rintro j hj rfl
    refine ⟨?_, .inl rfl⟩
    have f0 : Fn w (D.blk (.a i)) 100 8 (aJ D S i) := h.at_ (.a i) hi
    have f1 := f0.set 5 (by decide) (.bool true) (g := fun m => if m = 5 then .bool true else aJ D S i m) rfl (fun m _ hm => by simp only [if_neg hm])
    have f2 := f1.set 3 (by decide) (.int .i64 S.goes) (g := fun m => if m = 5 then .bool true else if m = 3 then .int .i64 S.goes else aJ D S i m) rfl (fun m _ hm => by simp only [if_neg hm])
    refine f2.set 4 (by decide) (.int .i64 0) ?_ (fun m hm hne => ?_)
    · show Value.int .i64 (up D.wt i 0 i) = _; rw [up_self]
    · show aJ { D with st := up D.st i S.goes, wt := up D.wt i 0 } (begin_ S i) i m = _
      match m with
      | 0 | 1 | 6 => rfl
      | 2 => show Value.int .i64 (opA (begin_ S i) i) = Value.int .i64 (opA S i); rw [opA_begin]; unfold opA; rw [if_neg (by rw [hb]; decide)]
      | 3 => show Value.int .i64 (up D.st i S.goes i) = Value.int .i64 S.goes; rw [up_self]
      | 4 => exact absurd rfl hne
      | 5 => show Value.bool (up S.started i true i) = Value.bool true; rw [up_self]
      | m + 7 => rfl
  · intro j hj hn
    refine ⟨rfl, ?_⟩
    cases j <;> first | exact fun _ _ => rfl | skip
    · rename_i l
      have e : l ≠ i := fun e => hn (by rw [e])
      intro m hm
      show aJ { D with st := up D.st i S.goes, wt := up D.wt i 0 } (begin_ S i) l m = aJ D S l m
      match m with
      | 0 | 1 | 6 => rfl
      | 2 => show Value.int .i64 (opA (begin_ S i) l) = Value.int .i64 (opA S l); rw [(begin_out P.nc S i l e).2.2]
      | 3 => show Value.int .i64 (up D.st i S.goes l) = Value.int .i64 (D.st l); rw [up_ne _ _ _ _ e]
      | 4 => show Value.int .i64 (up D.wt i 0 l) = Value.int .i64 (D.wt l); rw [up_ne _ _ _ _ e]
      | 5 => show Value.bool (up S.started i true l) = Value.bool (S.started l); rw [up_ne _ _ _ _ e]
      | m + 7 => rfl
    · rename_i l
      show seenF P.nc (begin_ S i) l = seenF P.nc S l
      by_cases e : l = i
      · subst e; rw [seen_begin, seen_off _ _ _ hb]
      · exact (begin_out P.nc S i l e).1
    · rename_i l
      show keptF P.nc (begin_ S i) l = keptF P.nc S l
      by_cases e : l = i
      · subst e; rw [kept_begin, kept_off _ _ _ hb]
      · exact (begin_out P.nc S i l e).2.1
  · intro l hl hsl
    show up D.st i S.goes l = up S.start i (if S.started i = true then S.start i else S.goes) l ∧ up D.wt i 0 l = up S.weight i (if S.started i = true then S.weight i else 0) l
    by_cases e : l = i
    · subst e
      rw [up_self, up_self, up_self, up_self, if_neg (by rw [hs]; decide), if_neg (by rw [hs]; decide)]
      exact ⟨rfl, rfl⟩
    · rw [up_ne _ _ _ _ e, up_ne _ _ _ _ e, up_ne _ _ _ _ e, up_ne _ _ _ _ e]
      have : up S.started i true l = true := hsl
      rw [up_ne _ _ _ _ e] at this
      exact h.sw l hl this
theorem Led.setGoes (h : Led P w0 w D S) (x : Int) : Led P w0 (w.setCell ⟨D.blk .g, 7, none⟩ (.int .i64 x)) D { S with goes := x } ∧ FrL P w (w.setCell ⟨D.blk .g, 7, none⟩ (.int .i64 x)) D D := by
  refine h.cell .g trivial 7 _ rfl rfl rfl ?_ ?_ h.sw
  · exact Fn.set (h.at_ .g trivial) 7 (show 7 < 9 by decide) _ rfl (fun m hm hne => by
      show gJ P D { S with goes := x } m = gJ P D S m
      match m with
      | 0 | 1 | 2 | 3 | 4 | 5 | 6 => rfl
      | 7 => exact absurd rfl hne
      | m + 8 => rfl)
  · intro j hj hne
    cases j <;> first | exact absurd rfl hne | rfl | exact fun _ _ => rfl
theorem Led.setC (h : Led P w0 w D S) (k : Nat) (hk : k < P.nc) (x : Int) (f : Nat → Int) (h1 : f k = x) (h2 : ∀ m, m < P.nc → m ≠ k → f m = S.cells m) : Led P w0 (w.setCell ⟨D.blk .c, k, none⟩ (.int .i64 x)) D { S with cells := f } ∧ FrL P w (w.setCell ⟨D.blk .c, k, none⟩ (.int .i64 x)) D D := by
  refine h.cell .c trivial k _ rfl rfl rfl ?_ ?_ h.sw
  · exact Fn.set (h.at_ .c trivial) k hk _ (by show Value.int .i64 (f k) = _; rw [h1]) (fun m hm hne => by show Value.int .i64 (f m) = Value.int .i64 (S.cells m); rw [h2 m hm hne])
  · intro j hj hne
    cases j <;> first | exact absurd rfl hne | rfl | exact fun _ _ => rfl
theorem Led.setV (h : Led P w0 w D S) (k : Nat) (hk : k < P.nc) (x : Int) (f : Nat → Int) (h1 : f k = x) (h2 : ∀ m, m < P.nc → m ≠ k → f m = S.vers m) : Led P w0 (w.setCell ⟨D.blk .v, k, none⟩ (.int .i64 x)) D { S with vers := f } ∧ FrL P w (w.setCell ⟨D.blk .v, k, none⟩ (.int .i64 x)) D D := by
  refine h.cell .v trivial k _ rfl rfl rfl ?_ ?_ h.sw
  · exact Fn.set (h.at_ .v trivial) k hk _ (by show Value.int .i64 (f k) = _; rw [h1]) (fun m hm hne => by show Value.int .i64 (f m) = Value.int .i64 (S.vers m); rw [h2 m hm hne])
  · intro j hj hne
    cases j <;> first | exact absurd rfl hne | rfl | exact fun _ _ => rfl
/-- A store into a block that is none of the ledger's. -/
theorem Led.other (h : Led P w0 w D S) {r : Nat} (ho : OutL P D r) (hs : w.heap.size ≤ w'.heap.size) (hw : ∀ c, c ≠ r → w'.heap[c]? = w.heap[c]?) (hB : Below w0.heap.size w0 w') : Led P w0 w' D S := by
  refine ⟨fun j hj => atJ_move (h.at_ j hj) rfl (hw _ (fun e => ho.1 j hj e.symm)) ?_, h.ge, h.inj, ?_, h.sw, hB⟩
  · cases j <;> first | rfl | exact fun _ _ => rfl
  · exact Kd.R_reok rfl (Kd.R_step (ok := fun b => D.V.ownBlock = some b) (Kd.R_reok rfl h.ev (fun b hb => hb)) (fun b hb hlt => hw b (fun e => ho.2 (by rw [← e, hb])))) (fun b hb => h.ev.1 b hb)
theorem FrL.other {w1 w2 : World} {D1 : LDyn} (k : FrL P w w1 D D1) {r : Nat} (hr : w.heap.size ≤ r) (hs : w1.heap.size ≤ w2.heap.size) (hw : ∀ c, c ≠ r → w2.heap[c]? = w1.heap[c]?) : FrL P w w2 D D1 :=
  ⟨Nat.le_trans k.1 hs, fun b hb ho => by obtain ⟨a, e⟩ := k.2 b hb ho; exact ⟨a, (hw b (by omega)).trans e⟩⟩
/-- A commit's last three stores. -/
theorem Led.fin3 (h : Led P w0 w D S) (i : Nat) (hi : i < P.n) (x : Int) :
    Led P w0 (((w.setCell ⟨D.blk (.a i), 0, none⟩ (.int .i64 x)).setCell ⟨D.blk (.a i), 1, none⟩ (.int .i64 1)).setCell ⟨D.blk (.a i), 5, none⟩ (.bool false)) D { S with tx := up S.tx i x, try_ := up S.try_ i 1, started := up S.started i false } ∧
    FrL P w (((w.setCell ⟨D.blk (.a i), 0, none⟩ (.int .i64 x)).setCell ⟨D.blk (.a i), 1, none⟩ (.int .i64 1)).setCell ⟨D.blk (.a i), 5, none⟩ (.bool false)) D D := by
  have hg := h.ge (.a i) hi
  refine h.turn (fun j => j = .a i) (((h.below.setCell (p := ⟨D.blk (.a i), 0, none⟩) hg _).setCell (p := ⟨D.blk (.a i), 1, none⟩) hg _).setCell (p := ⟨D.blk (.a i), 5, none⟩) hg _) (by simp [World.setCell])
    (fun b hb' hn => (Below.heap_setCell _ _ _ b (hn (.a i) hi rfl)).trans ((Below.heap_setCell _ _ _ b (hn (.a i) hi rfl)).trans (Below.heap_setCell _ _ _ b (hn (.a i) hi rfl)))) rfl rfl ?_ (fun j l _ _ e1 e2 _ _ => e1.trans e2.symm) ?_ ?_
  · rintro j hj rfl
    refine ⟨?_, .inl rfl⟩
    have f0 : Fn w (D.blk (.a i)) 100 8 (aJ D S i) := h.at_ (.a i) hi
    have f1 := f0.set 0 (by decide) (.int .i64 x) (g := fun m => if m = 0 then .int .i64 x else aJ D S i m) rfl (fun m _ hm => by simp only [if_neg hm])
    have f2 := f1.set 1 (by decide) (.int .i64 1) (g := fun m => if m = 0 then .int .i64 x else if m = 1 then .int .i64 1 else aJ D S i m) rfl (fun m _ hm => by simp only [if_neg hm])
    refine f2.set 5 (by decide) (.bool false) ?_ (fun m hm hne => ?_)
    · show Value.bool (up S.started i false i) = _; rw [up_self]
    · match m with
      | 0 => show Value.int .i64 (up S.tx i x i) = Value.int .i64 x; rw [up_self]
      | 1 => show Value.int .i64 (up S.try_ i 1 i) = Value.int .i64 1; rw [up_self]
      | 2 | 3 | 4 | 6 => rfl
      | 5 => exact absurd rfl hne
      | m + 7 => rfl
  · intro j hj hn
    refine ⟨rfl, ?_⟩
    cases j <;> first | rfl | exact fun _ _ => rfl | skip
    rename_i l
    have e : l ≠ i := fun e => hn (by rw [e])
    intro m hm
    match m with
    | 0 => show Value.int .i64 (up S.tx i x l) = Value.int .i64 (S.tx l); rw [up_ne _ _ _ _ e]
    | 1 => show Value.int .i64 (up S.try_ i 1 l) = Value.int .i64 (S.try_ l); rw [up_ne _ _ _ _ e]
    | 2 | 3 | 4 | 6 => rfl
    | 5 => show Value.bool (up S.started i false l) = Value.bool (S.started l); rw [up_ne _ _ _ _ e]
    | m + 7 => rfl
  · intro l hl hsl
    have hsl' : up S.started i false l = true := hsl
    by_cases e : l = i
    · subst e; rw [up_self] at hsl'; cases hsl'
    · rw [up_ne _ _ _ _ e] at hsl'; exact h.sw l hl hsl'
end
end Go.Proofs.Ytonhmkllfbagmaa.Tx
