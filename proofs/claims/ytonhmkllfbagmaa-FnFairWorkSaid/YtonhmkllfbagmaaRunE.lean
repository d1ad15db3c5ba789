/- Transactions: the reference's commit. -/
import Derived.Test.YtonhmkllfbagmaaRunD
namespace Go.Proofs.Ytonhmkllfbagmaa.Tx
open Go.RowKit Go.Proofs.YtonhmkllfbagmaaW.PrintWords Go.Proofs.YtonhmkllfbagmaaW.PrintLast Go.Proofs.YtonhmkllfbagmaaW.PrintMore Go.Proofs.Ytonhmkllfbagmaa.PFnExactTxFair
set_option linter.unusedVariables false
set_option linter.unusedSimpArgs false
/-- Cells of one try stored, one behind the other. -/
def st10 (w : World) (b i : Nat) (v : Nat → Value) : Nat → World
  | 0 => w
  | k + 1 => (st10 w b i v k).setCell ⟨b, i * 10 + k, none⟩ (v k)
def isT : Ix → Bool
  | .t => true
  | _ => false
def rowI (P : Par) (D : Dyn) (S : St) (i : Nat) (v : Nat → Value) (k : Nat) : Ix → Nat → Value := fun j m => if isT j = true ∧ m / 10 = i ∧ m % 10 < k then v (m % 10) else rowS P D S j m
theorem st10_lay {P : Par} {w : World} {D : Dyn} {S : St} {base : Nat} (h : Lay w base (okS P S) D.blk tyS (szS P) (rowS P D S)) (i : Nat) (hi : i < P.n) (v : Nat → Value) : ∀ k, k ≤ 10 → Lay (st10 w (D.blk .t) i v k) base (okS P S) D.blk tyS (szS P) (rowI P D S i v k)
  | 0, _ => h.sub (fun j hj => hj) (fun j hj m hm => by unfold rowI; rw [if_neg (by omega)])
  | k + 1, hk => by
    refine (st10_lay h i hi v k (by omega)).set .t trivial (i * 10 + k) (show i * 10 + k < P.n * 10 by omega) (v k) (fun j hj => hj) ?_ ?_ ?_
    · unfold rowI
      rw [if_pos ⟨rfl, by omega, by omega⟩, show (i * 10 + k) % 10 = k by omega]
    · intro m hm hne
      unfold rowI
      by_cases c : isT .t = true ∧ m / 10 = i ∧ m % 10 < k
      · rw [if_pos c, if_pos ⟨c.1, c.2.1, by omega⟩]
      · rw [if_neg c, if_neg (fun hh => c ⟨hh.1, hh.2.1, by omega⟩)]
    · intro j hj hne m hm
      cases j <;> first | exact absurd rfl hne | rfl
theorem st10_far (w : World) (b i : Nat) (v : Nat → Value) (c : Nat) (hc : c ≠ b) : ∀ k, (st10 w b i v k).heap[c]? = w.heap[c]?
  | 0 => rfl
  | k + 1 => (Below.heap_setCell _ _ _ c hc).trans (st10_far w b i v c hc k)
theorem st10_below {w0 w : World} {b i : Nat} (v : Nat → Value) (h : Below w0.heap.size w0 w) (hb : w0.heap.size ≤ b) : ∀ k, Below w0.heap.size w0 (st10 w b i v k)
  | 0 => h
  | k + 1 => (st10_below v h hb k).setCell (p := ⟨b, i * 10 + k, none⟩) hb _
theorem Run.st10 {P : Par} {w0 w : World} {D : Dyn} {S : St} (h : Run P w0 w D S) (i : Nat) (hi : i < P.n) (v : Nat → Value) (D' : Dyn) (S' : St) (hblk : D'.blk = D.blk) (hV : D'.V = D.V) (hok : ∀ j, okS P S' j → okS P S j) (hev : S'.events = S.events)
    (h1 : ∀ m, m < 10 → tRow D' S' i m = v m) (h2 : ∀ l, l ≠ i → ∀ m, m < 10 → tRow D' S' l m = tRow D S l m) (h3 : ∀ j, okS P S' j → isT j = false → ∀ m, m < szS P j → rowS P D' S' j m = rowS P D S j m)
    (hin : ∀ l, l < P.n → S'.begun l = true → Inn P D' l) :
    Run P w0 (Tx.st10 w (D.blk .t) i v 10) D' S' := by
  refine ⟨?_, ?_, hin, st10_below v h.below (h.lay.ge .t trivial) 10⟩
  · rw [hblk]
    refine (st10_lay h.lay i hi v 10 (Nat.le_refl _)).sub hok ?_
    intro j hj m hm
    rcases ht : isT j with _ | _
    · rw [h3 j hj ht m hm]
      unfold rowI
      rw [if_neg (by rw [ht]; rintro ⟨hh, -⟩; cases hh)]
    · have e : j = .t := by cases j <;> first | rfl | cases ht
      subst e
      show tRow D' S' (m / 10) (m % 10) = _
      unfold rowI
      by_cases c : m / 10 = i
      · rw [if_pos ⟨ht, c, by omega⟩, c]
        exact h1 _ (by omega)
      · rw [if_neg (fun hh => c hh.2.1)]
        exact h2 _ c _ (by omega)
  · rw [hV, hev, hblk]
    refine Kd.R_mono (Kd.R_step h.ev (fun b hb hlt => st10_far w _ i v b (hb .t trivial) 10)) (fun b hb j hj => hb j (hok j hj))
theorem st10_size (w : World) (b i : Nat) (v : Nat → Value) : ∀ k, (st10 w b i v k).heap.size = w.heap.size
  | 0 => rfl
  | k + 1 => by
    have := st10_size w b i v k
    simpa [Tx.st10, World.setCell] using this
theorem Fr.st10 {P : Par} {w : World} {D D' : Dyn} {S S' : St} (i : Nat) (v : Nat → Value) (hb : D'.blk = D.blk) (hV : D'.V = D.V) (hs : ∀ j, okS P S' j → okS P S j) : Fr P w (Tx.st10 w (D.blk .t) i v 10) D D' S S' :=
  ⟨Nat.le_of_eq (st10_size _ _ _ _ _).symm, fun b hlt ho => ⟨⟨fun j hj => by rw [hb]; exact ho.1 j (hs j hj), by rw [hV]; exact ho.2⟩, st10_far w _ i v b (ho.1 .t trivial) 10⟩⟩
theorem st10_ten (w : World) (b i : Nat) (v : Nat → Value) : st10 w b i v 10 = (((((((((w.setCell ⟨b, i * 10, none⟩ (v 0)).setCell ⟨b, i * 10 + 1, none⟩ (v 1)).setCell ⟨b, i * 10 + 2, none⟩ (v 2)).setCell ⟨b, i * 10 + 3, none⟩ (v 3)).setCell ⟨b, i * 10 + 4, none⟩ (v 4)).setCell ⟨b, i * 10 + 5, none⟩ (v 5)).setCell ⟨b, i * 10 + 6, none⟩ (v 6)).setCell ⟨b, i * 10 + 7, none⟩ (v 7)).setCell ⟨b, i * 10 + 8, none⟩ (v 8)).setCell ⟨b, i * 10 + 9, none⟩ (v 9) := rfl
/-- A commit's cells, the first x of them. -/
def cmt (S : St) (t x : Nat) : St := { S with cells := fun c => if c < x ∧ S.wrote t c = true then S.kept t c else S.cells c, vers := fun c => if c < x ∧ S.wrote t c = true then inc (S.vers c) else S.vers c }
theorem cmt_no (S : St) (t x : Nat) (h : S.wrote t x = false) : cmt S t (x + 1) = cmt S t x := by
  have e : ∀ c, (c < x + 1 ∧ S.wrote t c = true) ↔ (c < x ∧ S.wrote t c = true) := by
    intro c
    by_cases hc : c = x
    · subst hc; rw [h]; simp
    · constructor
      · rintro ⟨a, b⟩; exact ⟨by omega, b⟩
      · rintro ⟨a, b⟩; exact ⟨by omega, b⟩
  unfold cmt
  simp only [e]
theorem cmt_yes (S : St) (t x : Nat) (h : S.wrote t x = true) : cmt S t (x + 1) = { cmt S t x with cells := up (cmt S t x).cells x (S.kept t x), vers := up (cmt S t x).vers x (inc (S.vers x)) } := by
  have e1 : (fun c => if c < x + 1 ∧ S.wrote t c = true then S.kept t c else S.cells c) = up (cmt S t x).cells x (S.kept t x) := by
    funext c
    unfold up cmt
    by_cases hc : c = x
    · subst hc; rw [if_pos rfl, if_pos ⟨by omega, h⟩]
    · rw [if_neg hc]
      by_cases h2 : c < x ∧ S.wrote t c = true
      · rw [if_pos ⟨by omega, h2.2⟩]; exact (if_pos h2).symm
      · rw [if_neg (fun hh => h2 ⟨by omega, hh.2⟩)]; exact (if_neg h2).symm
  have e2 : (fun c => if c < x + 1 ∧ S.wrote t c = true then inc (S.vers c) else S.vers c) = up (cmt S t x).vers x (inc (S.vers x)) := by
    funext c
    unfold up cmt
    by_cases hc : c = x
    · subst hc; rw [if_pos rfl, if_pos ⟨by omega, h⟩]
    · rw [if_neg hc]
      by_cases h2 : c < x ∧ S.wrote t c = true
      · rw [if_pos ⟨by omega, h2.2⟩]; exact (if_pos h2).symm
      · rw [if_neg (fun hh => h2 ⟨by omega, hh.2⟩)]; exact (if_neg h2).symm
  conv => lhs; unfold cmt
  rw [e1, e2]
  rfl
/-- All cells of a commit. -/
def cmtA (S : St) (t : Nat) : St := { S with cells := fun c => if S.wrote t c = true then S.kept t c else S.cells c, vers := fun c => if S.wrote t c = true then inc (S.vers c) else S.vers c }
theorem Run.all {P : Par} {w0 w : World} {D : Dyn} {S : St} {i : Nat} (h : Run P w0 w D (cmt S i P.nc)) : Run P w0 w D (cmtA S i) := by
  refine ⟨h.lay.sub (fun j hj => hj) (fun j hj m hm => ?_), h.ev, h.inn, h.below⟩
  cases j <;> try rfl
  · show Value.int .i64 (if S.wrote i m = true then S.kept i m else S.cells m) = Value.int .i64 (if m < P.nc ∧ S.wrote i m = true then S.kept i m else S.cells m)
    have : (m < P.nc ∧ S.wrote i m = true) ↔ S.wrote i m = true := ⟨fun h => h.2, fun h => ⟨hm, h⟩⟩
    simp only [this]
  · show Value.int .i64 (if S.wrote i m = true then inc (S.vers m) else S.vers m) = Value.int .i64 (if m < P.nc ∧ S.wrote i m = true then inc (S.vers m) else S.vers m)
    have : (m < P.nc ∧ S.wrote i m = true) ↔ S.wrote i m = true := ⟨fun h => h.2, fun h => ⟨hm, h⟩⟩
    simp only [this]
set_option maxHeartbeats 8000000 in
set_option maxRecDepth 100000 in
theorem commitC (P : Par) (w0 w : World) (D : Dyn) (S : St) (i : Nat) (h : Run P w0 w D S) (hi : i < P.n) (hb : S.begun i = true) (hn : P.n ≤ 1000) (hnc : P.nc ≤ 1000) (hl : S.events.length ≤ 100000) :
    Calls Try.prog 58 #[.pointer (some ⟨D.blk .g, 0, none⟩), .int .i64 (i : Int)] w fun e w' => e = .returned (.tuple #[]) ∧ ∃ D', D'.blk = D.blk ∧ Run P w0 w' D' (commit S i) ∧ Fr P w w' D D' S (commit S i) := by
  have hin := eq_true (show (i : Int) < (P.n : Int) by omega)
  have H := Lib.hid (show Run P w0 w D (cmt S i 0) by
    have e : cmt S i 0 = S := by unfold cmt; simp
    rw [e]; exact h)
  clear h
  go_enter Try.func58, Try.ntmps58
  go_wp2_with fail
  go_loopw [4] (fun iv wr => ∃ x : Nat, x ≤ P.nc ∧ iv = .int .i64 (x : Int) ∧ Run P w0 wr D (cmt S i x) ∧ Fr P w wr D D S S) (fun iv _ => P.nc - (intOf iv).toNat)
  case atStart => exact ⟨0, Nat.zero_le _, rfl, H.out, Fr.refl P w D S⟩
  case round =>
    clear H
    obtain ⟨x, hx, rfl, hR, hFr⟩ := hrel
    have H := Lib.hid hR
    have FR := Lib.hid hFr
    clear hFr
    have g3 := hR.g 3 (by decide); have g4 := hR.g 4 (by decide); have g6 := hR.g 6 (by decide)
    simp only [gRow] at g3 g4 g6
    obtain ⟨c7, c8, c9, -, t8, t9⟩ := hR.t789 i hi hb
    clear hR
    by_cases hlt : x < P.nc
    · have q0 := decide_eq_true (show (x : Int) < (P.nc : Int) by omega)
      have hcn := eq_true (show (x : Int) < (P.nc : Int) by omega)
      have r2 : wr.cell? ⟨D.blk (.w i), x, none⟩ = some (.bool (S.wrote i x)) := H.out.wr_ i x hi hb hlt
      have r3 : wr.cell? ⟨D.blk (.k i), x, none⟩ = some (.int .i64 (S.kept i x)) := H.out.kp_ i x hi hb hlt
      have c1 := H.out.c x hlt
      have v1 : wr.cell? ⟨D.blk .v, x, none⟩ = some (.int .i64 (S.vers x)) := (H.out.v x hlt).trans (by show some (Value.int .i64 (if x < x ∧ _ then _ else S.vers x)) = _; rw [if_neg (by omega)])
      have fc := H.out.thaw .c trivial x; have fv := H.out.thaw .v trivial x
      have p1 : IntKind.wrap .i64 ((x : Int) + 1) = (x : Int) + 1 := by rw [i64_w]; unfold wrap64; omega
      have nxt : ∀ wr', Run P w0 wr' D (cmt S i (x + 1)) → Fr P w wr' D D S S → ∃ y : Nat, y ≤ P.nc ∧ Value.int .i64 ((x : Int) + 1) = .int .i64 (y : Int) ∧ Run P w0 wr' D (cmt S i y) ∧ Fr P w wr' D D S S := fun wr' h h2 => ⟨x + 1, hlt, rfl, h, h2⟩
      rcases hk : S.wrote i x with _ | _
      · rw [hk] at r2
        have H2 := Lib.hid (show Run P w0 wr D (cmt S i (x + 1)) by rw [cmt_no S i x hk]; exact H.out)
        clear hk
        go_wp2_with fail
        go_roundw
        case measure => simp [intOf]; omega
        case rel => exact nxt _ H2.out FR.out
      · rw [hk] at r2
        have hA := H.out.set_cells x hlt (S.kept i x)
        have a4 := hA.g 4 (by decide)
        simp only [gRow] at a4
        have b1 : (wr.setCell ⟨D.blk .c, x, none⟩ (.int .i64 (S.kept i x))).cell? ⟨D.blk .v, x, none⟩ = some (.int .i64 (S.vers x)) := (hA.v x hlt).trans (by show some (Value.int .i64 (if x < x ∧ _ then _ else S.vers x)) = _; rw [if_neg (by omega)])
        have H2 := Lib.hid (show Run P w0 ((wr.setCell ⟨D.blk .c, x, none⟩ (.int .i64 (S.kept i x))).setCell ⟨D.blk .v, x, none⟩ (.int .i64 (inc (S.vers x)))) D (cmt S i (x + 1)) by rw [cmt_yes S i x hk]; exact hA.set_vers x hlt (inc (S.vers x)))
        clear hk hA
        go_wp2_with fail
        go_region
        go_wp2_with fail
        go_roundw
        case measure => simp [intOf]; omega
        case rel => exact nxt _ (H2.out.step (below_drew1 (Below.refl _ _))) (((FR.out.trans (Fr.set D S S .c trivial (fun _ h => h) x _)).trans (Fr.set D S S .v trivial (fun _ h => h) x _)).trans (Fr.below D S (below_drew1 (Below.refl _ _))))
    · have q0 := decide_eq_false (show ¬ (x : Int) < (P.nc : Int) by omega)
      obtain rfl : x = P.nc := by omega
      have H2 := Lib.hid (H.out.all)
      clear H
      go_wp2_with fail
      refine (eventC P w0 wr D _ i 6 0 0 H2.out hi hn hl).mono ?_
      rintro e w1 ⟨rfl, V, h1, k1⟩
      have H1 := Lib.hid h1
      have K1 := Lib.hid (show Fr P w w1 D { D with V := V } S (event (cmtA S i) i 6 0 0) from FR.out.trans k1)
      clear k1 FR
      clear h1 H2 g3 g4 g6 t8 t9
      go_wp2_with fail
      refine (freeC P w0 w1 { D with V := V } _ i H1.out hnc).mono ?_
      rintro e w2 ⟨rfl, h2, k2⟩
      have K2 := Lib.hid ((K1.out.trans k2).trans (Fr.set { D with V := V } _ { free (event (cmtA S i) i 6 0 0) i with done := up S.done i (inc (S.done i)) } .d trivial (fun _ h => h) i (.int .i64 (inc (S.done i)))))
      clear k2 K1
      have g12 := h2.g 12 (by decide); have g6 := h2.g 6 (by decide)
      simp only [gRow] at g12 g6
      have d1 : w2.cell? ⟨D.blk .d, i, none⟩ = some (.int .i64 (S.done i)) := h2.d i hi
      have fd := h2.thaw .d trivial i
      have hA := h2.set_done i hi (inc (S.done i))
      have HA := Lib.hid hA
      clear h2 hA H1
      go_wp2_with fail
      refine name_w fun E hE => ?_
      have HE := Lib.hid (show Run P w0 E { D with V := V } { free (event (cmtA S i) i 6 0 0) i with done := up S.done i (inc (S.done i)) } by rw [hE]; exact HA.out)
      have KE := Lib.hid (show Fr P w E D { D with V := V } S { free (event (cmtA S i) i 6 0 0) i with done := up S.done i (inc (S.done i)) } by rw [hE]; exact K2.out)
      clear K2
      clear hE HA g12 g6 d1 fd
      have g6 := HE.out.g 6 (by decide)
      have t0 : E.cell? ⟨D.blk .t, i * 10, none⟩ = some (.int .i64 (S.tx i)) := HE.out.t0 i hi
      have t1 := HE.out.t i 1 hi (by decide); have t2 := HE.out.t i 2 hi (by decide); have t3 := HE.out.t i 3 hi (by decide); have t4 := HE.out.t i 4 hi (by decide); have t5 := HE.out.t i 5 hi (by decide); have t6 := HE.out.t i 6 hi (by decide); have t7 := HE.out.t i 7 hi (by decide); have t8 := HE.out.t i 8 hi (by decide); have t9 := HE.out.t i 9 hi (by decide)
      simp only [gRow, tRow] at g6 t1 t2 t3 t4 t5 t6 t7 t8 t9
      have f0 := HE.out.thaw .t trivial (i * 10); have f1 := HE.out.thaw .t trivial (i * 10 + 1); have f2 := HE.out.thaw .t trivial (i * 10 + 2); have f3 := HE.out.thaw .t trivial (i * 10 + 3); have f4 := HE.out.thaw .t trivial (i * 10 + 4); have f5 := HE.out.thaw .t trivial (i * 10 + 5); have f6 := HE.out.thaw .t trivial (i * 10 + 6); have f7 := HE.out.thaw .t trivial (i * 10 + 7); have f8 := HE.out.thaw .t trivial (i * 10 + 8); have f9 := HE.out.thaw .t trivial (i * 10 + 9)
      go_region
      have HF := Lib.hid (HE.out.st10 i hi (fun m => match m with | 0 => .int .i64 (inc (S.tx i)) | 1 => .int .i64 1 | 2 => .bool false | 3 => .bool false | 4 => .int .i64 0 | 5 => .int .i64 0 | 6 => .int .i64 0 | _ => .slice none 0 0) { D with V := V, x7 := up D.x7 i (none, 0, 0), x8 := up D.x8 i (none, 0, 0), x9 := up D.x9 i (none, 0, 0) } (commit S i) rfl rfl
        (fun j hj => by cases j <;> first | trivial | exact ⟨hj.1, up_b hj.2⟩) rfl ?_ ?_ ?_ ?_)
      · have HG := HF.out
        have KG := KE.out.trans (Fr.st10 (D' := { D with V := V, x7 := up D.x7 i (none, 0, 0), x8 := up D.x8 i (none, 0, 0), x9 := up D.x9 i (none, 0, 0) }) (S' := commit S i) i (fun m => match m with | 0 => .int .i64 (inc (S.tx i)) | 1 => .int .i64 1 | 2 => .bool false | 3 => .bool false | 4 => .int .i64 0 | 5 => .int .i64 0 | 6 => .int .i64 0 | _ => .slice none 0 0) rfl rfl (fun j hj => by cases j <;> first | trivial | exact ⟨hj.1, up_b hj.2⟩))
        rw [st10_ten] at HG KG
        have HG := Lib.hid HG
        have KG := Lib.hid KG
        clear HF
        go_end0
        exact ⟨rfl, { D with V := V, x7 := up D.x7 i (none, 0, 0), x8 := up D.x8 i (none, 0, 0), x9 := up D.x9 i (none, 0, 0) }, rfl, HG.out.step (below_drew1 (Below.refl _ _)), KG.out.trans (Fr.below _ _ (below_drew1 (Below.refl _ _)))⟩
      · intro m hm
        match m with
        | 0 | 1 | 2 | 3 | 4 | 5 | 6 | 7 | 8 | 9 => simp only [tRow, commit, up_self]; try rfl
        | m + 10 => omega
      · intro l hl m hm
        match m with
        | 0 | 1 | 2 | 3 | 4 | 5 | 6 | 7 | 8 | 9 => simp only [tRow, commit, up_ne _ _ _ _ hl]; try rfl
        | m + 10 => omega
      · intro j hj ht m hm
        cases j <;> first | rfl | cases ht
      · intro l hl hbl
        have hli : l ≠ i := by
          intro e
          subst e
          simp only [commit, up_self] at hbl
          cases hbl
        have hbl2 : S.begun l = true := up_b hbl
        have := HE.out.inn l hl hbl2
        simp only [Inn, up_ne _ _ _ _ hli]
        exact this
end Go.Proofs.Ytonhmkllfbagmaa.Tx
