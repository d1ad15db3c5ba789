/- Transactions: the ledger's goOn. -/
import Derived.Test.YtonhmkllfbagmaaLedG
namespace Go.Proofs.Ytonhmkllfbagmaa.Tx
open Go.RowKit Go.Proofs.YtonhmkllfbagmaaW.PrintWords Go.Proofs.YtonhmkllfbagmaaW.PrintLast Go.Proofs.YtonhmkllfbagmaaW.PrintMore Go.Proofs.Ytonhmkllfbagmaa.PFnExactTxFair
set_option linter.unusedVariables false
set_option linter.unusedSimpArgs false
theorem giveUpLG (P : LPar) (w0 w : World) (D : LDyn) (S : St) (i g : Nat) (hg : D.blk .g = g) (h : Led P w0 w D S) (hi : i < P.n) (hn : P.n ≤ 1000) (hnc : P.nc ≤ 1000) (hl : S.events.length ≤ 99000) :
    Calls Try.prog 63 #[.pointer (some ⟨g, 0, none⟩), .int .i64 (i : Int)] w fun e w' => e = .returned (.tuple #[]) ∧ ∃ D', KeepD D D' ∧ Led P w0 w' D' (giveUp S i) ∧ FrL P w w' D D' := by subst hg; exact giveUpL P w0 w D S i h hi hn hnc hl
theorem freeLG (P : LPar) (w0 w : World) (D : LDyn) (S : St) (i g : Nat) (hg : D.blk .g = g) (h : Led P w0 w D S) (hnc : P.nc ≤ 1000) :
    Calls Try.prog 64 #[.pointer (some ⟨g, 0, none⟩), .int .i64 (i : Int)] w fun e w' => e = .returned (.tuple #[]) ∧ Led P w0 w' D (free S i) ∧ FrL P w w' D D := by subst hg; exact freeL P w0 w D S i h hnc
theorem sayLG (P : LPar) (w0 w : World) (D : LDyn) (S : St) (i : Nat) (op cell num : Int) (g : Nat) (hg : D.blk .g = g) (h : Led P w0 w D S) (hi : i < P.n) (hn : P.n ≤ 1000) (hl : S.events.length ≤ 100000) :
    Calls Try.prog 65 #[.pointer (some ⟨g, 0, none⟩), .int .i64 (i : Int), .int .i64 op, .int .i64 cell, .int .i64 num] w fun e w' => e = .returned (.tuple #[]) ∧ ∃ V, Led P w0 w' { D with V := V } (event S i op cell num) ∧ FrL P w w' D { D with V := V } := by subst hg; exact sayL P w0 w D S i op cell num h hi hn hl
theorem ownLG (P : LPar) (w0 w : World) (D : LDyn) (S : St) (i c g : Nat) (hg : D.blk .g = g) (h : Led P w0 w D S) (hi : i < P.n) (hc : c < P.nc) (hn : P.n ≤ 1000) (hnc : P.nc ≤ 1000) (hl : S.events.length ≤ 99000) (hman : 1 ≤ P.man ∧ P.man ≤ 4) (hsi : S.started i = true) (ho : S.owners c = -1 ∨ ∃ o : Nat, o < P.n ∧ S.owners c = (o : Int) ∧ S.started o = true) :
    Calls Try.prog 66 #[.pointer (some ⟨g, 0, none⟩), .int .i64 (i : Int), .int .i64 (c : Int)] w fun e w' => e = .returned (.bool (own P.man S i c).1) ∧ ∃ D', KeepD D D' ∧ Led P w0 w' D' (own P.man S i c).2 ∧ FrL P w w' D D' := by subst hg; exact ownL P w0 w D S i c h hi hc hn hnc hl hman hsi ho
theorem readLG (P : LPar) (w0 w : World) (D : LDyn) (S : St) (i c g ab : Nat) (hg : D.blk .g = g) (ha : D.blk (.a i) = ab) (h : Led P w0 w D S) (hi : i < P.n) (hb : S.begun i = true) (hc : c < P.nc) (hv : 0 ≤ S.vers c) :
    Calls Try.prog 67 #[.pointer (some ⟨g, 0, none⟩), .pointer (some ⟨ab, 0, none⟩), .int .i64 (c : Int)] w fun e w' => e = .returned (.int .i64 (see S i c).1) ∧ Led P w0 w' D (see S i c).2 ∧ FrL P w w' D D := by subst hg; subst ha; exact readL P w0 w D S i c h hi hb hc hv
/-- A commit's cells and versions, those that are still to come left out. -/
def cmI (nc : Nat) (S : St) (i : Nat) (lc lv : Int → Bool) : St := { S with cells := fun c => if (keptF nc S i (c : Int)).isSome = true ∧ lc (c : Int) = false then S.kept i c else S.cells c, vers := fun c => if (keptF nc S i (c : Int)).isSome = true ∧ lv (c : Int) = false then inc (S.vers c) else S.vers c }
theorem cmI_start (nc : Nat) (S : St) (i : Nat) : cmI nc S i (fun x => (keptF nc S i x).isSome) (fun x => (keptF nc S i x).isSome) = S := by
  have h1 : (fun c : Nat => if (keptF nc S i (c : Int)).isSome = true ∧ (keptF nc S i (c : Int)).isSome = false then S.kept i c else S.cells c) = S.cells := by
    funext c; rw [if_neg (fun hh => by rw [hh.1] at hh; exact absurd hh.2 (by decide))]
  have h2 : (fun c : Nat => if (keptF nc S i (c : Int)).isSome = true ∧ (keptF nc S i (c : Int)).isSome = false then inc (S.vers c) else S.vers c) = S.vers := by
    funext c; rw [if_neg (fun hh => by rw [hh.1] at hh; exact absurd hh.2 (by decide))]
  show { S with cells := _, vers := _ } = S
  simp only [h1, h2]
/-- A commit as the ledger makes it. -/
def cmZ (nc : Nat) (S : St) (i : Nat) : St := cmI nc S i (fun _ => false) (fun _ => false)
def cmF (nc : Nat) (S : St) (i : Nat) : St := { event (free (cmZ nc S i) i) i 6 0 0 with tx := up S.tx i (inc (S.tx i)), try_ := up S.try_ i 1, started := up S.started i false }
theorem cm_same (P : LPar) (w0 w : World) (D : LDyn) (S : St) (i : Nat) (hb : S.begun i = true) (h : Led P w0 w D (offB (cmF P.nc S i) i)) : Led P w0 w D (commit S i) := by
  have hk : ∀ c : Nat, c < P.nc → ((keptF P.nc S i (c : Int)).isSome = true ↔ S.wrote i c = true) := by
    intro c hc
    rw [kept_at P.nc S i c hb hc]
    split <;> simp_all
  have hbo : ∀ l, (commit S i).begun l = (offB (cmF P.nc S i) i).begun l := fun l => rfl
  refine h.same _ rfl (fun j hj => ?_) (fun l hl hs => ?_)
  · cases j <;> first | rfl | exact fun _ _ => rfl | skip
    · intro m hm
      show Value.int .i64 (if S.wrote i m = true then S.kept i m else S.cells m) = Value.int .i64 (if (keptF P.nc S i (m : Int)).isSome = true ∧ false = false then S.kept i m else S.cells m)
      have := hk m hm
      by_cases e : S.wrote i m = true
      · rw [if_pos e, if_pos ⟨this.2 e, rfl⟩]
      · rw [if_neg e, if_neg (fun hh => e (this.1 hh.1))]
    · intro m hm
      show Value.int .i64 (if S.wrote i m = true then inc (S.vers m) else S.vers m) = Value.int .i64 (if (keptF P.nc S i (m : Int)).isSome = true ∧ false = false then inc (S.vers m) else S.vers m)
      have := hk m hm
      by_cases e : S.wrote i m = true
      · rw [if_pos e, if_pos ⟨this.2 e, rfl⟩]
      · rw [if_neg e, if_neg (fun hh => e (this.1 hh.1))]
    · rename_i l
      intro m hm
      show aJ D (commit S i) l m = aJ D (offB (cmF P.nc S i) i) l m
      match m with
      | 0 | 1 | 3 | 4 | 5 | 6 => rfl
      | 2 =>
        show Value.int .i64 (opA (commit S i) l) = Value.int .i64 (opA (offB (cmF P.nc S i) i) l)
        unfold opA
        by_cases e : l = i
        · subst e
          have b1 : (commit S l).begun l = false := up_self _ _ _
          have b2 : (offB (cmF P.nc S l) l).begun l = false := up_self _ _ _
          rw [b1, b2]; rfl
        · rw [hbo l]
          have : (commit S i).at_ l = (offB (cmF P.nc S i) i).at_ l := up_ne _ _ _ _ e
          rw [this]
      | m + 7 => rfl
  · have hs' : up S.started i false l = true := hs
    by_cases e : l = i
    · subst e; rw [up_self] at hs'; cases hs'
    · have := h.sw l hl hs
      show D.st l = up S.start i 0 l ∧ D.wt l = up S.weight i 0 l
      rw [up_ne _ _ _ _ e, up_ne _ _ _ _ e]
      exact this
def oR (a b c : Int) : Nat → Value
  | 0 => .int .i64 a
  | 1 => .int .i64 b
  | _ => .int .i64 c
theorem Led.setOp {P : LPar} {w0 w : World} {D : LDyn} {S : St} (h : Led P w0 w D S) (i : Nat) (hi : i < P.n) (hb : S.begun i = true) {ab : Nat} (ha : D.blk (.a i) = ab) (x : Int) : Led P w0 (w.setCell ⟨ab, 2, none⟩ (.int .i64 x)) D { S with at_ := up S.at_ i x } ∧ FrL P w (w.setCell ⟨ab, 2, none⟩ (.int .i64 x)) D D := by
  subst ha
  refine h.setA i hi 2 (by decide) _ D _ rfl rfl rfl ?_ ?_ ?_ h.sw
  · show Value.int .i64 (if S.begun i = true then up S.at_ i x i else 0) = _; rw [if_pos hb, up_self]
  · intro m hm hne
    match m with
    | 0 | 1 | 3 | 4 | 5 | 6 => rfl
    | 2 => exact absurd rfl hne
    | m + 7 => rfl
  · intro j hj hne
    cases j <;> first | rfl | exact fun _ _ => rfl | skip
    rename_i l
    have hl : l ≠ i := fun e => hne (by rw [e])
    intro m hm
    match m with
    | 0 | 1 | 3 | 4 | 5 | 6 => rfl
    | 2 => show Value.int .i64 (if S.begun l = true then up S.at_ i x l else 0) = Value.int .i64 (if S.begun l = true then S.at_ l else 0); rw [up_ne _ _ _ _ hl]
    | m + 7 => rfl
theorem Led.setWt {P : LPar} {w0 w : World} {D : LDyn} {S : St} (h : Led P w0 w D S) (i : Nat) (hi : i < P.n) {ab : Nat} (ha : D.blk (.a i) = ab) (x : Int) : Led P w0 (w.setCell ⟨ab, 4, none⟩ (.int .i64 x)) { D with wt := up D.wt i x } { S with weight := up S.weight i x } ∧ FrL P w (w.setCell ⟨ab, 4, none⟩ (.int .i64 x)) D { D with wt := up D.wt i x } := by
  subst ha
  refine h.setA i hi 4 (by decide) _ { D with wt := up D.wt i x } _ rfl rfl rfl ?_ ?_ ?_ ?_
  · show Value.int .i64 (up D.wt i x i) = _; rw [up_self]
  · intro m hm hne
    match m with
    | 0 | 1 | 2 | 3 | 5 | 6 => rfl
    | 4 => exact absurd rfl hne
    | m + 7 => rfl
  · intro j hj hne
    cases j <;> first | rfl | exact fun _ _ => rfl | skip
    rename_i l
    have hl : l ≠ i := fun e => hne (by rw [e])
    intro m hm
    match m with
    | 0 | 1 | 2 | 3 | 5 | 6 => rfl
    | 4 => show Value.int .i64 (up D.wt i x l) = Value.int .i64 (D.wt l); rw [up_ne _ _ _ _ hl]
    | m + 7 => rfl
  · intro l hl hs
    have := h.sw l hl hs
    refine ⟨this.1, ?_⟩
    show up D.wt i x l = up S.weight i x l
    unfold up
    split
    · rfl
    · exact this.2
theorem Led.gG {P : LPar} {w0 w : World} {D : LDyn} {S : St} (h : Led P w0 w D S) {g : Nat} (hg : D.blk .g = g) (k : Nat) (hk : k < 9) : w.cell? ⟨g, k, none⟩ = some (gJ P D S k) := by subst hg; exact h.g k hk
theorem Led.aG {P : LPar} {w0 w : World} {D : LDyn} {S : St} (h : Led P w0 w D S) {i : Nat} (hi : i < P.n) {ab : Nat} (ha : D.blk (.a i) = ab) (f : Nat) (hf : f < 8) : w.cell? ⟨ab, f, none⟩ = some (aJ D S i f) := by subst ha; exact h.a i hi f hf
theorem Led.FnA {P : LPar} {w0 w : World} {D : LDyn} {S : St} (h : Led P w0 w D S) {i : Nat} (hi : i < P.n) {ab : Nat} (ha : D.blk (.a i) = ab) : Fn w ab 100 8 (aJ D S i) := by subst ha; exact h.at_ (.a i) hi
theorem Led.thawAG {P : LPar} {w0 w : World} {D : LDyn} {S : St} (h : Led P w0 w D S) {i : Nat} (hi : i < P.n) {ab : Nat} (ha : D.blk (.a i) = ab) (k : Nat) : w.frozen? ⟨ab, k, none⟩ = false := by subst ha; exact h.thawA i hi k
set_option maxHeartbeats 16000000 in
set_option maxRecDepth 100000 in
theorem goOn_started (P : LPar) (w0 w : World) (D : LDyn) (S SB : St) (T : List (List (List S63))) (i : Nat) (h : Led P w0 w D S) (hP : PrgL P w0 T) (hi : i < P.n) (hn : P.n ≤ 1000) (hnc : P.nc ≤ 1000) (hl : S.events.length ≤ 90000) (hman : 1 ≤ P.man ∧ P.man ≤ 4)
    (hst : S.started i = true) (hSB : SB = if S.begun i = true then S else begin_ S i) (G : Good P.n T SB) (ok : OpsOK P.n P.nc T) (htx : SB.tx i < ((thr T i).length : Int)) (hbg : SB.begun i = true) (hbS : S.begun i = true → S.started i = true) :
    Calls Try.prog 44 #[.pointer (some ⟨D.blk .g, 0, none⟩), .int .i64 (i : Int)] w fun e w' => e = .returned (.tuple #[]) ∧ ∃ D', KeepD D D' ∧ Led P w0 w' D' (step1 P.man P.nc T { SB with goes := inc S.goes } i) ∧ FrL P w w' D D' := by
  have hin := eq_true (show (i : Int) < (P.n : Int) by omega)
  have g6 := h.g 6 (by decide); have g7 := h.g 7 (by decide)
  have pi := h.p i hi
  have a5 := h.a i hi 5 (by decide)
  simp only [gJ, aJ, hst] at g6 g7 a5
  have hL : Led P w0 w D SB := by
    rw [hSB]
    rcases hb : S.begun i with _ | _
    · rw [if_neg (by decide)]; exact h.begin1 i hi hb hst
    · rw [if_pos rfl]; exact h
  have hgo := hL.setGoes (inc S.goes)
  have f7 := h.thawG 7
  obtain ⟨D1, W1, hD1, hW1, HL, KL, KD⟩ : ∃ D1 W1, D = D1 ∧ (w.setCell ⟨D.blk .g, 7, none⟩ (.int .i64 (inc S.goes))) = W1 ∧ Hid (Led P w0 W1 D1 { SB with goes := inc S.goes }) ∧ Hid (FrL P w W1 D D1) ∧ Hid (KeepD D D1) := ⟨D, _, rfl, rfl, Lib.hid hgo.1, Lib.hid hgo.2, Lib.hid (KeepD.refl D)⟩
  have hev : SB.events = S.events := by rw [hSB]; split <;> rfl
  have hl1 : SB.events.length ≤ 90000 := by rw [hev]; exact hl
  have p7 : IntKind.wrap .i64 (S.goes + 1) = inc S.goes := by rw [i64_w]
  obtain ⟨S1, hS1⟩ : ∃ S1, { SB with goes := inc S.goes } = S1 := ⟨_, rfl⟩
  rw [hS1] at HL ⊢
  have G1 : Good P.n T S1 := by rw [← hS1]; exact ⟨G.own, G.tx, G.at_, G.st, G.rd, G.vr, G.done, G.cr, G.kr⟩
  have hl1 : S1.events.length ≤ 90000 := by rw [← hS1]; exact hl1
  have htx1 : S1.tx i < ((thr T i).length : Int) := by rw [← hS1]; exact htx
  have hb1 : S1.begun i = true := by rw [← hS1]; exact hbg
  have GG := Lib.hid G1; have OK := Lib.hid ok; have HP := Lib.hid hP
  obtain ⟨wR, c0, hrg, hRng, hBR, hszR⟩ := Mp.range (P := Try.prog) (HL.out.s i hi) Try.underlying98
  have s6 := HL.out.a i hi 6 (by decide)
  simp only [aJ] at s6
  obtain ⟨g, hg⟩ : ∃ g, D.blk .g = g := ⟨_, rfl⟩
  obtain ⟨ab, hab⟩ : ∃ ab, D.blk (.a i) = ab := ⟨_, rfl⟩
  have HG := Lib.hid (show D1.blk .g = g from KD.out.1.trans hg)
  have HA := Lib.hid (show D1.blk (.a i) = ab from (KD.out.2 i).trans hab)
  rw [HA.out] at s6
  have hszW : W1.heap.size = w.heap.size := by rw [← hW1]; simp [World.setCell]
  rw [hszW] at hrg hRng hszR
  rw [← hW1] at hrg s6
  obtain ⟨bs, hbs⟩ : ∃ bs, D1.blk (.s i) = bs := ⟨_, rfl⟩
  have HBS := Lib.hid hbs
  rw [hbs] at hrg hRng s6
  have hLR := HL.out.step hBR
  have hkr : W1.heap.size ≤ w.heap.size := Nat.le_of_eq hszW
  have HLR := Lib.hid hLR
  have HOR := Lib.hid (show OutL P D1 w.heap.size from HL.out.fresh _ hkr)
  have KLR := Lib.hid (KL.out.trans (FrL.below D1 hBR))
  have HRg := Lib.hid hRng
  have hbse : w0.heap.size ≤ w.heap.size := h.below.size
  simp only [hg, hab] at pi g6 g7 f7 hrg s6 a5
  rw [hg]
  have HD1 := Lib.hid hD1
  clear hL hgo h G G1 ok hP hl htx hbg hbS hSB hev hS1 hD1 hW1 hRng hLR hg hab hbs HL KL hBR hszR hszW hkr hst
  go_enter Try.func44, Try.ntmps44
  go_wp2_with fail
  go_loopw [] (fun wr => ∃ left cnt, Rng wr bs w.heap.size (seenF P.nc S1 i) left cnt ∧ Led P w0 wr D1 S1 ∧ FrL P w wr D D1 ∧ ∀ k v, seenF P.nc S1 i k = some v → left k = false → v = .int .i64 (S1.vers k.toNat)) (fun wr => rngLeft wr bs w.heap.size)
  case atStart => exact ⟨_, _, HRg.out, HLR.out, KLR.out, fun k v h1 h2 => by simp [h1] at h2⟩
  case round =>
    obtain ⟨left, cnt, hRn, hLd, hFr, hno⟩ := hrel
    clear HRg HLR KLR g6 g7 f7 hrg s6 a5 pi
    rcases hRn.next (P := Try.prog) 0 with ⟨h0, hall, hrun⟩ | ⟨k, v, w2, cnt2, hlk, hfk, hrun, hRn2, hlt2, hsz2, hw2, hgr2, hen⟩
    · have hnx : ∀ ty, (Instr.next (.pointer (some ⟨w.heap.size, 0, none⟩)) false ty).run Try.prog wr = _ := fun _ => hrun
      have hconf : ¬ conf S1 P.nc i = true := by
        unfold conf
        rw [List.any_eq_true]
        rintro ⟨c, hc, he⟩
        have hc' := List.mem_range.1 hc
        rw [Bool.and_eq_true, decide_eq_true_eq] at he
        have hs : seenF P.nc S1 i (c : Int) = some (.int .i64 (S1.read i c)) := by
          unfold seenF
          rw [Int.toNat_natCast, if_pos ⟨hb1, by omega, by omega, he.1⟩]
        have hv := hno _ _ hs (hall _)
        rw [Int.toNat_natCast] at hv
        injection hv with _ hv
        rw [hv] at he
        simp at he
      have HRn := Lib.hid hRn; have HLd := Lib.hid hLd; have HFr := Lib.hid hFr
      clear hRn hLd hFr hno hrun hall
      go_wp2_with fail
      obtain ⟨ad, cV, A0, c1, g2, l1, hle, hr⟩ := HLd.out.thr HP.out i hi
      rw [HG.out] at g2
      obtain ⟨ad5, A5, c5, rfl, l5, le5, hr5⟩ := at_L5 hr (S1.tx i) (GG.out.tx i).1 htx1
      have eO : rd_L5 (Tx.thr T i) (S1.tx i) = opsOf T S1 i := rfl
      rw [eO] at l5 le5 hr5
      have a0 := HLd.out.aG hi HA.out 0 (by decide)
      have a2 := HLd.out.aG hi HA.out 2 (by decide)
      have eA : opA S1 i = S1.at_ i := by unfold opA; rw [if_pos hb1]
      simp only [aJ, eA] at a0 a2
      obtain ⟨O, hO⟩ : ∃ O, opsOf T S1 i = O := ⟨_, rfl⟩
      have HO := Lib.hid hO
      have hat1 := GG.out.at_ i hb1
      have hops := OK.out.ops i _ (opsOf_mem S1 i (GG.out.tx i).1 htx1)
      rw [hO] at l5 le5 hr5 hat1 hops
      obtain ⟨m, hm⟩ : ∃ m, (Tx.thr T i).length = m := ⟨_, rfl⟩
      rw [hm] at l1 htx1
      have z1 := eq_true (show (0 : Int) ≤ S1.tx i from (GG.out.tx i).1)
      have z2 := eq_true (show S1.tx i < (m : Int) from htx1)
      obtain ⟨mo, hmo⟩ : ∃ mo, O.length = mo := ⟨_, rfl⟩
      have HMO := Lib.hid hmo
      rw [hmo] at l5 hat1
      clear hle hr eO hm hO
      go_quiet (fail)
      obtain ⟨E, hE⟩ : ∃ E, wr.drewN nq = E := ⟨_, rfl⟩
      rw [hE]
      have HE := Lib.hid (show Led P w0 E D1 S1 by rw [← hE]; exact HLd.out.step (pw_below_drewN (Below.refl _ _) _))
      have KE := Lib.hid (show FrL P w E D D1 by rw [← hE]; exact HFr.out.trans (FrL.below D1 (pw_below_drewN (Below.refl _ _) _)))
      have a2 := HE.out.aG hi HA.out 2 (by decide)
      simp only [aJ, eA] at a2
      have hr5E := Kd.C_below hr5 (show Below wr.heap.size wr E by rw [← hE]; exact pw_below_drewN (Below.refl _ _) _)
      have HR5 := Lib.hid hr5E
      have hszE : w.heap.size ≤ E.heap.size := KE.out.1
      clear hE HLd HFr HRn g2 l1 l5 a0 hr5 hr5E z1 z2 hnx
      by_cases hcm : S1.at_ i = (mo : Int)
      · have qc : decide (S1.at_ i ≥ (mo : Int)) = true := decide_eq_true (by omega)
        have hres : step1 P.man P.nc T S1 i = commit S1 i := by unfold step1; rw [if_neg hconf, if_pos (by rw [HO.out, HMO.out]; exact hcm)]
        have HRES := Lib.hid hres
        obtain ⟨wK, ck, hrk, hRk, hBk, hszk⟩ := Mp.range (P := Try.prog) (HE.out.k i hi) Try.underlying98
        have a7 := HE.out.aG hi HA.out 7 (by decide)
        simp only [aJ] at a7
        obtain ⟨bk, hbk⟩ : ∃ bk, D1.blk (.k i) = bk := ⟨_, rfl⟩
        have HBK := Lib.hid hbk
        rw [hbk] at hrk hRk a7
        have HRk := Lib.hid hRk
        have HLk := Lib.hid (HE.out.step hBk)
        have HOk := Lib.hid (show OutL P D1 E.heap.size from HE.out.fresh _ (Nat.le_refl _))
        have KLk := Lib.hid (KE.out.trans (FrL.below D1 hBk))
        have hbE : w0.heap.size ≤ E.heap.size := HE.out.below.size
        clear hbk hRk hBk hres hops hat1 hcm HR5 hconf
        go_wp2_with fail
        go_loopw [] (fun wr => ∃ left cnt, Rng wr bk E.heap.size (keptF P.nc S1 i) left cnt ∧ Led P w0 wr D1 (cmI P.nc S1 i left left) ∧ FrL P w wr D D1) (fun wr => rngLeft wr bk E.heap.size)
        case atStart => exact ⟨_, _, HRk.out, by rw [cmI_start]; exact HLk.out, KLk.out⟩
        case round =>
          obtain ⟨left, cnt, hRn, hLd, hFr⟩ := hrel
          clear HRk HLk KLk a2 a7 qc hrk
          rcases hRn.next (P := Try.prog) 0 with ⟨h0, hall, hrun⟩ | ⟨k, v, w2, cnt2, hlk, hfk, hrun, hRn2, hlt2, hsz2, hw2, hgr2, hen⟩
          · have hnx : ∀ ty, (Instr.next (.pointer (some ⟨E.heap.size, 0, none⟩)) false ty).run Try.prog wr = _ := fun _ => hrun
            have eL : left = fun _ => false := funext hall
            rw [eL] at hLd
            have HLd := Lib.hid (show Led P w0 wr D1 (cmZ P.nc S1 i) from hLd); have HFr := Lib.hid hFr
            clear hRn hLd hFr hrun hall eL
            go_wp2_with fail
            refine (freeLG P w0 _ D1 (cmZ P.nc S1 i) i g HG.out HLd.out hnc).mono ?_
            rintro e w3 ⟨rfl, h3, k3⟩
            go_wp2_with fail
            refine (sayLG P w0 _ D1 (free (cmZ P.nc S1 i) i) i 6 0 0 g HG.out h3 hi hn (show S1.events.length ≤ 100000 by omega)).mono ?_
            rintro e w4 ⟨rfl, V, h4, k4⟩
            have b0 := h4.aG hi (ab := ab) HA.out 0 (by decide); have b1 := h4.aG hi (ab := ab) HA.out 1 (by decide); have b5 := h4.aG hi (ab := ab) HA.out 5 (by decide)
            simp only [aJ] at b0 b1 b5
            have zt := h4.thawAG hi (ab := ab) HA.out
            have h5 := h4.fin3 i hi (inc (S1.tx i))
            have pt : IntKind.wrap .i64 ((event (free (cmZ P.nc S1 i) i) i 6 0 0).tx i + 1) = inc (S1.tx i) := by rw [i64_w]; rfl
            rw [show ({ D1 with V := V } : LDyn).blk (.a i) = ab from HA.out] at h5
            have H5 := Lib.hid h5
            have K4 := Lib.hid ((HFr.out.trans k3).trans k4)
            clear h3 k3 h4 k4 h5
            go_wp2_with fail
            refine (againC _ _ _ (H5.out.1.FnA hi (ab := ab) HA.out)).mono ?_
            rintro e w6 ⟨rfl, ha⟩
            obtain ⟨D6, kd6, h6, k6⟩ := H5.out.1.again i hi (by rw [show ({ D1 with V := V } : LDyn).blk (.a i) = ab from HA.out]; exact ha)
            go_wp2_with fail
            (try simp only [Exit.inBlock, Exit.then])
            refine bodyPost_ret (results_none rfl _ _ _) rfl ?_
            rw [HRES.out]
            exact ⟨rfl, D6, (KD.out.trans ⟨rfl, fun _ => rfl⟩).trans kd6, cm_same P w0 w6 D6 S1 i hb1 h6, (K4.out.trans H5.out.2).trans k6⟩
          · obtain ⟨c, rfl, hcn, hwr, rfl⟩ : ∃ c : Nat, k = (c : Int) ∧ c < P.nc ∧ S1.wrote i c = true ∧ v = .int .i64 (S1.kept i c) := by
              unfold keptF at hfk
              split at hfk
              · rename_i hh
                refine ⟨k.toNat, by omega, by omega, hh.2.2.2, ?_⟩
                injection hfk with hfk
                exact hfk.symm
              · cases hfk
            have hnx : ∀ ty, (Instr.next (.pointer (some ⟨E.heap.size, 0, none⟩)) false ty).run Try.prog wr = _ := fun _ => hrun
            have hL2 : Led P w0 w2 D1 (cmI P.nc S1 i left left) := hLd.other HOk.out (Nat.le_of_eq hsz2.symm) hw2 (hLd.below.grown hgr2 hLd.below.size (fun k hk => by injection hk with hk; rw [← hk]; exact hbE))
            have hF2 : FrL P w w2 D D1 := hFr.other hszE (Nat.le_of_eq hsz2.symm) hw2
            have hcc := eq_true (show (c : Int) < (P.nc : Int) by omega)
            have hks : (keptF P.nc S1 i (c : Int)).isSome = true := by rw [hfk]; rfl
            obtain ⟨left2, hl2⟩ : ∃ left2, (fun x => left x && !(x == (c : Int))) = left2 := ⟨_, rfl⟩
            rw [hl2] at hRn2
            have hlc : left2 (c : Int) = false := by rw [← hl2]; simp
            have hlo : ∀ m : Nat, m ≠ c → left2 (m : Int) = left (m : Int) := by
              intro m hm
              rw [← hl2]
              have h1 : ¬ ((m : Int) = (c : Int)) := by omega
              simp [h1]
            have g3 := hL2.gG HG.out 3 (by decide)
            simp only [gJ] at g3
            have ccl := hL2.c c hcn
            have zc := hL2.thawC c
            have h3 := hL2.setC c hcn (S1.kept i c) (cmI P.nc S1 i left2 left).cells (by show (if _ ∧ _ then _ else _) = _; rw [if_pos ⟨hks, hlc⟩]) (fun m hm hne => by show (if _ ∧ left2 (m : Int) = false then _ else _) = (if _ ∧ left (m : Int) = false then _ else _); rw [hlo m hne])
            have h3' : Led P w0 (w2.setCell ⟨D1.blk .c, c, none⟩ (.int .i64 (S1.kept i c))) D1 (cmI P.nc S1 i left2 left) := h3.1
            have g4 := h3'.gG HG.out 4 (by decide)
            simp only [gJ] at g4
            have vcl := h3'.v c hcn
            have ev : (cmI P.nc S1 i left2 left).vers c = S1.vers c := by show (if _ ∧ left (c : Int) = false then _ else _) = _; rw [if_neg (fun hh => by rw [hlk] at hh; exact absurd hh.2 (by decide))]
            rw [ev] at vcl
            have zv := h3'.thawV c
            have pv : IntKind.wrap .i64 (S1.vers c + 1) = inc (S1.vers c) := by rw [i64_w]
            have h4 := h3'.setV c hcn (inc (S1.vers c)) (cmI P.nc S1 i left2 left2).vers (by show (if _ ∧ _ then _ else _) = _; rw [if_pos ⟨hks, hlc⟩]) (fun m hm hne => by show (if _ ∧ left2 (m : Int) = false then _ else _) = (if _ ∧ left (m : Int) = false then _ else _); rw [hlo m hne])
            have H4 := Lib.hid (show Led P w0 ((w2.setCell ⟨D1.blk .c, c, none⟩ (.int .i64 (S1.kept i c))).setCell ⟨D1.blk .v, c, none⟩ (.int .i64 (inc (S1.vers c)))) D1 (cmI P.nc S1 i left2 left2) from h4.1)
            have K4 := Lib.hid ((hF2.trans h3.2).trans h4.2)
            have nbc : bk ≠ D1.blk .c := by rw [← HBK.out]; exact hL2.ne (j := .k i) (l := .c) hi trivial (by intro e; cases e)
            have nbv : bk ≠ D1.blk .v := by rw [← HBK.out]; exact hL2.ne (j := .k i) (l := .v) hi trivial (by intro e; cases e)
            have nec : E.heap.size ≠ D1.blk .c := HOk.out.1 .c trivial
            have nev : E.heap.size ≠ D1.blk .v := HOk.out.1 .v trivial
            have HR4 := Lib.hid (show Rng ((w2.setCell ⟨D1.blk .c, c, none⟩ (.int .i64 (S1.kept i c))).setCell ⟨D1.blk .v, c, none⟩ (.int .i64 (inc (S1.vers c)))) bk E.heap.size (keptF P.nc S1 i) left2 cnt2 from
              hRn2.kept ((Below.heap_setCell _ _ _ _ nbv).trans (Below.heap_setCell _ _ _ _ nbc)) ((Below.heap_setCell _ _ _ _ nev).trans (Below.heap_setCell _ _ _ _ nec)))
            have HRn := Lib.hid hRn
            clear hL2 hF2 hRn2 hRn hLd hFr hrun hw2 hgr2 hfk h3 h3' h4 ev hl2 hlc hlo hks nbc nbv nec nev hlk hwr
            go_wp2_with fail
            refine ⟨⟨left2, cnt2, HR4.out, H4.out, K4.out⟩, ?_⟩
            rw [HR4.out.left_eq, HRn.out.left_eq]
            exact hlt2
      · skip
        have qc : decide (S1.at_ i ≥ (mo : Int)) = false := decide_eq_false (by omega)
        have hat2 : S1.at_ i < (mo : Int) := by omega
        have hr5 := HR5.out
        obtain ⟨ad6, e6, m0, m1, m2⟩ := at_T63 hr5 (S1.at_ i) hat1.1 (by rw [HMO.out]; exact hat2)
        subst e6
        have hX : rd_T63 O (S1.at_ i) = O.getD (S1.at_ i).toNat z63 := rfl
        rw [hX] at m0 m1 m2
        have hmem := getD_mem O (S1.at_ i).toNat z63 (by rw [HMO.out]; omega)
        have hxo := hops.2 _ hmem
        have hstep : step1 P.man P.nc T S1 i = (if (O.getD (S1.at_ i).toNat z63).f0 = 1 then act S1 i (O.getD (S1.at_ i).toNat z63) else if (own P.man S1 i (O.getD (S1.at_ i).toNat z63).f1.toNat).1 = true then act (own P.man S1 i (O.getD (S1.at_ i).toNat z63).f1.toNat).2 i (O.getD (S1.at_ i).toNat z63) else (own P.man S1 i (O.getD (S1.at_ i).toNat z63).f1.toNat).2) := by
          unfold step1; rw [if_neg hconf, HO.out, if_neg (by rw [HMO.out]; exact hcm)]
        obtain ⟨X, hXX⟩ : ∃ X, O.getD (S1.at_ i).toNat z63 = X := ⟨_, rfl⟩
        rw [hXX] at m0 m1 m2 hxo hstep
        obtain ⟨f0, f1, f2⟩ := X
        simp only at m0 m1 m2 hxo hstep
        obtain ⟨hf0, hf1, hf1n, hf2, hf2r⟩ := hxo
        obtain ⟨c, rfl⟩ : ∃ c : Nat, f1 = (c : Int) := ⟨f1.toNat, by omega⟩
        rw [Int.toNat_natCast] at hstep
        have hcc : c < P.nc := by omega
        have z3 := eq_true (show (0 : Int) ≤ S1.at_ i from hat1.1)
        have z4 := eq_true (show S1.at_ i < (mo : Int) from hat2)
        have HST := Lib.hid hstep
        have hs1 : S1.started i = true := GG.out.st i hb1
        have hown := GG.out.owned P.man i c hi hb1
        have HOW := Lib.hid hown
        have hoo : S1.owners c = -1 ∨ ∃ o : Nat, o < P.n ∧ S1.owners c = (o : Int) ∧ S1.started o = true := (GG.out.own c).imp id (fun ⟨o, a, b, d⟩ => ⟨o, a, b, GG.out.st o d⟩)
        have HOO := Lib.hid hoo
        clear hX hXX hmem hr5 HR5 hstep hops hcm hown hoo
        rcases hf0 with rfl | rfl | rfl
        · obtain rfl : f2 = 0 := hf2 rfl
          have HW := Lib.hid (HE.out.step (below_alloc (Below.refl E.heap.size E) (.cells #[.int .i64 1, .int .i64 (c : Int), .int .i64 0] 63)))
          have KW := Lib.hid (KE.out.trans (FrL.below D1 (below_alloc (Below.refl E.heap.size E) (.cells #[.int .i64 1, .int .i64 (c : Int), .int .i64 0] 63))))
          have LB := Lib.hid (show Fn (E.alloc (.cells #[.int .i64 1, .int .i64 (c : Int), .int .i64 0] 63)) E.heap.size 63 3 (oR 1 (c : Int) 0) from Fn.new E _ 63 3 _ (by simp) (fun k hk => by match k with | 0 | 1 | 2 => rfl | k + 3 => omega))
          have OT := Lib.hid (show OutL P D1 E.heap.size from HE.out.fresh _ (Nat.le_refl _))
          have lk := LB.out.cell 0 (by decide); have lk1 := LB.out.cell 1 (by decide); have lk2 := LB.out.cell 2 (by decide)
          simp only [oR] at lk lk1 lk2
          clear lk lk1 lk2
          go_wp2_with fail
          refine (readLG P w0 _ D1 S1 i c g ab HG.out HA.out HW.out hi hb1 hcc (GG.out.vr c)).mono ?_
          rintro e w5 ⟨rfl, h5, k5⟩
          have sm := see_same S1 i c
          have gs := GG.out.see i c
          have L6 := Lib.hid (LB.out.move (k5.2 _ LB.out.lt OT.out).2)
          have O6 := Lib.hid (k5.2 _ LB.out.lt OT.out).1
          have H6 := Lib.hid h5
          have K6 := Lib.hid (KW.out.trans k5)
          have KD6 := Lib.hid (KeepD.refl D1)
          obtain ⟨S5, hS5⟩ : ∃ S5, (Tx.see S1 i c).2 = S5 := ⟨_, rfl⟩
          obtain ⟨sv, hsv⟩ : ∃ sv, (Tx.see S1 i c).1 = sv := ⟨_, rfl⟩
          rw [hS5] at H6 sm gs
          rw [hsv] at gs ⊢
          have hb6 : S5.begun i = true := by rw [sm.1]; exact hb1
          have hs6 : S5.started i = true := gs.1.st i hb6
          have hl6 : S5.events.length ≤ 90000 := by rw [sm.2.2.2.2.1]; exact hl1
          have hact : act S1 i ⟨1, (c : Int), 0⟩ = adv (event S5 i 1 (c : Int) sv) i := by unfold act; simp only [Int.toNat_natCast, if_true]; rw [hS5, hsv, Int.zero_add, gs.2]
          have HACT := Lib.hid hact
          clear h5 k5 sm gs hS5 hsv hact HW KW LB OT
          have HA6 := Lib.hid (show (D1).blk (.a i) = ab from (KD6.out.2 i).trans HA.out)
          have HG6 := Lib.hid (show (D1).blk .g = g from KD6.out.1.trans HG.out)
          have b2 := H6.out.aG hi HA6.out 2 (by decide); have b4 := H6.out.aG hi HA6.out 4 (by decide)
          have zt := H6.out.thawAG hi HA6.out
          have eA6 : opA S5 i = S5.at_ i := by unfold opA; rw [if_pos hb6]
          simp only [aJ, eA6] at b2 b4
          rw [(H6.out.sw i hi hs6).2] at b4
          have h7 := H6.out.setOp i hi hb6 HA6.out (inc (S5.at_ i))
          have h8 := h7.1.setWt i hi HA6.out (inc (S5.weight i))
          have nlb : E.heap.size ≠ ab := by rw [← HA6.out]; exact O6.out.1 (.a i) hi
          have L8 := (L6.out.far (p := ⟨ab, 2, none⟩) nlb (.int .i64 (inc (S5.at_ i)))).far (p := ⟨ab, 4, none⟩) nlb (.int .i64 (inc (S5.weight i)))
          have y0 := L8.cell 0 (by decide); have y1 := L8.cell 1 (by decide)
          simp only [oR] at y0 y1
          have w1_ : IntKind.wrap .i64 (S5.at_ i + 1) = inc (S5.at_ i) := by rw [i64_w]
          have w2_ : IntKind.wrap .i64 (S5.weight i + 1) = inc (S5.weight i) := by rw [i64_w]
          have H8 := Lib.hid (show Led P w0 _ { D1 with wt := up (D1).wt i (inc (S5.weight i)) } (adv S5 i) from h8.1)
          have K8 := Lib.hid ((K6.out.trans h7.2).trans h8.2)
          clear h7 h8 L8 nlb
          go_wp2_with fail
          refine (sayLG P w0 _ { D1 with wt := up (D1).wt i (inc (S5.weight i)) } (adv S5 i) i 1 (c : Int) sv g HG6.out H8.out hi hn (show S5.events.length ≤ 100000 by omega)).mono ?_
          rintro e w9 ⟨rfl, V9, h9, k9⟩
          have H9 := Lib.hid h9
          have K9 := Lib.hid (K8.out.trans k9)
          clear h9 k9
          go_wp2_with fail
          go_end0
          rw [HST.out]
          rw [if_pos trivial, HACT.out]
          exact ⟨rfl, { D1 with wt := up D1.wt i (inc (S5.weight i)), V := V9 }, KD.out.trans ⟨rfl, fun _ => rfl⟩, H9.out, K9.out⟩
        · have HW := Lib.hid (HE.out.step (below_alloc (Below.refl E.heap.size E) (.cells #[.int .i64 2, .int .i64 (c : Int), .int .i64 f2] 63)))
          have KW := Lib.hid (KE.out.trans (FrL.below D1 (below_alloc (Below.refl E.heap.size E) (.cells #[.int .i64 2, .int .i64 (c : Int), .int .i64 f2] 63))))
          have LB := Lib.hid (show Fn (E.alloc (.cells #[.int .i64 2, .int .i64 (c : Int), .int .i64 f2] 63)) E.heap.size 63 3 (oR 2 (c : Int) f2) from Fn.new E _ 63 3 _ (by simp) (fun k hk => by match k with | 0 | 1 | 2 => rfl | k + 3 => omega))
          have OT := Lib.hid (show OutL P D1 E.heap.size from HE.out.fresh _ (Nat.le_refl _))
          have lk := LB.out.cell 0 (by decide); have lk1 := LB.out.cell 1 (by decide); have lk2 := LB.out.cell 2 (by decide)
          simp only [oR] at lk lk1 lk2
          clear lk lk1 lk2
          go_wp2_with fail
          refine (ownLG P w0 _ D1 S1 i c g HG.out HW.out hi hcc hn hnc (by omega) hman hs1 HOO.out).mono ?_
          rintro e w5 ⟨rfl, D5, kd5, h5, k5⟩
          have L5 := Lib.hid (LB.out.move (k5.2 _ LB.out.lt OT.out).2)
          have O5 := Lib.hid (k5.2 _ LB.out.lt OT.out).1
          have H5 := Lib.hid h5
          have K5 := Lib.hid (KW.out.trans k5)
          have KD5 := Lib.hid kd5
          clear h5 k5 kd5 HW KW LB OT
          obtain ⟨r5, hr5⟩ : ∃ r5, (own P.man S1 i c).1 = r5 := ⟨_, rfl⟩
          obtain ⟨S5, hS5⟩ : ∃ S5, (own P.man S1 i c).2 = S5 := ⟨_, rfl⟩
          have OW := HOW.out
          rw [hr5, hS5] at OW HST
          rw [hS5] at H5
          rw [hr5]
          have x0 := L5.out.cell 0 (by decide); have x1 := L5.out.cell 1 (by decide); have x2 := L5.out.cell 2 (by decide)
          simp only [oR] at x0 x1 x2
          clear hr5 hS5 HOW
          cases r5
          · go_wp2_with fail
            (try simp only [Exit.inBlock, Exit.then])
            refine bodyPost_ret (results_none rfl _ _ _) rfl ?_
            rw [HST.out, if_neg (by decide), if_neg (by decide)]
            exact ⟨rfl, D5, KD.out.trans KD5.out, H5.out, K5.out⟩
          · have hb5 : S5.begun i = true := OW.2.1 rfl
            have hg5 := OW.1
            have hl5 : S5.events.length ≤ 90001 := by have := OW.2.2.2.2.2.1; omega
            have HG5 := Lib.hid (KD5.out.1.trans HG.out)
            have HA5 := Lib.hid ((KD5.out.2 i).trans HA.out)
            have HX := Lib.hid H5.out; have LX := Lib.hid L5.out; have KX := Lib.hid K5.out; have OX := Lib.hid O5.out
            have hbx := hb5
            have hgx := hg5
            have hlx : S5.events.length ≤ 90001 := hl5
            have hact : act S5 i ⟨2, (c : Int), f2⟩ = adv (event (put_ S5 i c f2) i 2 (c : Int) f2) i := by unfold act; simp only [Int.toNat_natCast]; rw [if_neg (by decide), if_pos trivial]
            have HACT := Lib.hid hact
            clear hact
            obtain ⟨nk, hmk⟩ := HX.out.k i hi
            obtain ⟨w7, hup, hM7, hg7⟩ := (IM.MapIs.drew hmk).update (P := Try.prog) Try.underlying98 Try.underlying3 (c : Int) (.int .i64 f2)
            have hdd := HX.out.step (below_drew1 (Below.refl w5.heap.size w5))
            have hp := hdd.putK i hi hbx c hcc f2 ⟨_, hM7⟩ hg7
            have q7 := HX.out.aG hi HA5.out 7 (by decide)
            simp only [aJ] at q7
            have q1 := LX.out.cell 1 (by decide); have q0 := LX.out.cell 0 (by decide); have q2 := LX.out.cell 2 (by decide)
            simp only [oR] at q1 q0 q2
            have kk := (FrL.below D5 (below_drew1 (Below.refl w5.heap.size w5)) : FrL P w5 w5.drew D5 D5).trans hp.2
            have L6 := Lib.hid (LX.out.move (kk.2 _ LX.out.lt OX.out).2)
            have O6 := Lib.hid (kk.2 _ LX.out.lt OX.out).1
            have H6 := Lib.hid hp.1
            have K6 := Lib.hid (KX.out.trans kk)
            have KD6 := Lib.hid KD5.out
            clear hM7 hg7 hdd hp hmk kk x0 x1 x2
            go_wp2_with fail
            refine start_ (n := 8) (S := fun w' => w'.cell? ⟨ab, 7, none⟩ = some (.map (some (D5.blk (.k i)))) ∧ w'.cell? ⟨E.heap.size, 1, none⟩ = some (.int .i64 (c : Int))) (ds := [7]) #[false, false, false, false, false, false, false, false] (by kernel_rfl) rfl rfl ⟨q7, q1⟩ (fun hHeld => ?_)
            refine pure_ (i := 0) (N := some 166) (v := ?_) (a' := ?_) #[true, false, false, false, false, false, false, false] rfl rfl (by kernel_rfl) (fun _ _ _ h => h) (Or.inl ⟨by rfl, ?_⟩) ?_ ?_
            rotate_left
            · intro w'
              go_simp
              with_reducible rfl
            rotate_left
            · simp only [Act.put, List.setIfInBounds_toArray, List.set_cons_zero, List.set_cons_succ, i64_w, i32_w]
              rfl
            refine pure_ (i := 1) (N := some 167) (v := ?_) (a' := ?_) #[true, true, false, false, false, false, false, false] rfl rfl (by kernel_rfl) (fun _ _ _ h => h) (Or.inl ⟨by rfl, ?_⟩) ?_ ?_
            rotate_left
            · intro w'
              go_simp
              with_reducible rfl
            rotate_left
            · simp only [Act.put, List.setIfInBounds_toArray, List.set_cons_zero, List.set_cons_succ, i64_w, i32_w]
              rfl
            refine pure_ (i := 2) (N := some 168) (v := ?_) (a' := ?_) #[true, true, true, false, false, false, false, false] rfl rfl (by kernel_rfl) (fun _ _ _ h => h) (Or.inl ⟨by rfl, ?_⟩) ?_ ?_
            rotate_left
            · intro w'
              go_simp
              with_reducible rfl
            rotate_left
            · simp only [Act.put, List.setIfInBounds_toArray, List.set_cons_zero, List.set_cons_succ, i64_w, i32_w]
              rfl
            refine pure_ (i := 4) (N := some 170) (v := ?_) (a' := ?_) #[true, true, true, false, true, false, false, false] rfl rfl (by kernel_rfl) (fun _ _ _ h => h) (Or.inl ⟨by rfl, ?_⟩) ?_ ?_
            rotate_left
            · intro w'
              go_simp
              with_reducible rfl
            rotate_left
            · simp only [Act.put, List.setIfInBounds_toArray, List.set_cons_zero, List.set_cons_succ, i64_w, i32_w]
              rfl
            refine pure_ (i := 6) (N := some 172) (v := ?_) (a' := ?_) #[true, true, true, false, true, false, true, false] rfl rfl (by kernel_rfl) (fun _ _ _ h => h) (Or.inl ⟨by rfl, ?_⟩) ?_ ?_
            rotate_left
            · intro w'
              go_simp
              with_reducible rfl
            rotate_left
            · simp only [Act.put, List.setIfInBounds_toArray, List.set_cons_zero, List.set_cons_succ, i64_w, i32_w]
              rfl
            refine take_ (i := 3) (N := some 169) (v := ?_) (a' := ?_) #[true, true, true, true, true, false, true, false] rfl rfl (by kernel_rfl) (fun _ _ _ h => h) (Or.inl ⟨by rfl, ?_⟩) hHeld ?_ ?_
            rotate_left
            · rintro w' ⟨s0, s1⟩
              go_simp
              with_reducible rfl
            rotate_left
            · simp only [Act.put, List.setIfInBounds_toArray, List.set_cons_zero, List.set_cons_succ, i64_w, i32_w]
              rfl
            refine take_ (i := 5) (N := some 171) (v := ?_) (a' := ?_) #[true, true, true, true, true, true, true, false] rfl rfl (by kernel_rfl) (fun _ _ _ h => h) (Or.inl ⟨by rfl, ?_⟩) hHeld ?_ ?_
            rotate_left
            · rintro w' ⟨s0, s1⟩
              go_simp
              with_reducible rfl
            rotate_left
            · simp only [Act.put, List.setIfInBounds_toArray, List.set_cons_zero, List.set_cons_succ, i64_w, i32_w]
              rfl
            refine last_ (i := 7) (N := none) #[true, true, true, true, true, true, true, true] rfl rfl (by kernel_rfl) (by decide) (fun K hK => ?_)
            refine skip_ (w1 := ?_) (by rfl) rfl ?_ ?_
            rotate_left
            · go_simp
              rfl
            refine hK.out _ _ ?_
            clear hK K
            refine done_ (by kernel_rfl) ?_
            clear q7 q1 q0 q2 hup
            obtain ⟨S7, hS7⟩ : ∃ S7, (put_ S5 i c f2) = S7 := ⟨_, rfl⟩
            rw [hS7] at H6 HACT
            have hb6 : S7.begun i = true := by rw [← hS7]; exact hbx
            have hs6 : S7.started i = true := by rw [← hS7]; exact hgx.st i hbx
            have hl6 : S7.events.length ≤ 90001 := by rw [← hS7]; exact hlx
            clear hS7
            have HA6 := Lib.hid (show (D5).blk (.a i) = ab from (KD6.out.2 i).trans HA.out)
            have HG6 := Lib.hid (show (D5).blk .g = g from KD6.out.1.trans HG.out)
            have b2 := H6.out.aG hi HA6.out 2 (by decide); have b4 := H6.out.aG hi HA6.out 4 (by decide)
            have zt := H6.out.thawAG hi HA6.out
            have eA6 : opA S7 i = S7.at_ i := by unfold opA; rw [if_pos hb6]
            simp only [aJ, eA6] at b2 b4
            rw [(H6.out.sw i hi hs6).2] at b4
            have h7 := H6.out.setOp i hi hb6 HA6.out (inc (S7.at_ i))
            have h8 := h7.1.setWt i hi HA6.out (inc (S7.weight i))
            have nlb : E.heap.size ≠ ab := by rw [← HA6.out]; exact O6.out.1 (.a i) hi
            have L8 := (L6.out.far (p := ⟨ab, 2, none⟩) nlb (.int .i64 (inc (S7.at_ i)))).far (p := ⟨ab, 4, none⟩) nlb (.int .i64 (inc (S7.weight i)))
            have y0 := L8.cell 0 (by decide); have y1 := L8.cell 1 (by decide)
            simp only [oR] at y0 y1
            have w1_ : IntKind.wrap .i64 (S7.at_ i + 1) = inc (S7.at_ i) := by rw [i64_w]
            have w2_ : IntKind.wrap .i64 (S7.weight i + 1) = inc (S7.weight i) := by rw [i64_w]
            have H8 := Lib.hid (show Led P w0 _ { D5 with wt := up (D5).wt i (inc (S7.weight i)) } (adv S7 i) from h8.1)
            have K8 := Lib.hid ((K6.out.trans h7.2).trans h8.2)
            clear h7 h8 L8 nlb
            go_wp2_with fail
            refine (sayLG P w0 _ { D5 with wt := up (D5).wt i (inc (S7.weight i)) } (adv S7 i) i 2 (c : Int) f2 g HG6.out H8.out hi hn (show S7.events.length ≤ 100000 by omega)).mono ?_
            rintro e w9 ⟨rfl, V9, h9, k9⟩
            have H9 := Lib.hid h9
            have K9 := Lib.hid (K8.out.trans k9)
            clear h9 k9
            go_wp2_with fail
            go_end0
            rw [HST.out]
            rw [if_neg (by decide), if_pos trivial, HACT.out]
            exact ⟨rfl, { D5 with wt := up D5.wt i (inc (S7.weight i)), V := V9 }, KD.out.trans (KD5.out.trans ⟨rfl, fun _ => rfl⟩), H9.out, K9.out⟩
        · have HW := Lib.hid (HE.out.step (below_alloc (Below.refl E.heap.size E) (.cells #[.int .i64 3, .int .i64 (c : Int), .int .i64 f2] 63)))
          have KW := Lib.hid (KE.out.trans (FrL.below D1 (below_alloc (Below.refl E.heap.size E) (.cells #[.int .i64 3, .int .i64 (c : Int), .int .i64 f2] 63))))
          have LB := Lib.hid (show Fn (E.alloc (.cells #[.int .i64 3, .int .i64 (c : Int), .int .i64 f2] 63)) E.heap.size 63 3 (oR 3 (c : Int) f2) from Fn.new E _ 63 3 _ (by simp) (fun k hk => by match k with | 0 | 1 | 2 => rfl | k + 3 => omega))
          have OT := Lib.hid (show OutL P D1 E.heap.size from HE.out.fresh _ (Nat.le_refl _))
          have lk := LB.out.cell 0 (by decide); have lk1 := LB.out.cell 1 (by decide); have lk2 := LB.out.cell 2 (by decide)
          simp only [oR] at lk lk1 lk2
          clear lk lk1 lk2
          go_wp2_with fail
          refine (ownLG P w0 _ D1 S1 i c g HG.out HW.out hi hcc hn hnc (by omega) hman hs1 HOO.out).mono ?_
          rintro e w5 ⟨rfl, D5, kd5, h5, k5⟩
          have L5 := Lib.hid (LB.out.move (k5.2 _ LB.out.lt OT.out).2)
          have O5 := Lib.hid (k5.2 _ LB.out.lt OT.out).1
          have H5 := Lib.hid h5
          have K5 := Lib.hid (KW.out.trans k5)
          have KD5 := Lib.hid kd5
          clear h5 k5 kd5 HW KW LB OT
          obtain ⟨r5, hr5⟩ : ∃ r5, (own P.man S1 i c).1 = r5 := ⟨_, rfl⟩
          obtain ⟨S5, hS5⟩ : ∃ S5, (own P.man S1 i c).2 = S5 := ⟨_, rfl⟩
          have OW := HOW.out
          rw [hr5, hS5] at OW HST
          rw [hS5] at H5
          rw [hr5]
          have x0 := L5.out.cell 0 (by decide); have x1 := L5.out.cell 1 (by decide); have x2 := L5.out.cell 2 (by decide)
          simp only [oR] at x0 x1 x2
          clear hr5 hS5 HOW
          cases r5
          · go_wp2_with fail
            (try simp only [Exit.inBlock, Exit.then])
            refine bodyPost_ret (results_none rfl _ _ _) rfl ?_
            rw [HST.out, if_neg (by decide), if_neg (by decide)]
            exact ⟨rfl, D5, KD.out.trans KD5.out, H5.out, K5.out⟩
          · have hb5 : S5.begun i = true := OW.2.1 rfl
            have hg5 := OW.1
            have hl5 : S5.events.length ≤ 90001 := by have := OW.2.2.2.2.2.1; omega
            have HG5 := Lib.hid (KD5.out.1.trans HG.out)
            have HA5 := Lib.hid ((KD5.out.2 i).trans HA.out)
            go_wp2_with fail
            refine (readLG P w0 _ D5 S5 i c g ab HG5.out HA5.out H5.out hi hb5 hcc (hg5.vr c)).mono ?_
            rintro e w6 ⟨rfl, h6, k6⟩
            have sm := see_same S5 i c
            have gs := hg5.see i c
            have LX := Lib.hid (L5.out.move (k6.2 _ L5.out.lt O5.out).2)
            have OX := Lib.hid (k6.2 _ L5.out.lt O5.out).1
            have HX := Lib.hid h6
            have KX := Lib.hid (K5.out.trans k6)
            obtain ⟨S6, hS6⟩ : ∃ S6, (Tx.see S5 i c).2 = S6 := ⟨_, rfl⟩
            obtain ⟨sv, hsv⟩ : ∃ sv, (Tx.see S5 i c).1 = sv := ⟨_, rfl⟩
            rw [hS6] at HX sm gs
            rw [hsv] at gs ⊢
            have hbx : S6.begun i = true := by rw [sm.1]; exact hb5
            have hgx := gs.1
            have hlx : S6.events.length ≤ 90001 := by rw [sm.2.2.2.2.1]; exact hl5
            have hact : act S5 i ⟨3, (c : Int), f2⟩ = adv (event (put_ S6 i c (wrap64 (f2 + sv))) i 3 (c : Int) (wrap64 (f2 + sv))) i := by unfold act; simp only [Int.toNat_natCast]; rw [if_neg (by decide), if_neg (by decide), hS6, hsv]
            clear h6 k6 sm gs hS6 hsv
            have HACT := Lib.hid hact
            clear hact
            obtain ⟨nk, hmk⟩ := HX.out.k i hi
            obtain ⟨w7, hup, hM7, hg7⟩ := (IM.MapIs.drew hmk).update (P := Try.prog) Try.underlying98 Try.underlying3 (c : Int) (.int .i64 (wrap64 (f2 + sv)))
            have hdd := HX.out.step (below_drew1 (Below.refl w6.heap.size w6))
            have hp := hdd.putK i hi hbx c hcc (wrap64 (f2 + sv)) ⟨_, hM7⟩ hg7
            have q7 := HX.out.aG hi HA5.out 7 (by decide)
            simp only [aJ] at q7
            have q1 := LX.out.cell 1 (by decide); have q0 := LX.out.cell 0 (by decide); have q2 := LX.out.cell 2 (by decide)
            simp only [oR] at q1 q0 q2
            have kk := (FrL.below D5 (below_drew1 (Below.refl w6.heap.size w6)) : FrL P w6 w6.drew D5 D5).trans hp.2
            have L6 := Lib.hid (LX.out.move (kk.2 _ LX.out.lt OX.out).2)
            have O6 := Lib.hid (kk.2 _ LX.out.lt OX.out).1
            have H6 := Lib.hid hp.1
            have K6 := Lib.hid (KX.out.trans kk)
            have KD6 := Lib.hid KD5.out
            clear hM7 hg7 hdd hp hmk kk x0 x1 x2
            go_wp2_with fail
            refine start_ (n := 8) (S := fun w' => w'.cell? ⟨ab, 7, none⟩ = some (.map (some (D5.blk (.k i)))) ∧ w'.cell? ⟨E.heap.size, 1, none⟩ = some (.int .i64 (c : Int))) (ds := [7]) #[false, false, false, false, false, false, false, false] (by kernel_rfl) rfl rfl ⟨q7, q1⟩ (fun hHeld => ?_)
            refine pure_ (i := 0) (N := some 182) (v := ?_) (a' := ?_) #[true, false, false, false, false, false, false, false] rfl rfl (by kernel_rfl) (fun _ _ _ h => h) (Or.inl ⟨by rfl, ?_⟩) ?_ ?_
            rotate_left
            · intro w'
              go_simp
              with_reducible rfl
            rotate_left
            · simp only [Act.put, List.setIfInBounds_toArray, List.set_cons_zero, List.set_cons_succ, i64_w, i32_w]
              rfl
            refine pure_ (i := 1) (N := some 183) (v := ?_) (a' := ?_) #[true, true, false, false, false, false, false, false] rfl rfl (by kernel_rfl) (fun _ _ _ h => h) (Or.inl ⟨by rfl, ?_⟩) ?_ ?_
            rotate_left
            · intro w'
              go_simp
              with_reducible rfl
            rotate_left
            · simp only [Act.put, List.setIfInBounds_toArray, List.set_cons_zero, List.set_cons_succ, i64_w, i32_w]
              rfl
            refine pure_ (i := 2) (N := some 184) (v := ?_) (a' := ?_) #[true, true, true, false, false, false, false, false] rfl rfl (by kernel_rfl) (fun _ _ _ h => h) (Or.inl ⟨by rfl, ?_⟩) ?_ ?_
            rotate_left
            · intro w'
              go_simp
              with_reducible rfl
            rotate_left
            · simp only [Act.put, List.setIfInBounds_toArray, List.set_cons_zero, List.set_cons_succ, i64_w, i32_w]
              rfl
            refine pure_ (i := 4) (N := some 186) (v := ?_) (a' := ?_) #[true, true, true, false, true, false, false, false] rfl rfl (by kernel_rfl) (fun _ _ _ h => h) (Or.inl ⟨by rfl, ?_⟩) ?_ ?_
            rotate_left
            · intro w'
              go_simp
              with_reducible rfl
            rotate_left
            · simp only [Act.put, List.setIfInBounds_toArray, List.set_cons_zero, List.set_cons_succ, i64_w, i32_w]
              rfl
            refine pure_ (i := 6) (N := some 188) (v := ?_) (a' := ?_) #[true, true, true, false, true, false, true, false] rfl rfl (by kernel_rfl) (fun _ _ _ h => h) (Or.inl ⟨by rfl, ?_⟩) ?_ ?_
            rotate_left
            · intro w'
              go_simp
              with_reducible rfl
            rotate_left
            · simp only [Act.put, List.setIfInBounds_toArray, List.set_cons_zero, List.set_cons_succ, i64_w, i32_w]
              rfl
            refine take_ (i := 3) (N := some 185) (v := ?_) (a' := ?_) #[true, true, true, true, true, false, true, false] rfl rfl (by kernel_rfl) (fun _ _ _ h => h) (Or.inl ⟨by rfl, ?_⟩) hHeld ?_ ?_
            rotate_left
            · rintro w' ⟨s0, s1⟩
              go_simp
              with_reducible rfl
            rotate_left
            · simp only [Act.put, List.setIfInBounds_toArray, List.set_cons_zero, List.set_cons_succ, i64_w, i32_w]
              rfl
            refine take_ (i := 5) (N := some 187) (v := ?_) (a' := ?_) #[true, true, true, true, true, true, true, false] rfl rfl (by kernel_rfl) (fun _ _ _ h => h) (Or.inl ⟨by rfl, ?_⟩) hHeld ?_ ?_
            rotate_left
            · rintro w' ⟨s0, s1⟩
              go_simp
              with_reducible rfl
            rotate_left
            · simp only [Act.put, List.setIfInBounds_toArray, List.set_cons_zero, List.set_cons_succ, i64_w, i32_w]
              rfl
            refine last_ (i := 7) (N := none) #[true, true, true, true, true, true, true, true] rfl rfl (by kernel_rfl) (by decide) (fun K hK => ?_)
            refine skip_ (w1 := ?_) (by rfl) rfl ?_ ?_
            rotate_left
            · go_simp
              rfl
            refine hK.out _ _ ?_
            clear hK K
            refine done_ (by kernel_rfl) ?_
            clear q7 q1 q0 q2 hup
            obtain ⟨S7, hS7⟩ : ∃ S7, (put_ S6 i c (wrap64 (f2 + sv))) = S7 := ⟨_, rfl⟩
            rw [hS7] at H6 HACT
            have hb6 : S7.begun i = true := by rw [← hS7]; exact hbx
            have hs6 : S7.started i = true := by rw [← hS7]; exact hgx.st i hbx
            have hl6 : S7.events.length ≤ 90001 := by rw [← hS7]; exact hlx
            clear hS7
            have HA6 := Lib.hid (show (D5).blk (.a i) = ab from (KD6.out.2 i).trans HA.out)
            have HG6 := Lib.hid (show (D5).blk .g = g from KD6.out.1.trans HG.out)
            have b2 := H6.out.aG hi HA6.out 2 (by decide); have b4 := H6.out.aG hi HA6.out 4 (by decide)
            have zt := H6.out.thawAG hi HA6.out
            have eA6 : opA S7 i = S7.at_ i := by unfold opA; rw [if_pos hb6]
            simp only [aJ, eA6] at b2 b4
            rw [(H6.out.sw i hi hs6).2] at b4
            have h7 := H6.out.setOp i hi hb6 HA6.out (inc (S7.at_ i))
            have h8 := h7.1.setWt i hi HA6.out (inc (S7.weight i))
            have nlb : E.heap.size ≠ ab := by rw [← HA6.out]; exact O6.out.1 (.a i) hi
            have L8 := (L6.out.far (p := ⟨ab, 2, none⟩) nlb (.int .i64 (inc (S7.at_ i)))).far (p := ⟨ab, 4, none⟩) nlb (.int .i64 (inc (S7.weight i)))
            have y0 := L8.cell 0 (by decide); have y1 := L8.cell 1 (by decide)
            simp only [oR] at y0 y1
            have w1_ : IntKind.wrap .i64 (S7.at_ i + 1) = inc (S7.at_ i) := by rw [i64_w]
            have w2_ : IntKind.wrap .i64 (S7.weight i + 1) = inc (S7.weight i) := by rw [i64_w]
            have H8 := Lib.hid (show Led P w0 _ { D5 with wt := up (D5).wt i (inc (S7.weight i)) } (adv S7 i) from h8.1)
            have K8 := Lib.hid ((K6.out.trans h7.2).trans h8.2)
            clear h7 h8 L8 nlb
            go_wp2_with fail
            refine (sayLG P w0 _ { D5 with wt := up (D5).wt i (inc (S7.weight i)) } (adv S7 i) i 3 (c : Int) (wrap64 (f2 + sv)) g HG6.out H8.out hi hn (show S7.events.length ≤ 100000 by omega)).mono ?_
            rintro e w9 ⟨rfl, V9, h9, k9⟩
            have H9 := Lib.hid h9
            have K9 := Lib.hid (K8.out.trans k9)
            clear h9 k9
            go_wp2_with fail
            go_end0
            rw [HST.out]
            rw [if_neg (by decide), if_pos trivial, HACT.out]
            exact ⟨rfl, { D5 with wt := up D5.wt i (inc (S7.weight i)), V := V9 }, KD.out.trans (KD5.out.trans ⟨rfl, fun _ => rfl⟩), H9.out, K9.out⟩
    · obtain ⟨c, rfl, hcn, hrd, rfl⟩ : ∃ c : Nat, k = (c : Int) ∧ c < P.nc ∧ 0 ≤ S1.read i c ∧ v = .int .i64 (S1.read i c) := by
        unfold seenF at hfk
        split at hfk
        · rename_i hh
          refine ⟨k.toNat, by omega, by omega, hh.2.2.2, ?_⟩
          injection hfk with hfk
          exact hfk.symm
        · cases hfk
      have hnx : ∀ ty, (Instr.next (.pointer (some ⟨w.heap.size, 0, none⟩)) false ty).run Try.prog wr = _ := fun _ => hrun
      have hL2 : Led P w0 w2 D1 S1 := hLd.other HOR.out (Nat.le_of_eq hsz2.symm) hw2 (hLd.below.grown hgr2 hLd.below.size (fun k hk => by injection hk with hk; rw [← hk]; exact hbse))
      have hF2 : FrL P w w2 D D1 := hFr.other (Nat.le_refl _) (Nat.le_of_eq hsz2.symm) hw2
      have g4 := hL2.gG HG.out 4 (by decide)
      simp only [gJ] at g4
      have v1 := hL2.v c hcn
      have hcc := eq_true (show (c : Int) < (P.nc : Int) by omega)
      have HL2 := Lib.hid hL2; have HF2 := Lib.hid hF2; have HRn2 := Lib.hid hRn2; have NO := Lib.hid hno; have HRn := Lib.hid hRn
      clear hL2 hF2 hRn2 hno hRn hLd hFr hrun hw2 hgr2 hfk
      rcases hq : (S1.vers c != S1.read i c) with _ | _
      · go_wp2_with fail
        refine ⟨⟨_, _, HRn2.out, HL2.out, HF2.out, fun k v h1 h2 => ?_⟩, ?_⟩
        · by_cases e : k = (c : Int)
          · subst e
            have h3 : seenF P.nc S1 i (c : Int) = some (.int .i64 (S1.read i c)) := by
              unfold seenF
              rw [Int.toNat_natCast, if_pos ⟨hb1, by omega, by omega, hrd⟩]
            rw [h3] at h1
            injection h1 with h1
            rw [← h1, Int.toNat_natCast]
            have : S1.vers c = S1.read i c := by simpa [bne] using hq
            rw [this]
          · refine NO.out k v h1 ?_
            simpa [e] using h2
        · rw [HRn2.out.left_eq, HRn.out.left_eq]
          exact hlt2
      · have hconf : conf S1 P.nc i = true := by
          unfold conf
          rw [List.any_eq_true]
          refine ⟨c, List.mem_range.2 hcn, ?_⟩
          rw [decide_eq_true hrd, Bool.true_and]
          have : S1.vers c ≠ S1.read i c := by simpa [bne] using hq
          simpa [bne] using fun e => this e.symm
        have hres : step1 P.man P.nc T S1 i = giveUp S1 i := by unfold step1; rw [if_pos hconf]
        go_wp2_with fail
        refine (giveUpLG P w0 _ D1 S1 i g HG.out HL2.out hi hn hnc (by omega)).mono ?_
        rintro e w3 ⟨rfl, D3, kd3, h3, k3⟩
        have H3 := Lib.hid h3
        have K3 := Lib.hid (HF2.out.trans k3)
        clear h3 k3
        go_wp2_with fail
        (try simp only [Exit.inBlock, Exit.then])
        refine bodyPost_ret (results_none rfl _ _ _) rfl ?_
        rw [hres]
        exact ⟨rfl, D3, KD.out.trans kd3, H3.out, K3.out⟩
set_option maxHeartbeats 16000000 in
set_option maxRecDepth 100000 in
theorem goOn_fresh (P : LPar) (w0 w : World) (D : LDyn) (S SB : St) (T : List (List (List S63))) (i : Nat) (h : Led P w0 w D S) (hP : PrgL P w0 T) (hi : i < P.n) (hn : P.n ≤ 1000) (hnc : P.nc ≤ 1000) (hl : S.events.length ≤ 90000) (hman : 1 ≤ P.man ∧ P.man ≤ 4)
    (hst : S.started i = false) (hSB : SB = if S.begun i = true then S else begin_ S i) (G : Good P.n T SB) (ok : OpsOK P.n P.nc T) (htx : SB.tx i < ((thr T i).length : Int)) (hbg : SB.begun i = true) (hbS : S.begun i = true → S.started i = true) :
    Calls Try.prog 44 #[.pointer (some ⟨D.blk .g, 0, none⟩), .int .i64 (i : Int)] w fun e w' => e = .returned (.tuple #[]) ∧ ∃ D', KeepD D D' ∧ Led P w0 w' D' (step1 P.man P.nc T { SB with goes := inc S.goes } i) ∧ FrL P w w' D D' := by
  have hin := eq_true (show (i : Int) < (P.n : Int) by omega)
  have g6 := h.g 6 (by decide); have g7 := h.g 7 (by decide)
  have pi := h.p i hi
  have a5 := h.a i hi 5 (by decide)
  simp only [gJ, aJ, hst] at g6 g7 a5
  have hbf : S.begun i = false := by
    rcases hb : S.begun i with _ | _
    · rfl
    · rw [hbS hb] at hst; exact hst
  have hL := h.begin2 i hi hbf hst
  rw [show begin_ S i = SB by rw [hSB, if_neg (by rw [hbf]; decide)]] at hL
  have hgo := hL.1.setGoes (inc S.goes)
  have f5 := h.thawA i hi
  have a3 := h.a i hi 3 (by decide); have a4 := h.a i hi 4 (by decide)
  simp only [aJ] at a3 a4
  have b7 := hL.1.g 7 (by decide)
  simp only [gJ] at b7
  have hSg : SB.goes = S.goes := by rw [hSB]; split <;> rfl
  rw [hSg] at b7
  have f7 := hL.1.thawG 7
  obtain ⟨D1, W1, hD1, hW1, HL, KL, KD⟩ : ∃ D1 W1, { D with st := up D.st i S.goes, wt := up D.wt i 0 } = D1 ∧ ((((w.setCell ⟨D.blk (.a i), 5, none⟩ (.bool true)).setCell ⟨D.blk (.a i), 3, none⟩ (.int .i64 S.goes)).setCell ⟨D.blk (.a i), 4, none⟩ (.int .i64 0)).setCell ⟨D.blk .g, 7, none⟩ (.int .i64 (inc S.goes))) = W1 ∧ Hid (Led P w0 W1 D1 { SB with goes := inc S.goes }) ∧ Hid (FrL P w W1 D D1) ∧ Hid (KeepD D D1) := ⟨_, _, rfl, rfl, Lib.hid hgo.1, Lib.hid (hL.2.trans hgo.2), Lib.hid ⟨rfl, fun _ => rfl⟩⟩
  have hev : SB.events = S.events := by rw [hSB]; split <;> rfl
  have hl1 : SB.events.length ≤ 90000 := by rw [hev]; exact hl
  have p7 : IntKind.wrap .i64 (S.goes + 1) = inc S.goes := by rw [i64_w]
  obtain ⟨S1, hS1⟩ : ∃ S1, { SB with goes := inc S.goes } = S1 := ⟨_, rfl⟩
  rw [hS1] at HL ⊢
  have G1 : Good P.n T S1 := by rw [← hS1]; exact ⟨G.own, G.tx, G.at_, G.st, G.rd, G.vr, G.done, G.cr, G.kr⟩
  have hl1 : S1.events.length ≤ 90000 := by rw [← hS1]; exact hl1
  have htx1 : S1.tx i < ((thr T i).length : Int) := by rw [← hS1]; exact htx
  have hb1 : S1.begun i = true := by rw [← hS1]; exact hbg
  have GG := Lib.hid G1; have OK := Lib.hid ok; have HP := Lib.hid hP
  obtain ⟨wR, c0, hrg, hRng, hBR, hszR⟩ := Mp.range (P := Try.prog) (HL.out.s i hi) Try.underlying98
  have s6 := HL.out.a i hi 6 (by decide)
  simp only [aJ] at s6
  obtain ⟨g, hg⟩ : ∃ g, D.blk .g = g := ⟨_, rfl⟩
  obtain ⟨ab, hab⟩ : ∃ ab, D.blk (.a i) = ab := ⟨_, rfl⟩
  have HG := Lib.hid (show D1.blk .g = g from KD.out.1.trans hg)
  have HA := Lib.hid (show D1.blk (.a i) = ab from (KD.out.2 i).trans hab)
  rw [HA.out] at s6
  have hszW : W1.heap.size = w.heap.size := by rw [← hW1]; simp [World.setCell]
  rw [hszW] at hrg hRng hszR
  rw [← hW1] at hrg s6
  obtain ⟨bs, hbs⟩ : ∃ bs, D1.blk (.s i) = bs := ⟨_, rfl⟩
  have HBS := Lib.hid hbs
  rw [hbs] at hrg hRng s6
  have hLR := HL.out.step hBR
  have hkr : W1.heap.size ≤ w.heap.size := Nat.le_of_eq hszW
  have HLR := Lib.hid hLR
  have HOR := Lib.hid (show OutL P D1 w.heap.size from HL.out.fresh _ hkr)
  have KLR := Lib.hid (KL.out.trans (FrL.below D1 hBR))
  have HRg := Lib.hid hRng
  have hbse : w0.heap.size ≤ w.heap.size := h.below.size
  simp only [hg, hab] at pi g6 g7 f7 hrg s6 a5
  rw [hg]
  simp only [hg, hab] at b7 f5 a3 a4
  have HD1 := Lib.hid hD1
  clear hL hgo h G G1 ok hP hl htx hbg hbS hSB hev hS1 hD1 hW1 hRng hLR hg hab hbs HL KL hBR hszR hszW hkr hst
  go_enter Try.func44, Try.ntmps44
  go_wp2_with fail
  go_loopw [] (fun wr => ∃ left cnt, Rng wr bs w.heap.size (seenF P.nc S1 i) left cnt ∧ Led P w0 wr D1 S1 ∧ FrL P w wr D D1 ∧ ∀ k v, seenF P.nc S1 i k = some v → left k = false → v = .int .i64 (S1.vers k.toNat)) (fun wr => rngLeft wr bs w.heap.size)
  case atStart => exact ⟨_, _, HRg.out, HLR.out, KLR.out, fun k v h1 h2 => by simp [h1] at h2⟩
  case round =>
    obtain ⟨left, cnt, hRn, hLd, hFr, hno⟩ := hrel
    clear HRg HLR KLR g6 g7 f7 hrg s6 a5 pi
    rcases hRn.next (P := Try.prog) 0 with ⟨h0, hall, hrun⟩ | ⟨k, v, w2, cnt2, hlk, hfk, hrun, hRn2, hlt2, hsz2, hw2, hgr2, hen⟩
    · have hnx : ∀ ty, (Instr.next (.pointer (some ⟨w.heap.size, 0, none⟩)) false ty).run Try.prog wr = _ := fun _ => hrun
      have hconf : ¬ conf S1 P.nc i = true := by
        unfold conf
        rw [List.any_eq_true]
        rintro ⟨c, hc, he⟩
        have hc' := List.mem_range.1 hc
        rw [Bool.and_eq_true, decide_eq_true_eq] at he
        have hs : seenF P.nc S1 i (c : Int) = some (.int .i64 (S1.read i c)) := by
          unfold seenF
          rw [Int.toNat_natCast, if_pos ⟨hb1, by omega, by omega, he.1⟩]
        have hv := hno _ _ hs (hall _)
        rw [Int.toNat_natCast] at hv
        injection hv with _ hv
        rw [hv] at he
        simp at he
      have HRn := Lib.hid hRn; have HLd := Lib.hid hLd; have HFr := Lib.hid hFr
      clear hRn hLd hFr hno hrun hall
      go_wp2_with fail
      obtain ⟨ad, cV, A0, c1, g2, l1, hle, hr⟩ := HLd.out.thr HP.out i hi
      rw [HG.out] at g2
      obtain ⟨ad5, A5, c5, rfl, l5, le5, hr5⟩ := at_L5 hr (S1.tx i) (GG.out.tx i).1 htx1
      have eO : rd_L5 (Tx.thr T i) (S1.tx i) = opsOf T S1 i := rfl
      rw [eO] at l5 le5 hr5
      have a0 := HLd.out.aG hi HA.out 0 (by decide)
      have a2 := HLd.out.aG hi HA.out 2 (by decide)
      have eA : opA S1 i = S1.at_ i := by unfold opA; rw [if_pos hb1]
      simp only [aJ, eA] at a0 a2
      obtain ⟨O, hO⟩ : ∃ O, opsOf T S1 i = O := ⟨_, rfl⟩
      have HO := Lib.hid hO
      have hat1 := GG.out.at_ i hb1
      have hops := OK.out.ops i _ (opsOf_mem S1 i (GG.out.tx i).1 htx1)
      rw [hO] at l5 le5 hr5 hat1 hops
      obtain ⟨m, hm⟩ : ∃ m, (Tx.thr T i).length = m := ⟨_, rfl⟩
      rw [hm] at l1 htx1
      have z1 := eq_true (show (0 : Int) ≤ S1.tx i from (GG.out.tx i).1)
      have z2 := eq_true (show S1.tx i < (m : Int) from htx1)
      obtain ⟨mo, hmo⟩ : ∃ mo, O.length = mo := ⟨_, rfl⟩
      have HMO := Lib.hid hmo
      rw [hmo] at l5 hat1
      clear hle hr eO hm hO
      go_quiet (fail)
      obtain ⟨E, hE⟩ : ∃ E, wr.drewN nq = E := ⟨_, rfl⟩
      rw [hE]
      have HE := Lib.hid (show Led P w0 E D1 S1 by rw [← hE]; exact HLd.out.step (pw_below_drewN (Below.refl _ _) _))
      have KE := Lib.hid (show FrL P w E D D1 by rw [← hE]; exact HFr.out.trans (FrL.below D1 (pw_below_drewN (Below.refl _ _) _)))
      have a2 := HE.out.aG hi HA.out 2 (by decide)
      simp only [aJ, eA] at a2
      have hr5E := Kd.C_below hr5 (show Below wr.heap.size wr E by rw [← hE]; exact pw_below_drewN (Below.refl _ _) _)
      have HR5 := Lib.hid hr5E
      have hszE : w.heap.size ≤ E.heap.size := KE.out.1
      clear hE HLd HFr HRn g2 l1 l5 a0 hr5 hr5E z1 z2 hnx
      by_cases hcm : S1.at_ i = (mo : Int)
      · have qc : decide (S1.at_ i ≥ (mo : Int)) = true := decide_eq_true (by omega)
        have hres : step1 P.man P.nc T S1 i = commit S1 i := by unfold step1; rw [if_neg hconf, if_pos (by rw [HO.out, HMO.out]; exact hcm)]
        have HRES := Lib.hid hres
        obtain ⟨wK, ck, hrk, hRk, hBk, hszk⟩ := Mp.range (P := Try.prog) (HE.out.k i hi) Try.underlying98
        have a7 := HE.out.aG hi HA.out 7 (by decide)
        simp only [aJ] at a7
        obtain ⟨bk, hbk⟩ : ∃ bk, D1.blk (.k i) = bk := ⟨_, rfl⟩
        have HBK := Lib.hid hbk
        rw [hbk] at hrk hRk a7
        have HRk := Lib.hid hRk
        have HLk := Lib.hid (HE.out.step hBk)
        have HOk := Lib.hid (show OutL P D1 E.heap.size from HE.out.fresh _ (Nat.le_refl _))
        have KLk := Lib.hid (KE.out.trans (FrL.below D1 hBk))
        have hbE : w0.heap.size ≤ E.heap.size := HE.out.below.size
        clear hbk hRk hBk hres hops hat1 hcm HR5 hconf
        go_wp2_with fail
        go_loopw [] (fun wr => ∃ left cnt, Rng wr bk E.heap.size (keptF P.nc S1 i) left cnt ∧ Led P w0 wr D1 (cmI P.nc S1 i left left) ∧ FrL P w wr D D1) (fun wr => rngLeft wr bk E.heap.size)
        case atStart => exact ⟨_, _, HRk.out, by rw [cmI_start]; exact HLk.out, KLk.out⟩
        case round =>
          obtain ⟨left, cnt, hRn, hLd, hFr⟩ := hrel
          clear HRk HLk KLk a2 a7 qc hrk
          rcases hRn.next (P := Try.prog) 0 with ⟨h0, hall, hrun⟩ | ⟨k, v, w2, cnt2, hlk, hfk, hrun, hRn2, hlt2, hsz2, hw2, hgr2, hen⟩
          · have hnx : ∀ ty, (Instr.next (.pointer (some ⟨E.heap.size, 0, none⟩)) false ty).run Try.prog wr = _ := fun _ => hrun
            have eL : left = fun _ => false := funext hall
            rw [eL] at hLd
            have HLd := Lib.hid (show Led P w0 wr D1 (cmZ P.nc S1 i) from hLd); have HFr := Lib.hid hFr
            clear hRn hLd hFr hrun hall eL
            go_wp2_with fail
            refine (freeLG P w0 _ D1 (cmZ P.nc S1 i) i g HG.out HLd.out hnc).mono ?_
            rintro e w3 ⟨rfl, h3, k3⟩
            go_wp2_with fail
            refine (sayLG P w0 _ D1 (free (cmZ P.nc S1 i) i) i 6 0 0 g HG.out h3 hi hn (show S1.events.length ≤ 100000 by omega)).mono ?_
            rintro e w4 ⟨rfl, V, h4, k4⟩
            have b0 := h4.aG hi (ab := ab) HA.out 0 (by decide); have b1 := h4.aG hi (ab := ab) HA.out 1 (by decide); have b5 := h4.aG hi (ab := ab) HA.out 5 (by decide)
            simp only [aJ] at b0 b1 b5
            have zt := h4.thawAG hi (ab := ab) HA.out
            have h5 := h4.fin3 i hi (inc (S1.tx i))
            have pt : IntKind.wrap .i64 ((event (free (cmZ P.nc S1 i) i) i 6 0 0).tx i + 1) = inc (S1.tx i) := by rw [i64_w]; rfl
            rw [show ({ D1 with V := V } : LDyn).blk (.a i) = ab from HA.out] at h5
            have H5 := Lib.hid h5
            have K4 := Lib.hid ((HFr.out.trans k3).trans k4)
            clear h3 k3 h4 k4 h5
            go_wp2_with fail
            refine (againC _ _ _ (H5.out.1.FnA hi (ab := ab) HA.out)).mono ?_
            rintro e w6 ⟨rfl, ha⟩
            obtain ⟨D6, kd6, h6, k6⟩ := H5.out.1.again i hi (by rw [show ({ D1 with V := V } : LDyn).blk (.a i) = ab from HA.out]; exact ha)
            go_wp2_with fail
            (try simp only [Exit.inBlock, Exit.then])
            refine bodyPost_ret (results_none rfl _ _ _) rfl ?_
            rw [HRES.out]
            exact ⟨rfl, D6, (KD.out.trans ⟨rfl, fun _ => rfl⟩).trans kd6, cm_same P w0 w6 D6 S1 i hb1 h6, (K4.out.trans H5.out.2).trans k6⟩
          · obtain ⟨c, rfl, hcn, hwr, rfl⟩ : ∃ c : Nat, k = (c : Int) ∧ c < P.nc ∧ S1.wrote i c = true ∧ v = .int .i64 (S1.kept i c) := by
              unfold keptF at hfk
              split at hfk
              · rename_i hh
                refine ⟨k.toNat, by omega, by omega, hh.2.2.2, ?_⟩
                injection hfk with hfk
                exact hfk.symm
              · cases hfk
            have hnx : ∀ ty, (Instr.next (.pointer (some ⟨E.heap.size, 0, none⟩)) false ty).run Try.prog wr = _ := fun _ => hrun
            have hL2 : Led P w0 w2 D1 (cmI P.nc S1 i left left) := hLd.other HOk.out (Nat.le_of_eq hsz2.symm) hw2 (hLd.below.grown hgr2 hLd.below.size (fun k hk => by injection hk with hk; rw [← hk]; exact hbE))
            have hF2 : FrL P w w2 D D1 := hFr.other hszE (Nat.le_of_eq hsz2.symm) hw2
            have hcc := eq_true (show (c : Int) < (P.nc : Int) by omega)
            have hks : (keptF P.nc S1 i (c : Int)).isSome = true := by rw [hfk]; rfl
            obtain ⟨left2, hl2⟩ : ∃ left2, (fun x => left x && !(x == (c : Int))) = left2 := ⟨_, rfl⟩
            rw [hl2] at hRn2
            have hlc : left2 (c : Int) = false := by rw [← hl2]; simp
            have hlo : ∀ m : Nat, m ≠ c → left2 (m : Int) = left (m : Int) := by
              intro m hm
              rw [← hl2]
              have h1 : ¬ ((m : Int) = (c : Int)) := by omega
              simp [h1]
            have g3 := hL2.gG HG.out 3 (by decide)
            simp only [gJ] at g3
            have ccl := hL2.c c hcn
            have zc := hL2.thawC c
            have h3 := hL2.setC c hcn (S1.kept i c) (cmI P.nc S1 i left2 left).cells (by show (if _ ∧ _ then _ else _) = _; rw [if_pos ⟨hks, hlc⟩]) (fun m hm hne => by show (if _ ∧ left2 (m : Int) = false then _ else _) = (if _ ∧ left (m : Int) = false then _ else _); rw [hlo m hne])
            have h3' : Led P w0 (w2.setCell ⟨D1.blk .c, c, none⟩ (.int .i64 (S1.kept i c))) D1 (cmI P.nc S1 i left2 left) := h3.1
            have g4 := h3'.gG HG.out 4 (by decide)
            simp only [gJ] at g4
            have vcl := h3'.v c hcn
            have ev : (cmI P.nc S1 i left2 left).vers c = S1.vers c := by show (if _ ∧ left (c : Int) = false then _ else _) = _; rw [if_neg (fun hh => by rw [hlk] at hh; exact absurd hh.2 (by decide))]
            rw [ev] at vcl
            have zv := h3'.thawV c
            have pv : IntKind.wrap .i64 (S1.vers c + 1) = inc (S1.vers c) := by rw [i64_w]
            have h4 := h3'.setV c hcn (inc (S1.vers c)) (cmI P.nc S1 i left2 left2).vers (by show (if _ ∧ _ then _ else _) = _; rw [if_pos ⟨hks, hlc⟩]) (fun m hm hne => by show (if _ ∧ left2 (m : Int) = false then _ else _) = (if _ ∧ left (m : Int) = false then _ else _); rw [hlo m hne])
            have H4 := Lib.hid (show Led P w0 ((w2.setCell ⟨D1.blk .c, c, none⟩ (.int .i64 (S1.kept i c))).setCell ⟨D1.blk .v, c, none⟩ (.int .i64 (inc (S1.vers c)))) D1 (cmI P.nc S1 i left2 left2) from h4.1)
            have K4 := Lib.hid ((hF2.trans h3.2).trans h4.2)
            have nbc : bk ≠ D1.blk .c := by rw [← HBK.out]; exact hL2.ne (j := .k i) (l := .c) hi trivial (by intro e; cases e)
            have nbv : bk ≠ D1.blk .v := by rw [← HBK.out]; exact hL2.ne (j := .k i) (l := .v) hi trivial (by intro e; cases e)
            have nec : E.heap.size ≠ D1.blk .c := HOk.out.1 .c trivial
            have nev : E.heap.size ≠ D1.blk .v := HOk.out.1 .v trivial
            have HR4 := Lib.hid (show Rng ((w2.setCell ⟨D1.blk .c, c, none⟩ (.int .i64 (S1.kept i c))).setCell ⟨D1.blk .v, c, none⟩ (.int .i64 (inc (S1.vers c)))) bk E.heap.size (keptF P.nc S1 i) left2 cnt2 from
              hRn2.kept ((Below.heap_setCell _ _ _ _ nbv).trans (Below.heap_setCell _ _ _ _ nbc)) ((Below.heap_setCell _ _ _ _ nev).trans (Below.heap_setCell _ _ _ _ nec)))
            have HRn := Lib.hid hRn
            clear hL2 hF2 hRn2 hRn hLd hFr hrun hw2 hgr2 hfk h3 h3' h4 ev hl2 hlc hlo hks nbc nbv nec nev hlk hwr
            go_wp2_with fail
            refine ⟨⟨left2, cnt2, HR4.out, H4.out, K4.out⟩, ?_⟩
            rw [HR4.out.left_eq, HRn.out.left_eq]
            exact hlt2
      · skip
        have qc : decide (S1.at_ i ≥ (mo : Int)) = false := decide_eq_false (by omega)
        have hat2 : S1.at_ i < (mo : Int) := by omega
        have hr5 := HR5.out
        obtain ⟨ad6, e6, m0, m1, m2⟩ := at_T63 hr5 (S1.at_ i) hat1.1 (by rw [HMO.out]; exact hat2)
        subst e6
        have hX : rd_T63 O (S1.at_ i) = O.getD (S1.at_ i).toNat z63 := rfl
        rw [hX] at m0 m1 m2
        have hmem := getD_mem O (S1.at_ i).toNat z63 (by rw [HMO.out]; omega)
        have hxo := hops.2 _ hmem
        have hstep : step1 P.man P.nc T S1 i = (if (O.getD (S1.at_ i).toNat z63).f0 = 1 then act S1 i (O.getD (S1.at_ i).toNat z63) else if (own P.man S1 i (O.getD (S1.at_ i).toNat z63).f1.toNat).1 = true then act (own P.man S1 i (O.getD (S1.at_ i).toNat z63).f1.toNat).2 i (O.getD (S1.at_ i).toNat z63) else (own P.man S1 i (O.getD (S1.at_ i).toNat z63).f1.toNat).2) := by
          unfold step1; rw [if_neg hconf, HO.out, if_neg (by rw [HMO.out]; exact hcm)]
        obtain ⟨X, hXX⟩ : ∃ X, O.getD (S1.at_ i).toNat z63 = X := ⟨_, rfl⟩
        rw [hXX] at m0 m1 m2 hxo hstep
        obtain ⟨f0, f1, f2⟩ := X
        simp only at m0 m1 m2 hxo hstep
        obtain ⟨hf0, hf1, hf1n, hf2, hf2r⟩ := hxo
        obtain ⟨c, rfl⟩ : ∃ c : Nat, f1 = (c : Int) := ⟨f1.toNat, by omega⟩
        rw [Int.toNat_natCast] at hstep
        have hcc : c < P.nc := by omega
        have z3 := eq_true (show (0 : Int) ≤ S1.at_ i from hat1.1)
        have z4 := eq_true (show S1.at_ i < (mo : Int) from hat2)
        have HST := Lib.hid hstep
        have hs1 : S1.started i = true := GG.out.st i hb1
        have hown := GG.out.owned P.man i c hi hb1
        have HOW := Lib.hid hown
        have hoo : S1.owners c = -1 ∨ ∃ o : Nat, o < P.n ∧ S1.owners c = (o : Int) ∧ S1.started o = true := (GG.out.own c).imp id (fun ⟨o, a, b, d⟩ => ⟨o, a, b, GG.out.st o d⟩)
        have HOO := Lib.hid hoo
        clear hX hXX hmem hr5 HR5 hstep hops hcm hown hoo
        rcases hf0 with rfl | rfl | rfl
        · obtain rfl : f2 = 0 := hf2 rfl
          have HW := Lib.hid (HE.out.step (below_alloc (Below.refl E.heap.size E) (.cells #[.int .i64 1, .int .i64 (c : Int), .int .i64 0] 63)))
          have KW := Lib.hid (KE.out.trans (FrL.below D1 (below_alloc (Below.refl E.heap.size E) (.cells #[.int .i64 1, .int .i64 (c : Int), .int .i64 0] 63))))
          have LB := Lib.hid (show Fn (E.alloc (.cells #[.int .i64 1, .int .i64 (c : Int), .int .i64 0] 63)) E.heap.size 63 3 (oR 1 (c : Int) 0) from Fn.new E _ 63 3 _ (by simp) (fun k hk => by match k with | 0 | 1 | 2 => rfl | k + 3 => omega))
          have OT := Lib.hid (show OutL P D1 E.heap.size from HE.out.fresh _ (Nat.le_refl _))
          have lk := LB.out.cell 0 (by decide); have lk1 := LB.out.cell 1 (by decide); have lk2 := LB.out.cell 2 (by decide)
          simp only [oR] at lk lk1 lk2
          clear lk lk1 lk2
          go_wp2_with fail
          refine (readLG P w0 _ D1 S1 i c g ab HG.out HA.out HW.out hi hb1 hcc (GG.out.vr c)).mono ?_
          rintro e w5 ⟨rfl, h5, k5⟩
          have sm := see_same S1 i c
          have gs := GG.out.see i c
          have L6 := Lib.hid (LB.out.move (k5.2 _ LB.out.lt OT.out).2)
          have O6 := Lib.hid (k5.2 _ LB.out.lt OT.out).1
          have H6 := Lib.hid h5
          have K6 := Lib.hid (KW.out.trans k5)
          have KD6 := Lib.hid (KeepD.refl D1)
          obtain ⟨S5, hS5⟩ : ∃ S5, (Tx.see S1 i c).2 = S5 := ⟨_, rfl⟩
          obtain ⟨sv, hsv⟩ : ∃ sv, (Tx.see S1 i c).1 = sv := ⟨_, rfl⟩
          rw [hS5] at H6 sm gs
          rw [hsv] at gs ⊢
          have hb6 : S5.begun i = true := by rw [sm.1]; exact hb1
          have hs6 : S5.started i = true := gs.1.st i hb6
          have hl6 : S5.events.length ≤ 90000 := by rw [sm.2.2.2.2.1]; exact hl1
          have hact : act S1 i ⟨1, (c : Int), 0⟩ = adv (event S5 i 1 (c : Int) sv) i := by unfold act; simp only [Int.toNat_natCast, if_true]; rw [hS5, hsv, Int.zero_add, gs.2]
          have HACT := Lib.hid hact
          clear h5 k5 sm gs hS5 hsv hact HW KW LB OT
          have HA6 := Lib.hid (show (D1).blk (.a i) = ab from (KD6.out.2 i).trans HA.out)
          have HG6 := Lib.hid (show (D1).blk .g = g from KD6.out.1.trans HG.out)
          have b2 := H6.out.aG hi HA6.out 2 (by decide); have b4 := H6.out.aG hi HA6.out 4 (by decide)
          have zt := H6.out.thawAG hi HA6.out
          have eA6 : opA S5 i = S5.at_ i := by unfold opA; rw [if_pos hb6]
          simp only [aJ, eA6] at b2 b4
          rw [(H6.out.sw i hi hs6).2] at b4
          have h7 := H6.out.setOp i hi hb6 HA6.out (inc (S5.at_ i))
          have h8 := h7.1.setWt i hi HA6.out (inc (S5.weight i))
          have nlb : E.heap.size ≠ ab := by rw [← HA6.out]; exact O6.out.1 (.a i) hi
          have L8 := (L6.out.far (p := ⟨ab, 2, none⟩) nlb (.int .i64 (inc (S5.at_ i)))).far (p := ⟨ab, 4, none⟩) nlb (.int .i64 (inc (S5.weight i)))
          have y0 := L8.cell 0 (by decide); have y1 := L8.cell 1 (by decide)
          simp only [oR] at y0 y1
          have w1_ : IntKind.wrap .i64 (S5.at_ i + 1) = inc (S5.at_ i) := by rw [i64_w]
          have w2_ : IntKind.wrap .i64 (S5.weight i + 1) = inc (S5.weight i) := by rw [i64_w]
          have H8 := Lib.hid (show Led P w0 _ { D1 with wt := up (D1).wt i (inc (S5.weight i)) } (adv S5 i) from h8.1)
          have K8 := Lib.hid ((K6.out.trans h7.2).trans h8.2)
          clear h7 h8 L8 nlb
          go_wp2_with fail
          refine (sayLG P w0 _ { D1 with wt := up (D1).wt i (inc (S5.weight i)) } (adv S5 i) i 1 (c : Int) sv g HG6.out H8.out hi hn (show S5.events.length ≤ 100000 by omega)).mono ?_
          rintro e w9 ⟨rfl, V9, h9, k9⟩
          have H9 := Lib.hid h9
          have K9 := Lib.hid (K8.out.trans k9)
          clear h9 k9
          go_wp2_with fail
          go_end0
          rw [HST.out]
          rw [if_pos trivial, HACT.out]
          exact ⟨rfl, { D1 with wt := up D1.wt i (inc (S5.weight i)), V := V9 }, KD.out.trans ⟨rfl, fun _ => rfl⟩, H9.out, K9.out⟩
        · have HW := Lib.hid (HE.out.step (below_alloc (Below.refl E.heap.size E) (.cells #[.int .i64 2, .int .i64 (c : Int), .int .i64 f2] 63)))
          have KW := Lib.hid (KE.out.trans (FrL.below D1 (below_alloc (Below.refl E.heap.size E) (.cells #[.int .i64 2, .int .i64 (c : Int), .int .i64 f2] 63))))
          have LB := Lib.hid (show Fn (E.alloc (.cells #[.int .i64 2, .int .i64 (c : Int), .int .i64 f2] 63)) E.heap.size 63 3 (oR 2 (c : Int) f2) from Fn.new E _ 63 3 _ (by simp) (fun k hk => by match k with | 0 | 1 | 2 => rfl | k + 3 => omega))
          have OT := Lib.hid (show OutL P D1 E.heap.size from HE.out.fresh _ (Nat.le_refl _))
          have lk := LB.out.cell 0 (by decide); have lk1 := LB.out.cell 1 (by decide); have lk2 := LB.out.cell 2 (by decide)
          simp only [oR] at lk lk1 lk2
          clear lk lk1 lk2
          go_wp2_with fail
          refine (ownLG P w0 _ D1 S1 i c g HG.out HW.out hi hcc hn hnc (by omega) hman hs1 HOO.out).mono ?_
          rintro e w5 ⟨rfl, D5, kd5, h5, k5⟩
          have L5 := Lib.hid (LB.out.move (k5.2 _ LB.out.lt OT.out).2)
          have O5 := Lib.hid (k5.2 _ LB.out.lt OT.out).1
          have H5 := Lib.hid h5
          have K5 := Lib.hid (KW.out.trans k5)
          have KD5 := Lib.hid kd5
          clear h5 k5 kd5 HW KW LB OT
          obtain ⟨r5, hr5⟩ : ∃ r5, (own P.man S1 i c).1 = r5 := ⟨_, rfl⟩
          obtain ⟨S5, hS5⟩ : ∃ S5, (own P.man S1 i c).2 = S5 := ⟨_, rfl⟩
          have OW := HOW.out
          rw [hr5, hS5] at OW HST
          rw [hS5] at H5
          rw [hr5]
          have x0 := L5.out.cell 0 (by decide); have x1 := L5.out.cell 1 (by decide); have x2 := L5.out.cell 2 (by decide)
          simp only [oR] at x0 x1 x2
          clear hr5 hS5 HOW
          cases r5
          · go_wp2_with fail
            (try simp only [Exit.inBlock, Exit.then])
            refine bodyPost_ret (results_none rfl _ _ _) rfl ?_
            rw [HST.out, if_neg (by decide), if_neg (by decide)]
            exact ⟨rfl, D5, KD.out.trans KD5.out, H5.out, K5.out⟩
          · have hb5 : S5.begun i = true := OW.2.1 rfl
            have hg5 := OW.1
            have hl5 : S5.events.length ≤ 90001 := by have := OW.2.2.2.2.2.1; omega
            have HG5 := Lib.hid (KD5.out.1.trans HG.out)
            have HA5 := Lib.hid ((KD5.out.2 i).trans HA.out)
            have HX := Lib.hid H5.out; have LX := Lib.hid L5.out; have KX := Lib.hid K5.out; have OX := Lib.hid O5.out
            have hbx := hb5
            have hgx := hg5
            have hlx : S5.events.length ≤ 90001 := hl5
            have hact : act S5 i ⟨2, (c : Int), f2⟩ = adv (event (put_ S5 i c f2) i 2 (c : Int) f2) i := by unfold act; simp only [Int.toNat_natCast]; rw [if_neg (by decide), if_pos trivial]
            have HACT := Lib.hid hact
            clear hact
            obtain ⟨nk, hmk⟩ := HX.out.k i hi
            obtain ⟨w7, hup, hM7, hg7⟩ := (IM.MapIs.drew hmk).update (P := Try.prog) Try.underlying98 Try.underlying3 (c : Int) (.int .i64 f2)
            have hdd := HX.out.step (below_drew1 (Below.refl w5.heap.size w5))
            have hp := hdd.putK i hi hbx c hcc f2 ⟨_, hM7⟩ hg7
            have q7 := HX.out.aG hi HA5.out 7 (by decide)
            simp only [aJ] at q7
            have q1 := LX.out.cell 1 (by decide); have q0 := LX.out.cell 0 (by decide); have q2 := LX.out.cell 2 (by decide)
            simp only [oR] at q1 q0 q2
            have kk := (FrL.below D5 (below_drew1 (Below.refl w5.heap.size w5)) : FrL P w5 w5.drew D5 D5).trans hp.2
            have L6 := Lib.hid (LX.out.move (kk.2 _ LX.out.lt OX.out).2)
            have O6 := Lib.hid (kk.2 _ LX.out.lt OX.out).1
            have H6 := Lib.hid hp.1
            have K6 := Lib.hid (KX.out.trans kk)
            have KD6 := Lib.hid KD5.out
            clear hM7 hg7 hdd hp hmk kk x0 x1 x2
            go_wp2_with fail
            refine start_ (n := 8) (S := fun w' => w'.cell? ⟨ab, 7, none⟩ = some (.map (some (D5.blk (.k i)))) ∧ w'.cell? ⟨E.heap.size, 1, none⟩ = some (.int .i64 (c : Int))) (ds := [7]) #[false, false, false, false, false, false, false, false] (by kernel_rfl) rfl rfl ⟨q7, q1⟩ (fun hHeld => ?_)
            refine pure_ (i := 0) (N := some 166) (v := ?_) (a' := ?_) #[true, false, false, false, false, false, false, false] rfl rfl (by kernel_rfl) (fun _ _ _ h => h) (Or.inl ⟨by rfl, ?_⟩) ?_ ?_
            rotate_left
            · intro w'
              go_simp
              with_reducible rfl
            rotate_left
            · simp only [Act.put, List.setIfInBounds_toArray, List.set_cons_zero, List.set_cons_succ, i64_w, i32_w]
              rfl
            refine pure_ (i := 1) (N := some 167) (v := ?_) (a' := ?_) #[true, true, false, false, false, false, false, false] rfl rfl (by kernel_rfl) (fun _ _ _ h => h) (Or.inl ⟨by rfl, ?_⟩) ?_ ?_
            rotate_left
            · intro w'
              go_simp
              with_reducible rfl
            rotate_left
            · simp only [Act.put, List.setIfInBounds_toArray, List.set_cons_zero, List.set_cons_succ, i64_w, i32_w]
              rfl
            refine pure_ (i := 2) (N := some 168) (v := ?_) (a' := ?_) #[true, true, true, false, false, false, false, false] rfl rfl (by kernel_rfl) (fun _ _ _ h => h) (Or.inl ⟨by rfl, ?_⟩) ?_ ?_
            rotate_left
            · intro w'
              go_simp
              with_reducible rfl
            rotate_left
            · simp only [Act.put, List.setIfInBounds_toArray, List.set_cons_zero, List.set_cons_succ, i64_w, i32_w]
              rfl
            refine pure_ (i := 4) (N := some 170) (v := ?_) (a' := ?_) #[true, true, true, false, true, false, false, false] rfl rfl (by kernel_rfl) (fun _ _ _ h => h) (Or.inl ⟨by rfl, ?_⟩) ?_ ?_
            rotate_left
            · intro w'
              go_simp
              with_reducible rfl
            rotate_left
            · simp only [Act.put, List.setIfInBounds_toArray, List.set_cons_zero, List.set_cons_succ, i64_w, i32_w]
              rfl
            refine pure_ (i := 6) (N := some 172) (v := ?_) (a' := ?_) #[true, true, true, false, true, false, true, false] rfl rfl (by kernel_rfl) (fun _ _ _ h => h) (Or.inl ⟨by rfl, ?_⟩) ?_ ?_
            rotate_left
            · intro w'
              go_simp
              with_reducible rfl
            rotate_left
            · simp only [Act.put, List.setIfInBounds_toArray, List.set_cons_zero, List.set_cons_succ, i64_w, i32_w]
              rfl
            refine take_ (i := 3) (N := some 169) (v := ?_) (a' := ?_) #[true, true, true, true, true, false, true, false] rfl rfl (by kernel_rfl) (fun _ _ _ h => h) (Or.inl ⟨by rfl, ?_⟩) hHeld ?_ ?_
            rotate_left
            · rintro w' ⟨s0, s1⟩
              go_simp
              with_reducible rfl
            rotate_left
            · simp only [Act.put, List.setIfInBounds_toArray, List.set_cons_zero, List.set_cons_succ, i64_w, i32_w]
              rfl
            refine take_ (i := 5) (N := some 171) (v := ?_) (a' := ?_) #[true, true, true, true, true, true, true, false] rfl rfl (by kernel_rfl) (fun _ _ _ h => h) (Or.inl ⟨by rfl, ?_⟩) hHeld ?_ ?_
            rotate_left
            · rintro w' ⟨s0, s1⟩
              go_simp
              with_reducible rfl
            rotate_left
            · simp only [Act.put, List.setIfInBounds_toArray, List.set_cons_zero, List.set_cons_succ, i64_w, i32_w]
              rfl
            refine last_ (i := 7) (N := none) #[true, true, true, true, true, true, true, true] rfl rfl (by kernel_rfl) (by decide) (fun K hK => ?_)
            refine skip_ (w1 := ?_) (by rfl) rfl ?_ ?_
            rotate_left
            · go_simp
              rfl
            refine hK.out _ _ ?_
            clear hK K
            refine done_ (by kernel_rfl) ?_
            clear q7 q1 q0 q2 hup
            obtain ⟨S7, hS7⟩ : ∃ S7, (put_ S5 i c f2) = S7 := ⟨_, rfl⟩
            rw [hS7] at H6 HACT
            have hb6 : S7.begun i = true := by rw [← hS7]; exact hbx
            have hs6 : S7.started i = true := by rw [← hS7]; exact hgx.st i hbx
            have hl6 : S7.events.length ≤ 90001 := by rw [← hS7]; exact hlx
            clear hS7
            have HA6 := Lib.hid (show (D5).blk (.a i) = ab from (KD6.out.2 i).trans HA.out)
            have HG6 := Lib.hid (show (D5).blk .g = g from KD6.out.1.trans HG.out)
            have b2 := H6.out.aG hi HA6.out 2 (by decide); have b4 := H6.out.aG hi HA6.out 4 (by decide)
            have zt := H6.out.thawAG hi HA6.out
            have eA6 : opA S7 i = S7.at_ i := by unfold opA; rw [if_pos hb6]
            simp only [aJ, eA6] at b2 b4
            rw [(H6.out.sw i hi hs6).2] at b4
            have h7 := H6.out.setOp i hi hb6 HA6.out (inc (S7.at_ i))
            have h8 := h7.1.setWt i hi HA6.out (inc (S7.weight i))
            have nlb : E.heap.size ≠ ab := by rw [← HA6.out]; exact O6.out.1 (.a i) hi
            have L8 := (L6.out.far (p := ⟨ab, 2, none⟩) nlb (.int .i64 (inc (S7.at_ i)))).far (p := ⟨ab, 4, none⟩) nlb (.int .i64 (inc (S7.weight i)))
            have y0 := L8.cell 0 (by decide); have y1 := L8.cell 1 (by decide)
            simp only [oR] at y0 y1
            have w1_ : IntKind.wrap .i64 (S7.at_ i + 1) = inc (S7.at_ i) := by rw [i64_w]
            have w2_ : IntKind.wrap .i64 (S7.weight i + 1) = inc (S7.weight i) := by rw [i64_w]
            have H8 := Lib.hid (show Led P w0 _ { D5 with wt := up (D5).wt i (inc (S7.weight i)) } (adv S7 i) from h8.1)
            have K8 := Lib.hid ((K6.out.trans h7.2).trans h8.2)
            clear h7 h8 L8 nlb
            go_wp2_with fail
            refine (sayLG P w0 _ { D5 with wt := up (D5).wt i (inc (S7.weight i)) } (adv S7 i) i 2 (c : Int) f2 g HG6.out H8.out hi hn (show S7.events.length ≤ 100000 by omega)).mono ?_
            rintro e w9 ⟨rfl, V9, h9, k9⟩
            have H9 := Lib.hid h9
            have K9 := Lib.hid (K8.out.trans k9)
            clear h9 k9
            go_wp2_with fail
            go_end0
            rw [HST.out]
            rw [if_neg (by decide), if_pos trivial, HACT.out]
            exact ⟨rfl, { D5 with wt := up D5.wt i (inc (S7.weight i)), V := V9 }, KD.out.trans (KD5.out.trans ⟨rfl, fun _ => rfl⟩), H9.out, K9.out⟩
        · have HW := Lib.hid (HE.out.step (below_alloc (Below.refl E.heap.size E) (.cells #[.int .i64 3, .int .i64 (c : Int), .int .i64 f2] 63)))
          have KW := Lib.hid (KE.out.trans (FrL.below D1 (below_alloc (Below.refl E.heap.size E) (.cells #[.int .i64 3, .int .i64 (c : Int), .int .i64 f2] 63))))
          have LB := Lib.hid (show Fn (E.alloc (.cells #[.int .i64 3, .int .i64 (c : Int), .int .i64 f2] 63)) E.heap.size 63 3 (oR 3 (c : Int) f2) from Fn.new E _ 63 3 _ (by simp) (fun k hk => by match k with | 0 | 1 | 2 => rfl | k + 3 => omega))
          have OT := Lib.hid (show OutL P D1 E.heap.size from HE.out.fresh _ (Nat.le_refl _))
          have lk := LB.out.cell 0 (by decide); have lk1 := LB.out.cell 1 (by decide); have lk2 := LB.out.cell 2 (by decide)
          simp only [oR] at lk lk1 lk2
          clear lk lk1 lk2
          go_wp2_with fail
          refine (ownLG P w0 _ D1 S1 i c g HG.out HW.out hi hcc hn hnc (by omega) hman hs1 HOO.out).mono ?_
          rintro e w5 ⟨rfl, D5, kd5, h5, k5⟩
          have L5 := Lib.hid (LB.out.move (k5.2 _ LB.out.lt OT.out).2)
          have O5 := Lib.hid (k5.2 _ LB.out.lt OT.out).1
          have H5 := Lib.hid h5
          have K5 := Lib.hid (KW.out.trans k5)
          have KD5 := Lib.hid kd5
          clear h5 k5 kd5 HW KW LB OT
          obtain ⟨r5, hr5⟩ : ∃ r5, (own P.man S1 i c).1 = r5 := ⟨_, rfl⟩
          obtain ⟨S5, hS5⟩ : ∃ S5, (own P.man S1 i c).2 = S5 := ⟨_, rfl⟩
          have OW := HOW.out
          rw [hr5, hS5] at OW HST
          rw [hS5] at H5
          rw [hr5]
          have x0 := L5.out.cell 0 (by decide); have x1 := L5.out.cell 1 (by decide); have x2 := L5.out.cell 2 (by decide)
          simp only [oR] at x0 x1 x2
          clear hr5 hS5 HOW
          cases r5
          · go_wp2_with fail
            (try simp only [Exit.inBlock, Exit.then])
            refine bodyPost_ret (results_none rfl _ _ _) rfl ?_
            rw [HST.out, if_neg (by decide), if_neg (by decide)]
            exact ⟨rfl, D5, KD.out.trans KD5.out, H5.out, K5.out⟩
          · have hb5 : S5.begun i = true := OW.2.1 rfl
            have hg5 := OW.1
            have hl5 : S5.events.length ≤ 90001 := by have := OW.2.2.2.2.2.1; omega
            have HG5 := Lib.hid (KD5.out.1.trans HG.out)
            have HA5 := Lib.hid ((KD5.out.2 i).trans HA.out)
            go_wp2_with fail
            refine (readLG P w0 _ D5 S5 i c g ab HG5.out HA5.out H5.out hi hb5 hcc (hg5.vr c)).mono ?_
            rintro e w6 ⟨rfl, h6, k6⟩
            have sm := see_same S5 i c
            have gs := hg5.see i c
            have LX := Lib.hid (L5.out.move (k6.2 _ L5.out.lt O5.out).2)
            have OX := Lib.hid (k6.2 _ L5.out.lt O5.out).1
            have HX := Lib.hid h6
            have KX := Lib.hid (K5.out.trans k6)
            obtain ⟨S6, hS6⟩ : ∃ S6, (Tx.see S5 i c).2 = S6 := ⟨_, rfl⟩
            obtain ⟨sv, hsv⟩ : ∃ sv, (Tx.see S5 i c).1 = sv := ⟨_, rfl⟩
            rw [hS6] at HX sm gs
            rw [hsv] at gs ⊢
            have hbx : S6.begun i = true := by rw [sm.1]; exact hb5
            have hgx := gs.1
            have hlx : S6.events.length ≤ 90001 := by rw [sm.2.2.2.2.1]; exact hl5
            have hact : act S5 i ⟨3, (c : Int), f2⟩ = adv (event (put_ S6 i c (wrap64 (f2 + sv))) i 3 (c : Int) (wrap64 (f2 + sv))) i := by unfold act; simp only [Int.toNat_natCast]; rw [if_neg (by decide), if_neg (by decide), hS6, hsv]
            clear h6 k6 sm gs hS6 hsv
            have HACT := Lib.hid hact
            clear hact
            obtain ⟨nk, hmk⟩ := HX.out.k i hi
            obtain ⟨w7, hup, hM7, hg7⟩ := (IM.MapIs.drew hmk).update (P := Try.prog) Try.underlying98 Try.underlying3 (c : Int) (.int .i64 (wrap64 (f2 + sv)))
            have hdd := HX.out.step (below_drew1 (Below.refl w6.heap.size w6))
            have hp := hdd.putK i hi hbx c hcc (wrap64 (f2 + sv)) ⟨_, hM7⟩ hg7
            have q7 := HX.out.aG hi HA5.out 7 (by decide)
            simp only [aJ] at q7
            have q1 := LX.out.cell 1 (by decide); have q0 := LX.out.cell 0 (by decide); have q2 := LX.out.cell 2 (by decide)
            simp only [oR] at q1 q0 q2
            have kk := (FrL.below D5 (below_drew1 (Below.refl w6.heap.size w6)) : FrL P w6 w6.drew D5 D5).trans hp.2
            have L6 := Lib.hid (LX.out.move (kk.2 _ LX.out.lt OX.out).2)
            have O6 := Lib.hid (kk.2 _ LX.out.lt OX.out).1
            have H6 := Lib.hid hp.1
            have K6 := Lib.hid (KX.out.trans kk)
            have KD6 := Lib.hid KD5.out
            clear hM7 hg7 hdd hp hmk kk x0 x1 x2
            go_wp2_with fail
            refine start_ (n := 8) (S := fun w' => w'.cell? ⟨ab, 7, none⟩ = some (.map (some (D5.blk (.k i)))) ∧ w'.cell? ⟨E.heap.size, 1, none⟩ = some (.int .i64 (c : Int))) (ds := [7]) #[false, false, false, false, false, false, false, false] (by kernel_rfl) rfl rfl ⟨q7, q1⟩ (fun hHeld => ?_)
            refine pure_ (i := 0) (N := some 182) (v := ?_) (a' := ?_) #[true, false, false, false, false, false, false, false] rfl rfl (by kernel_rfl) (fun _ _ _ h => h) (Or.inl ⟨by rfl, ?_⟩) ?_ ?_
            rotate_left
            · intro w'
              go_simp
              with_reducible rfl
            rotate_left
            · simp only [Act.put, List.setIfInBounds_toArray, List.set_cons_zero, List.set_cons_succ, i64_w, i32_w]
              rfl
            refine pure_ (i := 1) (N := some 183) (v := ?_) (a' := ?_) #[true, true, false, false, false, false, false, false] rfl rfl (by kernel_rfl) (fun _ _ _ h => h) (Or.inl ⟨by rfl, ?_⟩) ?_ ?_
            rotate_left
            · intro w'
              go_simp
              with_reducible rfl
            rotate_left
            · simp only [Act.put, List.setIfInBounds_toArray, List.set_cons_zero, List.set_cons_succ, i64_w, i32_w]
              rfl
            refine pure_ (i := 2) (N := some 184) (v := ?_) (a' := ?_) #[true, true, true, false, false, false, false, false] rfl rfl (by kernel_rfl) (fun _ _ _ h => h) (Or.inl ⟨by rfl, ?_⟩) ?_ ?_
            rotate_left
            · intro w'
              go_simp
              with_reducible rfl
            rotate_left
            · simp only [Act.put, List.setIfInBounds_toArray, List.set_cons_zero, List.set_cons_succ, i64_w, i32_w]
              rfl
            refine pure_ (i := 4) (N := some 186) (v := ?_) (a' := ?_) #[true, true, true, false, true, false, false, false] rfl rfl (by kernel_rfl) (fun _ _ _ h => h) (Or.inl ⟨by rfl, ?_⟩) ?_ ?_
            rotate_left
            · intro w'
              go_simp
              with_reducible rfl
            rotate_left
            · simp only [Act.put, List.setIfInBounds_toArray, List.set_cons_zero, List.set_cons_succ, i64_w, i32_w]
              rfl
            refine pure_ (i := 6) (N := some 188) (v := ?_) (a' := ?_) #[true, true, true, false, true, false, true, false] rfl rfl (by kernel_rfl) (fun _ _ _ h => h) (Or.inl ⟨by rfl, ?_⟩) ?_ ?_
            rotate_left
            · intro w'
              go_simp
              with_reducible rfl
            rotate_left
            · simp only [Act.put, List.setIfInBounds_toArray, List.set_cons_zero, List.set_cons_succ, i64_w, i32_w]
              rfl
            refine take_ (i := 3) (N := some 185) (v := ?_) (a' := ?_) #[true, true, true, true, true, false, true, false] rfl rfl (by kernel_rfl) (fun _ _ _ h => h) (Or.inl ⟨by rfl, ?_⟩) hHeld ?_ ?_
            rotate_left
            · rintro w' ⟨s0, s1⟩
              go_simp
              with_reducible rfl
            rotate_left
            · simp only [Act.put, List.setIfInBounds_toArray, List.set_cons_zero, List.set_cons_succ, i64_w, i32_w]
              rfl
            refine take_ (i := 5) (N := some 187) (v := ?_) (a' := ?_) #[true, true, true, true, true, true, true, false] rfl rfl (by kernel_rfl) (fun _ _ _ h => h) (Or.inl ⟨by rfl, ?_⟩) hHeld ?_ ?_
            rotate_left
            · rintro w' ⟨s0, s1⟩
              go_simp
              with_reducible rfl
            rotate_left
            · simp only [Act.put, List.setIfInBounds_toArray, List.set_cons_zero, List.set_cons_succ, i64_w, i32_w]
              rfl
            refine last_ (i := 7) (N := none) #[true, true, true, true, true, true, true, true] rfl rfl (by kernel_rfl) (by decide) (fun K hK => ?_)
            refine skip_ (w1 := ?_) (by rfl) rfl ?_ ?_
            rotate_left
            · go_simp
              rfl
            refine hK.out _ _ ?_
            clear hK K
            refine done_ (by kernel_rfl) ?_
            clear q7 q1 q0 q2 hup
            obtain ⟨S7, hS7⟩ : ∃ S7, (put_ S6 i c (wrap64 (f2 + sv))) = S7 := ⟨_, rfl⟩
            rw [hS7] at H6 HACT
            have hb6 : S7.begun i = true := by rw [← hS7]; exact hbx
            have hs6 : S7.started i = true := by rw [← hS7]; exact hgx.st i hbx
            have hl6 : S7.events.length ≤ 90001 := by rw [← hS7]; exact hlx
            clear hS7
            have HA6 := Lib.hid (show (D5).blk (.a i) = ab from (KD6.out.2 i).trans HA.out)
            have HG6 := Lib.hid (show (D5).blk .g = g from KD6.out.1.trans HG.out)
            have b2 := H6.out.aG hi HA6.out 2 (by decide); have b4 := H6.out.aG hi HA6.out 4 (by decide)
            have zt := H6.out.thawAG hi HA6.out
            have eA6 : opA S7 i = S7.at_ i := by unfold opA; rw [if_pos hb6]
            simp only [aJ, eA6] at b2 b4
            rw [(H6.out.sw i hi hs6).2] at b4
            have h7 := H6.out.setOp i hi hb6 HA6.out (inc (S7.at_ i))
            have h8 := h7.1.setWt i hi HA6.out (inc (S7.weight i))
            have nlb : E.heap.size ≠ ab := by rw [← HA6.out]; exact O6.out.1 (.a i) hi
            have L8 := (L6.out.far (p := ⟨ab, 2, none⟩) nlb (.int .i64 (inc (S7.at_ i)))).far (p := ⟨ab, 4, none⟩) nlb (.int .i64 (inc (S7.weight i)))
            have y0 := L8.cell 0 (by decide); have y1 := L8.cell 1 (by decide)
            simp only [oR] at y0 y1
            have w1_ : IntKind.wrap .i64 (S7.at_ i + 1) = inc (S7.at_ i) := by rw [i64_w]
            have w2_ : IntKind.wrap .i64 (S7.weight i + 1) = inc (S7.weight i) := by rw [i64_w]
            have H8 := Lib.hid (show Led P w0 _ { D5 with wt := up (D5).wt i (inc (S7.weight i)) } (adv S7 i) from h8.1)
            have K8 := Lib.hid ((K6.out.trans h7.2).trans h8.2)
            clear h7 h8 L8 nlb
            go_wp2_with fail
            refine (sayLG P w0 _ { D5 with wt := up (D5).wt i (inc (S7.weight i)) } (adv S7 i) i 3 (c : Int) (wrap64 (f2 + sv)) g HG6.out H8.out hi hn (show S7.events.length ≤ 100000 by omega)).mono ?_
            rintro e w9 ⟨rfl, V9, h9, k9⟩
            have H9 := Lib.hid h9
            have K9 := Lib.hid (K8.out.trans k9)
            clear h9 k9
            go_wp2_with fail
            go_end0
            rw [HST.out]
            rw [if_neg (by decide), if_pos trivial, HACT.out]
            exact ⟨rfl, { D5 with wt := up D5.wt i (inc (S7.weight i)), V := V9 }, KD.out.trans (KD5.out.trans ⟨rfl, fun _ => rfl⟩), H9.out, K9.out⟩
    · obtain ⟨c, rfl, hcn, hrd, rfl⟩ : ∃ c : Nat, k = (c : Int) ∧ c < P.nc ∧ 0 ≤ S1.read i c ∧ v = .int .i64 (S1.read i c) := by
        unfold seenF at hfk
        split at hfk
        · rename_i hh
          refine ⟨k.toNat, by omega, by omega, hh.2.2.2, ?_⟩
          injection hfk with hfk
          exact hfk.symm
        · cases hfk
      have hnx : ∀ ty, (Instr.next (.pointer (some ⟨w.heap.size, 0, none⟩)) false ty).run Try.prog wr = _ := fun _ => hrun
      have hL2 : Led P w0 w2 D1 S1 := hLd.other HOR.out (Nat.le_of_eq hsz2.symm) hw2 (hLd.below.grown hgr2 hLd.below.size (fun k hk => by injection hk with hk; rw [← hk]; exact hbse))
      have hF2 : FrL P w w2 D D1 := hFr.other (Nat.le_refl _) (Nat.le_of_eq hsz2.symm) hw2
      have g4 := hL2.gG HG.out 4 (by decide)
      simp only [gJ] at g4
      have v1 := hL2.v c hcn
      have hcc := eq_true (show (c : Int) < (P.nc : Int) by omega)
      have HL2 := Lib.hid hL2; have HF2 := Lib.hid hF2; have HRn2 := Lib.hid hRn2; have NO := Lib.hid hno; have HRn := Lib.hid hRn
      clear hL2 hF2 hRn2 hno hRn hLd hFr hrun hw2 hgr2 hfk
      rcases hq : (S1.vers c != S1.read i c) with _ | _
      · go_wp2_with fail
        refine ⟨⟨_, _, HRn2.out, HL2.out, HF2.out, fun k v h1 h2 => ?_⟩, ?_⟩
        · by_cases e : k = (c : Int)
          · subst e
            have h3 : seenF P.nc S1 i (c : Int) = some (.int .i64 (S1.read i c)) := by
              unfold seenF
              rw [Int.toNat_natCast, if_pos ⟨hb1, by omega, by omega, hrd⟩]
            rw [h3] at h1
            injection h1 with h1
            rw [← h1, Int.toNat_natCast]
            have : S1.vers c = S1.read i c := by simpa [bne] using hq
            rw [this]
          · refine NO.out k v h1 ?_
            simpa [e] using h2
        · rw [HRn2.out.left_eq, HRn.out.left_eq]
          exact hlt2
      · have hconf : conf S1 P.nc i = true := by
          unfold conf
          rw [List.any_eq_true]
          refine ⟨c, List.mem_range.2 hcn, ?_⟩
          rw [decide_eq_true hrd, Bool.true_and]
          have : S1.vers c ≠ S1.read i c := by simpa [bne] using hq
          simpa [bne] using fun e => this e.symm
        have hres : step1 P.man P.nc T S1 i = giveUp S1 i := by unfold step1; rw [if_pos hconf]
        go_wp2_with fail
        refine (giveUpLG P w0 _ D1 S1 i g HG.out HL2.out hi hn hnc (by omega)).mono ?_
        rintro e w3 ⟨rfl, D3, kd3, h3, k3⟩
        have H3 := Lib.hid h3
        have K3 := Lib.hid (HF2.out.trans k3)
        clear h3 k3
        go_wp2_with fail
        (try simp only [Exit.inBlock, Exit.then])
        refine bodyPost_ret (results_none rfl _ _ _) rfl ?_
        rw [hres]
        exact ⟨rfl, D3, KD.out.trans kd3, H3.out, K3.out⟩
end Go.Proofs.Ytonhmkllfbagmaa.Tx
