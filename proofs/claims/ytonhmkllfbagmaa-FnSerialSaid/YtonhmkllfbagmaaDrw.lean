/- Transactions: a drawn work. -/
import Derived.Test.YtonhmkllfbagmaaSrc
import Derived.Test.YtonhmkllfbagmaaLedL
import Derived.Test.YtonhmkllfbagmaaPurF
namespace Go.Proofs.Ytonhmkllfbagmaa.Tx
open Go.RowKit Go.Proofs.YtonhmkllfbagmaaW.PrintWords Go.Proofs.YtonhmkllfbagmaaW.PrintLast Go.Proofs.YtonhmkllfbagmaaW.PrintMore Go.Proofs.Ytonhmkllfbagmaa.PFnExactTxFair Go.Proofs.Ytonhmkllfbagmaa.Src
set_option linter.unusedVariables false
set_option linter.unusedSimpArgs false
def pR (V : Value) (M : Int) (V2 : Value) : Nat → Value
  | 0 => V
  | 1 => .int .i64 M
  | _ => V2
theorem Sr.bel {w0 w : World} {g : Nat} {f0 : List Int} {m : Int} (h : Sr w0 w g f0 m) : Below w0.heap.size w0 w := by
  obtain ⟨x, sd, hI, h1, h2, h3, h4, h5⟩ := h
  exact h5
theorem Sr.ge {w0 w : World} {g : Nat} {f0 : List Int} {m : Int} (h : Sr w0 w g f0 m) : w0.heap.size ≤ g ∧ g < w.heap.size := by
  obtain ⟨x, sd, ⟨A, c, hb, hg, hr⟩, h1, h2, h3, h4, h5⟩ := h
  exact ⟨hg, blk_lt hb⟩
theorem KeepBut.fn {w w1 : World} {g b n : Nat} {t : TypeId} {f : Nat → Value} (h : KeepBut w w1 g none) (hf : Fn w b t n f) (hn : b ≠ g) : Fn w1 b t n f := hf.move (h.2 b hf.lt hn (by simp))
theorem KeepBut.row {α : Type} {d : Kd α} {e base : Nat} {ok : Nat → Prop} {v : Value} {xs : List α} {w w1 : World} {g : Nat} (h : KeepBut w w1 g none) (hr : d.R e w base ok v xs) (hn : ∀ b, ok b → b ≠ g) : d.R e w1 base ok v xs :=
  Kd.R_step hr (fun b hb hlt => h.2 b hlt (hn b hb) (by simp))
theorem KeepBut.setNew {w w1 : World} {g : Nat} {row : Option Nat} (h : KeepBut w w1 g row) {p : Addr} (hp : w.heap.size ≤ p.block) (u : Value) : KeepBut w (w1.setCell p u) g row :=
  ⟨by simpa [World.setCell] using h.1, fun i hi hg hr => (Below.heap_setCell w1 p u i (by omega)).trans (h.2 i hi hg hr)⟩
theorem KeepBut.grow {w w1 w2 : World} {g : Nat} {row : Option Nat} (h : KeepBut w w1 g none) (hg : w1.grownBy w2 row) (hr : ∀ b, row = some b → w.heap.size ≤ b) : KeepBut w w2 g none :=
  ⟨Nat.le_trans h.1 hg.size, fun i hi hgi _ => (hg.block i (Nat.lt_of_lt_of_le hi h.1) (fun e => by have := hr i e.symm; omega)).trans (h.2 i hi hgi (by simp))⟩
theorem Sr.set {w0 w : World} {g : Nat} {f0 : List Int} {m : Int} (h : Sr w0 w g f0 m) {p : Addr} (hp : p.block ≠ g) (hp0 : w0.heap.size ≤ p.block) (u : Value) : Sr w0 (w.setCell p u) g f0 m := by
  obtain ⟨x, sd, ⟨A, c, hb, hg, hr⟩, h1, h2, h3, h4, h5⟩ := h
  exact ⟨x, sd, ⟨A, c, (Below.heap_setCell w p u g (Ne.symm hp)).trans hb, hg, hr⟩, h1, h2, h3, h4, h5.setCell hp0 u⟩
theorem Sr.grown {w0 w w1 : World} {g : Nat} {f0 : List Int} {m : Int} {row : Option Nat} (h : Sr w0 w g f0 m) (hg : w.grownBy w1 row) (hn : some g ≠ row) (hB : Below w0.heap.size w0 w1) : Sr w0 w1 g f0 m := by
  obtain ⟨x, sd, ⟨A, c, hb, hg0, hr⟩, h1, h2, h3, h4, h5⟩ := h
  exact ⟨x, sd, ⟨A, c, (hg.block g (blk_lt hb) hn).trans hb, hg0, hr⟩, h1, h2, h3, h4, hB⟩
theorem ret30 {fn : Func} (h : fn.results = #[.cell 2 30]) (tmps : Array Value) (w : World) (g : Nat) (v0 v1 v2 : Value) (hp : tmps.getD 2 undef = .pointer (some ⟨g, 0, none⟩)) (p0 : w.cell? ⟨g, 0, none⟩ = some v0) (p1 : w.cell? ⟨g, 1, none⟩ = some v1) (p2 : w.cell? ⟨g, 2, none⟩ = some v2) :
    (results fn tmps).run Try.prog w = .ok (.agg #[v0, v1, v2]) w := by
  have hi : (Try.prog.info? 30).map (fun i => i.size) = some 3 := by kernel_rfl
  have hp2 : tmps[2]?.getD undef = .pointer (some ⟨g, 0, none⟩) := by simpa using hp
  simp [results, h, go_sem, hp2, p0, p1, p2]
def goodO (nc : Nat) (o : S63) : Prop := PureTxFair.opB nc o = true ∧ wrap64 o.f2 = o.f2
def goodX (nc : Nat) (l : List S63) : Prop := l.length ≤ 8 ∧ ∀ o ∈ l, goodO nc o
def goodH (nc : Nat) (l : List (List S63)) : Prop := l.length ≤ 8 ∧ ∀ x ∈ l, goodX nc x
theorem workB_of {C : List Int} {M : Int} {T : List (List (List S63))} (h1 : 1 ≤ C.length ∧ C.length ≤ 8) (h2 : 1 ≤ T.length ∧ T.length ≤ 4) (h3 : 1 ≤ M ∧ M ≤ 4) (hT : ∀ th ∈ T, goodH C.length th) : PureTxFair.workB C M T = true := by
  unfold PureTxFair.workB
  rw [Bool.and_eq_true, decide_eq_true_eq, List.all_eq_true]
  refine ⟨by omega, fun th hth => ?_⟩
  unfold PureTxFair.thB
  rw [Bool.and_eq_true, decide_eq_true_eq, List.all_eq_true]
  refine ⟨(hT th hth).1, fun x hx => ?_⟩
  unfold PureTxFair.txB
  rw [Bool.and_eq_true, decide_eq_true_eq, List.all_eq_true]
  exact ⟨((hT th hth).2 x hx).1, fun o ho => (((hT th hth).2 x hx).2 o ho).1⟩
theorem small_of {C : List Int} {T : List (List (List S63))} (hC : ∀ x ∈ C, 0 ≤ x ∧ x < 20) (hT : ∀ th ∈ T, goodH C.length th) : PureTxFair.Small C T :=
  ⟨fun x hx => by have := hC x hx; unfold wrap64; omega, fun th hth x hx o ho => (((hT th hth).2 x hx).2 o ho).2⟩
theorem all_snoc {α : Type} {p : α → Prop} {l : List α} {a : α} (h : ∀ x ∈ l, p x) (ha : p a) : ∀ x ∈ l ++ [a], p x := fun x hx => by
  rcases List.mem_append.1 hx with h1 | h1
  · exact h x h1
  · rw [List.mem_singleton.1 h1]; exact ha
set_option maxHeartbeats 16000000 in
set_option maxRecDepth 100000 in
theorem txProgC (w0 w : World) (g : Nat) (f0 : List Int) (hI : Sr w0 w g f0 0) (hF : Bytes f0) :
    Calls Try.prog 50 #[.pointer (some ⟨g, 0, none⟩)] w fun e w' => ∃ v0 M v2 C T, e = .returned (.agg #[v0, .int .i64 M, v2]) ∧ Lie ki w' w0.heap.size w'.heap.size v0 C ∧ Lie kT w' w0.heap.size w'.heap.size v2 T ∧ PureTxFair.workB C M T = true ∧ PureTxFair.Small C T ∧ Below w0.heap.size w0 w' := by
  have HI := Lib.hid hI
  have hge := Sr.ge hI
  have hgw := hge.2
  have hg0 := hge.1
  clear hI hge
  have nx := fun (X : World) (m n : Int) (h : Sr w0 X g f0 m) (hm : m ≤ 100000) (hn : 1 ≤ n) (hn2 : n ≤ 20) => nextC g f0 m n w0 X h (by omega) hF hn (by omega)
  have NX := Lib.hid nx
  clear nx
  obtain ⟨b2, hb2⟩ : ∃ b2, w.heap.size = b2 := ⟨_, rfl⟩
  go_enter Try.func50, Try.ntmps50
  go_wp2_with fail
  have hwz : (w.alloc (.cells #[.slice none 0 0, .int .i64 0, .slice none 0 0] 30)).heap.size = w.heap.size + 1 := by simp
  have S0 := HI.out.keep (below_alloc (Below.refl w.heap.size w) (.cells #[.slice none 0 0, .int .i64 0, .slice none 0 0] 30))
  have F2 := Lib.hid (Fn.new w #[.slice none 0 0, .int .i64 0, .slice none 0 0] 30 3 (pR (.slice none 0 0) 0 (.slice none 0 0)) (by simp) (fun k hk => by match k with | 0 | 1 | 2 => rfl | k + 3 => omega))
  refine (NX.out _ 0 4 S0 (by omega) (by omega) (by omega)).mono ?_
  rintro e w1 ⟨r, rfl, hr0, hr4, hS, hK⟩
  have S1 := Lib.hid hS
  have G2 := Lib.hid (KeepBut.fn hK F2.out (by omega))
  have hs1 := hK.1
  rw [hwz] at hs1
  rw [hb2] at G2 hs1
  clear hS hK S0 F2 HI
  have pM : IntKind.wrap .i64 (1 + r) = 1 + r := by rw [i64_w]; unfold wrap64; omega
  obtain ⟨M, hM⟩ : ∃ M, 1 + r = M := ⟨_, rfl⟩
  have hM1 : 1 ≤ M ∧ M ≤ 4 := by omega
  rw [hM] at pM
  go_wp2_with fail
  obtain ⟨b3, hb3⟩ : ∃ b3, w1.heap.size = b3 := ⟨_, rfl⟩
  have F3 := Lib.hid (Fn.new w1 #[.slice none 0 0, .int .i64 M, .slice none 0 0] 30 3 (pR (.slice none 0 0) M (.slice none 0 0)) (by simp) (fun k hk => by match k with | 0 | 1 | 2 => rfl | k + 3 => omega))
  have hBA : Below w1.heap.size w1 (w1.alloc (.cells #[.slice none 0 0, .int .i64 M, .slice none 0 0] 30)) := below_alloc (Below.refl _ _) _
  have S2 := Lib.hid (S1.out.keep hBA)
  have G2' := Lib.hid (G2.out.below hBA)
  refine (NX.out _ 3 3 S2.out (by omega) (by omega) (by omega)).mono ?_
  rintro e w2 ⟨r2, rfl, hr20, hr23, hS, hK⟩
  have S3 := Lib.hid hS
  have H2 := Lib.hid (KeepBut.fn hK G2'.out (by omega))
  have H3 := Lib.hid (KeepBut.fn hK F3.out (by omega))
  have hs2 := hK.1
  have hwz3 : (w1.alloc (.cells #[.slice none 0 0, .int .i64 M, .slice none 0 0] 30)).heap.size = w1.heap.size + 1 := by simp
  rw [hwz3] at hs2
  rw [hb3] at H3 hs2 ⊢
  clear hS hK F3 G2' G2 S1 S2 hBA hwz hwz3
  obtain ⟨n1, hn1⟩ : ∃ n1 : Nat, 1 + r2 = (n1 : Int) := ⟨(1 + r2).toNat, by omega⟩
  have hn1b : 1 ≤ n1 ∧ n1 ≤ 3 := by omega
  have p2 : IntKind.wrap .i64 (1 + r2) = (n1 : Int) := by rw [i64_w]; unfold wrap64; omega
  clear hn1 hr20 hr23
  go_wp2_with fail
  go_loopw [4] (fun iv wr => ∃ (i : Nat) (V : Value) (C : List Int), iv = .int .i64 (i : Int) ∧ C.length + i = n1 ∧ (∀ x ∈ C, 0 ≤ x ∧ x < 20) ∧ Sr w0 wr g f0 (6 + 3 * (C.length : Int)) ∧ Fn wr b2 30 3 (pR (.slice none 0 0) 0 (.slice none 0 0)) ∧ Fn wr b3 30 3 (pR V M (.slice none 0 0)) ∧ ki.R 3 wr w0.heap.size (fun b => b3 < b) V C) (fun iv _ => (intOf iv).toNat)
  case atStart => exact ⟨n1, .slice none 0 0, [], rfl, by simp, (fun _ h => by cases h), S3.out, H2.out, H3.out, Kd.R_nil _ _ _ _ _⟩
  case round =>
    obtain ⟨i, V, C, rfl, hlen, hC, hS, hR2, hR3, hR⟩ := hrel
    have SS := Lib.hid hS; have RR2 := Lib.hid hR2; have RR3 := Lib.hid hR3; have RR := Lib.hid hR; have HC := Lib.hid hC
    have hb3l := hR3.lt
    clear S3 H2 H3
    by_cases hi : 0 < i
    · have q0 := decide_eq_true (show (i : Int) > 0 by omega)
      have p1 : IntKind.wrap .i64 ((i : Int) - 1) = ((i - 1 : Nat) : Int) := by rw [i64_w]; unfold wrap64; omega
      obtain ⟨A, c, eV, hc, -⟩ := Kd.R_reads hR
      subst eV
      clear hS hR2 hR3 hR hC
      go_wp2_with fail
      have u0 : wr.drew.cell? ⟨b3, 0, none⟩ = some (.slice A C.length c) := RR3.out.cell 0 (by decide)
      have SD := Lib.hid (show Sr w0 wr.drew g f0 (6 + 3 * (C.length : Int)) from SS.out.keep (below_drew1 (Below.refl _ _)))
      have RD := Lib.hid (show ki.R 3 wr.drew w0.heap.size (fun b => b3 < b) (.slice A C.length c) C from RR.out)
      have D3 := Lib.hid (show Fn wr.drew b3 30 3 (pR (.slice A C.length c) M (.slice none 0 0)) from RR3.out)
      have D2 := Lib.hid (show Fn wr.drew b2 30 3 (pR (.slice none 0 0) 0 (.slice none 0 0)) from RR2.out)
      have hb3d : b3 < wr.drew.heap.size := hb3l
      refine start_ (n := 8) (S := fun w' => w'.cell? ⟨b3, 0, none⟩ = some (.slice A C.length c)) (ds := [7]) #[false, false, false, false, false, false, false, false] (by kernel_rfl) rfl rfl (u0) (fun hHeld => ?_)
      refine pure_ (i := 0) (N := some 22) (v := ?_) (a' := ?_) #[true, false, false, false, false, false, false, false] rfl rfl (by kernel_rfl) (fun _ _ _ h => h) (Or.inl ⟨by rfl, ?_⟩) ?_ ?_
      rotate_left
      · intro w'
        go_simp
        with_reducible rfl
      rotate_left
      · simp only [Act.put, List.setIfInBounds_toArray, List.set_cons_zero, List.set_cons_succ, i64_w, i32_w]
        rfl
      refine pure_ (i := 2) (N := some 24) (v := ?_) (a' := ?_) #[true, false, true, false, false, false, false, false] rfl rfl (by kernel_rfl) (fun _ _ _ h => h) (Or.inl ⟨by rfl, ?_⟩) ?_ ?_
      rotate_left
      · intro w'
        go_simp
        with_reducible rfl
      rotate_left
      · simp only [Act.put, List.setIfInBounds_toArray, List.set_cons_zero, List.set_cons_succ, i64_w, i32_w]
        rfl
      refine take_ (i := 1) (N := some 23) (v := ?_) (a' := ?_) #[true, true, true, false, false, false, false, false] rfl rfl (by kernel_rfl) (fun _ _ _ h => h) (Or.inl ⟨by rfl, ?_⟩) hHeld ?_ ?_
      rotate_left
      · intro w' s0
        go_simp
        with_reducible rfl
      rotate_left
      · simp only [Act.put, List.setIfInBounds_toArray, List.set_cons_zero, List.set_cons_succ, i64_w, i32_w]
        rfl
      refine one_ (i := 3) (N := some 25) #[true, true, true, true, false, false, false, false] rfl rfl (by kernel_rfl) (by decide) (fun K hK => ?_)
      refine goes_ Try.func51 (by kernel_rfl) rfl #[.pointer (some ⟨g, 0, none⟩), .int .i64 20] (by rfl) rfl rfl (by simp only [List.map_toArray, List.map_cons, List.map_nil]; rfl) ?_
      with_reducible refine (NX.out _ _ 20 SD.out (by omega) (by omega) (by omega)).mono ?_
      rintro e w9 ⟨x9, rfl, hx0, hx20, hS9, hK9⟩
      refine ⟨_, rfl, ?_⟩
      have E3 := Lib.hid (KeepBut.fn hK9 D3.out (by omega))
      have E2 := Lib.hid (KeepBut.fn hK9 D2.out (by omega))
      have ER := Lib.hid (KeepBut.row hK9 RD.out (fun b hb => by have : b3 < b := hb; omega))
      have ES := Lib.hid hS9
      have v0 : w9.cell? ⟨b3, 0, none⟩ = some (.slice A C.length c) := E3.out.cell 0 (by decide)
      have hb39 := E3.out.lt
      have hbz := (Sr.bel hS9).size
      clear hS9 hK9 SD RD D3 D2
      have hab := (Below.refl w9.heap.size w9).alloc (o := .cells #[.int .i64 x9] 3) (Nat.le_refl _)
      refine hK.out _ _ (v0) (fun hHeld => ?_)
      clear hK K
      refine norm_ (a' := ?_) ?_ ?_
      rotate_left
      · show Act.put _ (some 25) _ = _
        simp only [Act.put, List.setIfInBounds_toArray, List.set_cons_zero, List.set_cons_succ, i64_w, i32_w]
        rfl
      refine one_ (i := 4) (N := some 26) #[true, true, true, true, true, false, false, false] rfl rfl (by kernel_rfl) (by decide) (fun K hK => ?_)
      refine value_ (w1 := ?_) (v := ?_) (by rfl) rfl ?_ ?_
      rotate_left 2
      · go_simp
        constructor
        · rfl
        · rfl
      refine hK.out _ _ ((hab.cell (p := ⟨b3, 0, none⟩) hb39).trans v0) (fun hHeld => ?_)
      clear hK K
      refine norm_ (a' := ?_) ?_ ?_
      rotate_left
      · show Act.put _ (some 26) _ = _
        simp only [Act.put, List.setIfInBounds_toArray, List.set_cons_zero, List.set_cons_succ, i64_w, i32_w]
        rfl
      refine one_ (i := 5) (N := some 27) #[true, true, true, true, true, true, false, false] rfl rfl (by kernel_rfl) (by decide) (fun K hK => ?_)
      refine Kd.R_append_step ki (w0 := w0) w0.heap.size (by rfl) (.tmp 23) (.tmp 26) 22 3 (.int .i64 0) 8 rfl Try.underlying22 info3 rfl (by decide) (by decide) (.slice A C.length c) C x9 [.int .i64 x9] (fun b => b3 < b) (fun _ => False) rfl rfl rfl (fun _ h => h.elim) (fun k hk => by show b3 < k; omega) ER.out (Sr.bel ES.out) hbz (by omega) ?_
      intro x1 wA hR6 hB6 hg6 hat6
      obtain ⟨A1, co1, eX, hco1, -⟩ := Kd.R_reads hR6
      rw [List.length_append, List.length_singleton] at eX
      subst eX
      have hneo : ∀ b, b ≤ b3 → some b ≠ (Value.slice A C.length c).ownBlock := fun b hb e => by have : b3 < b := ER.out.1 b e.symm; omega
      have K3 := E3.out.move (hg6.block b3 hb39 (hneo b3 (Nat.le_refl _)))
      have K2 := Lib.hid (E2.out.move (hg6.block b2 E2.out.lt (hneo b2 (by omega))))
      have KS := Lib.hid (Sr.grown ES.out hg6 (hneo g (by omega)) hB6)
      have KR := Lib.hid hR6
      have q0' : wA.cell? ⟨b3, 0, none⟩ = some (.slice A C.length c) := K3.cell 0 (by decide)
      have f10 := K3.thaw 0
      have HK3 := Lib.hid K3
      clear hR6 hB6 hg6 hat6 K3 hneo
      refine hK.out _ _ (q0') (fun hHeld => ?_)
      clear hK K
      refine norm_ (a' := ?_) ?_ ?_
      rotate_left
      · show Act.put _ (some 27) _ = _
        simp only [Act.put, List.setIfInBounds_toArray, List.set_cons_zero, List.set_cons_succ, i64_w, i32_w]
        rfl
      refine pure_ (i := 6) (N := some 28) (v := ?_) (a' := ?_) #[true, true, true, true, true, true, true, false] rfl rfl (by kernel_rfl) (fun _ _ _ h => h) (Or.inl ⟨by rfl, ?_⟩) ?_ ?_
      rotate_left
      · intro w'
        go_simp
        with_reducible rfl
      rotate_left
      · simp only [Act.put, List.setIfInBounds_toArray, List.set_cons_zero, List.set_cons_succ, i64_w, i32_w]
        rfl
      refine last_ (i := 7) (N := none) #[true, true, true, true, true, true, true, true] rfl rfl (by kernel_rfl) (by decide) (fun K hK => ?_)
      refine skip_ (w1 := ?_) (by rfl) rfl ?_ ?_
      rotate_left
      · go_simp
        rfl
      refine hK.out _ _ ?_
      clear hK K
      refine done_ (by kernel_rfl) ?_
      have nF := Lib.hid (HK3.out.set 0 (by decide) (.slice A1 (C.length + 1) co1) (g := pR (.slice A1 (C.length + 1) co1) M (.slice none 0 0)) rfl (fun m hm hne => by match m with | 0 => exact absurd rfl hne | 1 | 2 => rfl | m + 3 => omega))
      have n2 := Lib.hid (K2.out.far (p := ⟨b3, 0, none⟩) (by show b2 ≠ b3; omega) (.slice A1 (C.length + 1) co1))
      have nR := Lib.hid (show ki.R 3 (wA.setCell ⟨b3, 0, none⟩ (.slice A1 (C.length + 1) co1)) w0.heap.size (fun b => b3 < b) (.slice A1 (C.length + 1) co1) (C ++ [x9]) from Kd.R_step KR.out (fun b hb hlt => Below.heap_setCell wA _ _ b (by show b ≠ b3; have : b3 < b := hb; omega)))
      have nS := Lib.hid (Sr.set KS.out (p := ⟨b3, 0, none⟩) (by show b3 ≠ g; omega) (by show w0.heap.size ≤ b3; omega) (.slice A1 (C.length + 1) co1))
      clear q0' f10 u0 v0 hHeld
      go_wp2_with fail
      go_roundw
      case measure => simp [intOf]; omega
      case rel =>
        refine ⟨i - 1, _, C ++ [x9], rfl, by rw [List.length_append, List.length_singleton]; omega, fun x hx => ?_, ?_, n2.out, nF.out, nR.out⟩
        · rcases List.mem_append.1 hx with h | h
          · exact HC.out x h
          · rw [List.mem_singleton.1 h]; exact ⟨hx0, hx20⟩
        · refine nS.out.mono (by rw [List.length_append, List.length_singleton]; omega)
    · have q0 := decide_eq_false (show ¬ (i : Int) > 0 by omega)
      obtain rfl : n1 = C.length := by omega
      obtain ⟨A, c, eV, hc, -⟩ := Kd.R_reads hR
      clear hS hR2 hR3 hR hC hlen
      go_wp2_with fail
      refine (NX.out _ _ 3 SS.out (by omega) (by omega) (by omega)).mono ?_
      rintro e w4 ⟨r3, rfl, hr30, hr33, hS, hK⟩
      have S4 := Lib.hid hS
      have P2 := Lib.hid (KeepBut.fn hK RR2.out (by omega))
      have P3 := Lib.hid (KeepBut.fn hK RR3.out (by omega))
      have PR := Lib.hid (Kd.R_mono (Kd.R_bound (KeepBut.row hK RR.out (fun b hb => by have : b3 < b := hb; omega))) (ok' := fun b => b3 < b ∧ b < w4.heap.size) (fun b hb => ⟨hb.1, hb.2.2.1⟩))
      obtain ⟨lo, hlo⟩ : ∃ lo, w4.heap.size = lo := ⟨_, rfl⟩
      have hb3lo : b3 < lo := by rw [← hlo]; exact P3.out.lt
      rw [hlo] at PR
      clear hS hK SS RR RR2 RR3 hb3l
      obtain ⟨n2, hn2⟩ : ∃ n2 : Nat, 1 + r3 = (n2 : Int) := ⟨(1 + r3).toNat, by omega⟩
      have hn2b : 1 ≤ n2 ∧ n2 ≤ 3 := by omega
      have p3 : IntKind.wrap .i64 (1 + r3) = (n2 : Int) := by rw [i64_w]; unfold wrap64; omega
      clear hn2 hr30 hr33
      go_wp2_with fail
      go_loopw [5] (fun iv wr => ∃ (i : Nat) (V2 : Value) (T : List (List (List S63))), iv = .int .i64 (i : Int) ∧ T.length + i = n2 ∧ (∀ th ∈ T, goodH C.length th) ∧ Sr w0 wr g f0 (100 + 200 * (T.length : Int)) ∧ Fn wr b2 30 3 (pR (.slice none 0 0) 0 (.slice none 0 0)) ∧ Fn wr b3 30 3 (pR V M V2) ∧ ki.R 3 wr w0.heap.size (fun b => b3 < b ∧ b < lo) V C ∧ kT.R 54 wr w0.heap.size (fun b => lo ≤ b) V2 T ∧ lo ≤ wr.heap.size) (fun iv _ => (intOf iv).toNat)
      case atStart => exact ⟨n2, .slice none 0 0, [], rfl, by simp, (fun _ h => by cases h), S4.out.mono (by simp; omega), P2.out, P3.out, PR.out, Kd.R_nil _ _ _ _ _, by omega⟩
      case round =>
        clear S4 P2 P3 PR
        obtain ⟨wt, hwt⟩ : ∃ wt, wt = wr := ⟨_, rfl⟩
        subst hwt
        obtain ⟨i, V2, T, rfl, hlen, hT, hS, hR2, hR3, hR, hRT, hlt⟩ := hrel
        have SS := Lib.hid hS; have RR2 := Lib.hid hR2; have RR3 := Lib.hid hR3; have RR := Lib.hid hR; have RT := Lib.hid hRT; have HT := Lib.hid hT
        clear hS hR2 hR3 hR hRT hT
        by_cases hi : 0 < i
        · have q0 := decide_eq_true (show (i : Int) > 0 by omega)
          have pi : IntKind.wrap .i64 ((i : Int) - 1) = ((i - 1 : Nat) : Int) := by rw [i64_w]; unfold wrap64; omega
          go_wp2_with ((with_reducible refine gate_dst (N := 36) rfl ?_); refine Kd.R_lit (Kd.slice 63 k63) (w0 := w0) w0.heap.size 61 rfl (N := 36) rfl (xs := ([] : List (List S63))) (inner := []) (ok := fun b => wt.heap.size ≤ b) (okp := fun _ => False) (by go_simp) (Reps.none _ _) (fun _ hk => hk.elim) (Nat.le_refl _) (Sr.bel SS.out) (Sr.bel SS.out).size (by simp) ?_; intro vt0 w5 hO5 hB5 hg5 hn5; have K5 := Lib.hid (KeepBut.of_grown hg5 g); have S5 := Lib.hid (Sr.grown SS.out hg5 (by simp) hB5); have O5 := Lib.hid hO5; clear hO5 hB5 hg5 hn5)
          refine (NX.out _ _ 4 S5.out (by omega) (by omega) (by omega)).mono ?_
          rintro e w6 ⟨r6, rfl, hr60, hr64, hS, hK⟩
          have S6 := Lib.hid hS
          have K6 := Lib.hid (K5.out.trans hK (.inl rfl))
          have O6 := Lib.hid (KeepBut.row hK O5.out (fun b hb => by have : wt.heap.size ≤ b := hb; omega))
          clear hS hK S5 K5 O5
          obtain ⟨nk, hnk⟩ : ∃ nk : Nat, r6 = (nk : Int) := ⟨r6.toNat, by omega⟩
          subst hnk
          go_wp2_with fail
          go_loopw [6, 7] (fun vt iv wr => ∃ (k : Nat) (X : List (List S63)), iv = .int .i64 (k : Int) ∧ X.length + k = nk ∧ (∀ x ∈ X, goodX C.length x) ∧ Sr w0 wr g f0 (110 + 200 * (T.length : Int) + 50 * (X.length : Int)) ∧ KeepBut wt wr g none ∧ (Kd.slice 63 k63).R 61 wr w0.heap.size (fun b => wt.heap.size ≤ b) vt X) (fun _ iv _ => (intOf iv).toNat)
          case atStart => exact ⟨nk, [], rfl, by simp, (fun _ h => by cases h), S6.out.mono (by simp; omega), K6.out, O6.out⟩
          case round =>
            clear S6 K6 O6
            obtain ⟨wk, hwk⟩ : ∃ wk, wk = wr := ⟨_, rfl⟩
            subst hwk
            obtain ⟨k, X, rfl, hlen2, hX, hS, hK, hO⟩ := hrel
            have SK := Lib.hid hS; have KK := Lib.hid hK; have OK := Lib.hid hO; have HX := Lib.hid hX
            have hwtk := hK.1
            clear hS hK hX
            by_cases hk : 0 < k
            · have q1 := decide_eq_true (show (k : Int) > 0 by omega)
              have pk : IntKind.wrap .i64 ((k : Int) - 1) = ((k - 1 : Nat) : Int) := by rw [i64_w]; unfold wrap64; omega
              obtain ⟨At, ct, et, hct, -⟩ := Kd.R_reads hO
              subst et
              clear hO
              go_wp2_with ((with_reducible refine gate_dst (N := 43) rfl ?_); refine Kd.R_lit k63 (w0 := w0) w0.heap.size 63 rfl (N := 43) rfl (xs := ([] : List S63)) (inner := []) (ok := fun b => wk.heap.size ≤ b) (okp := fun _ => False) (by go_simp) (Reps.none _ _) (fun _ hk => hk.elim) (Nat.le_refl _) (Sr.bel SK.out) (Sr.bel SK.out).size (by simp) ?_; intro vx0 w7 hO7 hB7 hg7 hn7; have K7 := Lib.hid (KeepBut.of_grown hg7 g); have S7 := Lib.hid (Sr.grown SK.out hg7 (by simp) hB7); have O7 := Lib.hid hO7; clear hO7 hB7 hg7 hn7)
              refine (NX.out _ _ 5 S7.out (by omega) (by omega) (by omega)).mono ?_
              rintro e w8 ⟨r8, rfl, hr80, hr85, hS, hK⟩
              have S8 := Lib.hid hS
              have K8 := Lib.hid (K7.out.trans hK (.inl rfl))
              have O8 := Lib.hid (KeepBut.row hK O7.out (fun b hb => by have : wk.heap.size ≤ b := hb; omega))
              clear hS hK S7 K7 O7
              obtain ⟨nj, hnj⟩ : ∃ nj : Nat, r8 = (nj : Int) := ⟨r8.toNat, by omega⟩
              subst hnj
              go_wp2_with fail
              go_loopw [8, 9] (fun vx iv wr => ∃ (j : Nat) (Y : List S63), iv = .int .i64 (j : Int) ∧ Y.length + j = nj ∧ (∀ o ∈ Y, goodO C.length o) ∧ Sr w0 wr g f0 (115 + 200 * (T.length : Int) + 50 * (X.length : Int) + 9 * (Y.length : Int)) ∧ KeepBut wk wr g none ∧ k63.R 63 wr w0.heap.size (fun b => wk.heap.size ≤ b) vx Y) (fun _ iv _ => (intOf iv).toNat)
              case atStart => exact ⟨nj, [], rfl, by simp, (fun _ h => by cases h), S8.out.mono (by simp; omega), K8.out, O8.out⟩
              case round =>
                clear S8 K8 O8
                obtain ⟨j, Y, rfl, hlen3, hY, hS, hK, hO⟩ := hrel
                have SJ := Lib.hid hS; have KJ := Lib.hid hK; have OJ := Lib.hid hO; have HY := Lib.hid hY
                have hwkj := hK.1
                obtain ⟨Ax, cx, ex, hcx, -⟩ := Kd.R_reads hO
                subst ex
                have J3 := Lib.hid (KeepBut.fn KJ.out (KeepBut.fn KK.out RR3.out (by omega)) (by omega))
                clear hS hK hY hO
                by_cases hj : 0 < j
                · have q2 := decide_eq_true (show (j : Int) > 0 by omega)
                  have pj : IntKind.wrap .i64 ((j : Int) - 1) = ((j - 1 : Nat) : Int) := by rw [i64_w]; unfold wrap64; omega
                  go_wp2_with fail
                  obtain ⟨A0, c0, eV0, hcV⟩ : ∃ A c, V = .slice A C.length c ∧ C.length ≤ c := by
                    obtain ⟨A, c, e, h, -⟩ := Kd.R_reads RR.out
                    exact ⟨A, c, e, h⟩
                  have u0 : wr.drew.cell? ⟨b3, 0, none⟩ = some (.slice A0 C.length c0) := by rw [← eV0]; exact J3.out.cell 0 (by decide)
                  obtain ⟨wd, hdr⟩ : ∃ wd, wr.drew = wd := ⟨_, rfl⟩
                  have CS := Lib.hid (show Sr w0 wd g f0 (115 + 200 * (T.length : Int) + 50 * (X.length : Int) + 9 * (Y.length : Int)) by rw [← hdr]; exact SJ.out.keep (below_drew1 (Below.refl _ _)))
                  have CK := Lib.hid (KeepBut.refl wd g none)
                  have hb3d : b3 < wd.heap.size := by rw [← hdr]; exact J3.out.lt
                  have ud : wd.cell? ⟨b3, 0, none⟩ = some (.slice A0 C.length c0) := by rw [← hdr]; exact u0
                  have hsd : wr.heap.size ≤ wd.heap.size := by rw [← hdr]; exact Nat.le_refl _
                  have hnC := eq_true (show (0 : Int) < (C.length : Int) by omega)
                  refine start_ (n := 14) (S := fun w' => w'.cell? ⟨b3, 0, none⟩ = some (.slice A0 C.length c0)) (ds := [13]) #[false, false, false, false, false, false, false, false, false, false, false, false, false, false] (by kernel_rfl) rfl rfl (u0) (fun hHeld => ?_)
                  rw [hdr] at hHeld ⊢
                  refine pure_ (i := 0) (N := some 50) (v := ?_) (a' := ?_) #[true, false, false, false, false, false, false, false, false, false, false, false, false, false] rfl rfl (by kernel_rfl) (fun _ _ _ h => h) (Or.inl ⟨by rfl, ?_⟩) ?_ ?_
                  rotate_left
                  · intro w'
                    go_simp
                    with_reducible rfl
                  rotate_left
                  · simp only [Act.put, List.setIfInBounds_toArray, List.set_cons_zero, List.set_cons_succ, i64_w, i32_w]
                    rfl
                  refine pure_ (i := 3) (N := some 53) (v := ?_) (a' := ?_) #[true, false, false, true, false, false, false, false, false, false, false, false, false, false] rfl rfl (by kernel_rfl) (fun _ _ _ h => h) (Or.inl ⟨by rfl, ?_⟩) ?_ ?_
                  rotate_left
                  · intro w'
                    go_simp
                    with_reducible rfl
                  rotate_left
                  · simp only [Act.put, List.setIfInBounds_toArray, List.set_cons_zero, List.set_cons_succ, i64_w, i32_w]
                    rfl
                  refine pure_ (i := 4) (N := some 54) (v := ?_) (a' := ?_) #[true, false, false, true, true, false, false, false, false, false, false, false, false, false] rfl rfl (by kernel_rfl) (fun _ _ _ h => h) (Or.inl ⟨by rfl, ?_⟩) ?_ ?_
                  rotate_left
                  · intro w'
                    go_simp
                    with_reducible rfl
                  rotate_left
                  · simp only [Act.put, List.setIfInBounds_toArray, List.set_cons_zero, List.set_cons_succ, i64_w, i32_w]
                    rfl
                  refine pure_ (i := 8) (N := some 58) (v := ?_) (a' := ?_) #[true, false, false, true, true, false, false, false, true, false, false, false, false, false] rfl rfl (by kernel_rfl) (fun _ _ _ h => h) (Or.inl ⟨by rfl, ?_⟩) ?_ ?_
                  rotate_left
                  · intro w'
                    go_simp
                    with_reducible rfl
                  rotate_left
                  · simp only [Act.put, List.setIfInBounds_toArray, List.set_cons_zero, List.set_cons_succ, i64_w, i32_w]
                    rfl
                  refine take_ (i := 5) (N := some 55) (v := ?_) (a' := ?_) #[true, false, false, true, true, true, false, false, true, false, false, false, false, false] rfl rfl (by kernel_rfl) (fun _ _ _ h => h) (Or.inl ⟨by rfl, ?_⟩) hHeld ?_ ?_
                  rotate_left
                  · intro w' s0
                    go_simp
                    with_reducible rfl
                  rotate_left
                  · simp only [Act.put, List.setIfInBounds_toArray, List.set_cons_zero, List.set_cons_succ, i64_w, i32_w]
                    rfl
                  refine pure_ (i := 6) (N := some 56) (v := ?_) (a' := ?_) #[true, false, false, true, true, true, true, false, true, false, false, false, false, false] rfl rfl (by kernel_rfl) (fun _ _ _ h => h) (Or.inl ⟨by rfl, ?_⟩) ?_ ?_
                  rotate_left
                  · intro w'
                    go_simp
                    with_reducible rfl
                  rotate_left
                  · simp only [Act.put, List.setIfInBounds_toArray, List.set_cons_zero, List.set_cons_succ, i64_w, i32_w]
                    rfl
                  refine join_ (σ := Int × Int × Int × Nat) 1 #[true, true, true, true, true, true, true, true, true, true, true, true, true, false] (fun s => [(51, .int .i64 s.1), (52, .int .i64 (1 + s.1)), (57, .int .i64 s.2.1), (59, .int .i64 s.2.2.1), (60, .int .i64 (s.2.2.1 - 2)), (61, .agg #[.int .i64 (1 + s.1), .int .i64 s.2.1, .int .i64 (s.2.2.1 - 2)]), (10, .pointer (some ⟨s.2.2.2, 0, none⟩))]) (fun s w' => Sr w0 w' g f0 (124 + 200 * (T.length : Int) + 50 * (X.length : Int) + 9 * (Y.length : Int)) ∧ KeepBut wd w' g none ∧ w'.heap[s.2.2.2]? = some (.cells #[.int .i64 0, .int .i64 0, .int .i64 0] 63 (0, 0)) ∧ wd.heap.size ≤ s.2.2.2 ∧ (0 ≤ s.1 ∧ s.1 < 3) ∧ (0 ≤ s.2.1 ∧ s.2.1 < (C.length : Int)) ∧ (0 ≤ s.2.2.1 ∧ s.2.2.1 < 9)) ?_ ?_
                  rotate_left
                  · intro hCont
                    refine two_ (i := 1) (j := 12) (Ni := some 51) (Nj := some 10) #[true, true, false, true, true, true, true, false, true, false, false, false, false, false] #[true, false, false, true, true, true, true, false, true, false, false, false, true, false] rfl rfl rfl rfl (by kernel_rfl) (by decide) (by decide) (fun K hK => ?_) (fun K hK => ?_)
                    · skip
                      refine goes_ Try.func51 (by kernel_rfl) rfl #[.pointer (some ⟨g, 0, none⟩), .int .i64 3] (by rfl) rfl rfl (by simp only [List.map_toArray, List.map_cons, List.map_nil]; rfl) ?_
                      with_reducible refine (NX.out _ _ 3 CS.out (by omega) (by omega) (by omega)).mono ?_
                      rintro e w21 ⟨ra, rfl, hra0, hra1, hS, hK⟩
                      refine ⟨_, rfl, ?_⟩
                      have CK' := Lib.hid (CK.out.trans hK (.inl rfl))
                      have CS' := Lib.hid hS
                      have pw1 : IntKind.wrap .i64 (1 + ra) = 1 + ra := by rw [i64_w]; unfold wrap64; omega
                      clear hS hK CS CK
                      have CS := CS'
                      have CK := CK'
                      clear CS' CK'
                      refine hK.out _ _ ((cell_same (CK.out.2 b3 hb3d (by omega) (by simp)) 0).trans ud) (fun hHeld => ?_)
                      clear hK K
                      refine norm_ (a' := ?_) ?_ ?_
                      rotate_left
                      · show Act.put _ (some 51) _ = _
                        simp only [Act.put, List.setIfInBounds_toArray, List.set_cons_zero, List.set_cons_succ, i64_w, i32_w]
                        rfl
                      refine pure_ (i := 2) (N := some 52) (v := ?_) (a' := ?_) #[true, true, true, true, true, true, true, false, true, false, false, false, false, false] rfl rfl (by kernel_rfl) (fun _ _ _ h => h) (Or.inl ⟨by rfl, ?_⟩) ?_ ?_
                      rotate_left
                      · intro w'
                        go_simp
                        with_reducible rfl
                      rotate_left
                      · simp only [Act.put, List.setIfInBounds_toArray, List.set_cons_zero, List.set_cons_succ, i64_w, i32_w]
                        rfl
                      refine two_ (i := 7) (j := 12) (Ni := some 57) (Nj := some 10) #[true, true, true, true, true, true, true, true, true, false, false, false, false, false] #[true, true, true, true, true, true, true, false, true, false, false, false, true, false] rfl rfl rfl rfl (by kernel_rfl) (by decide) (by decide) (fun K hK => ?_) (fun K hK => ?_)
                      · skip
                        refine goes_ Try.func51 (by kernel_rfl) rfl #[.pointer (some ⟨g, 0, none⟩), .int .i64 (C.length : Int)] (by rfl) rfl rfl (by simp only [List.map_toArray, List.map_cons, List.map_nil]; rfl) ?_
                        with_reducible refine (NX.out _ _ (C.length : Int) CS.out (by omega) (by omega) (by omega)).mono ?_
                        rintro e w22 ⟨rb, rfl, hrb0, hrb1, hS, hK⟩
                        refine ⟨_, rfl, ?_⟩
                        have CK' := Lib.hid (CK.out.trans hK (.inl rfl))
                        have CS' := Lib.hid hS
                        clear hS hK CS CK
                        have CS := CS'
                        have CK := CK'
                        clear CS' CK'
                        refine hK.out _ _ ((cell_same (CK.out.2 b3 hb3d (by omega) (by simp)) 0).trans ud) (fun hHeld => ?_)
                        clear hK K
                        refine norm_ (a' := ?_) ?_ ?_
                        rotate_left
                        · show Act.put _ (some 57) _ = _
                          simp only [Act.put, List.setIfInBounds_toArray, List.set_cons_zero, List.set_cons_succ, i64_w, i32_w]
                          rfl
                        refine two_ (i := 9) (j := 12) (Ni := some 59) (Nj := some 10) #[true, true, true, true, true, true, true, true, true, true, false, false, false, false] #[true, true, true, true, true, true, true, true, true, false, false, false, true, false] rfl rfl rfl rfl (by kernel_rfl) (by decide) (by decide) (fun K hK => ?_) (fun K hK => ?_)
                        · skip
                          refine goes_ Try.func51 (by kernel_rfl) rfl #[.pointer (some ⟨g, 0, none⟩), .int .i64 9] (by rfl) rfl rfl (by simp only [List.map_toArray, List.map_cons, List.map_nil]; rfl) ?_
                          with_reducible refine (NX.out _ _ 9 CS.out (by omega) (by omega) (by omega)).mono ?_
                          rintro e w23 ⟨rc, rfl, hrc0, hrc1, hS, hK⟩
                          refine ⟨_, rfl, ?_⟩
                          have CK' := Lib.hid (CK.out.trans hK (.inl rfl))
                          have CS' := Lib.hid hS
                          have pw9 : IntKind.wrap .i64 (rc - 2) = rc - 2 := by rw [i64_w]; unfold wrap64; omega
                          clear hS hK CS CK
                          have CS := CS'
                          have CK := CK'
                          clear CS' CK'
                          refine hK.out _ _ ((cell_same (CK.out.2 b3 hb3d (by omega) (by simp)) 0).trans ud) (fun hHeld => ?_)
                          clear hK K
                          refine norm_ (a' := ?_) ?_ ?_
                          rotate_left
                          · show Act.put _ (some 59) _ = _
                            simp only [Act.put, List.setIfInBounds_toArray, List.set_cons_zero, List.set_cons_succ, i64_w, i32_w]
                            rfl
                          refine pure_ (i := 10) (N := some 60) (v := ?_) (a' := ?_) #[true, true, true, true, true, true, true, true, true, true, true, false, false, false] rfl rfl (by kernel_rfl) (fun _ _ _ h => h) (Or.inl ⟨by rfl, ?_⟩) ?_ ?_
                          rotate_left
                          · intro w'
                            go_simp
                            with_reducible rfl
                          rotate_left
                          · simp only [Act.put, List.setIfInBounds_toArray, List.set_cons_zero, List.set_cons_succ, i64_w, i32_w]
                            rfl
                          refine pure_ (i := 11) (N := some 61) (v := ?_) (a' := ?_) #[true, true, true, true, true, true, true, true, true, true, true, true, false, false] rfl rfl (by kernel_rfl) (fun _ _ _ h => h) (Or.inl ⟨by rfl, ?_⟩) ?_ ?_
                          rotate_left
                          · intro w'
                            go_simp
                            with_reducible rfl
                          rotate_left
                          · simp only [Act.put, List.setIfInBounds_toArray, List.set_cons_zero, List.set_cons_succ, i64_w, i32_w]
                            rfl
                          refine one_ (i := 12) (N := some 10) #[true, true, true, true, true, true, true, true, true, true, true, true, true, false] rfl rfl (by kernel_rfl) (by decide) (fun K hK => ?_)
                          refine value_ (w1 := ?_) (v := ?_) (by rfl) rfl ?_ ?_
                          rotate_left 2
                          · go_simp
                            constructor
                            · rfl
                            · rfl
                          have hB := below_alloc (Below.refl (w23).heap.size (w23)) (.cells #[.int .i64 0, .int .i64 0, .int .i64 0] 63)
                          have CA := Lib.hid (heap_alloc_new (w23) (.cells #[.int .i64 0, .int .i64 0, .int .i64 0] 63))
                          have hbx : wd.heap.size ≤ (w23).heap.size := CK.out.1
                          have CS' := Lib.hid (CS.out.keep hB)
                          have CK' := Lib.hid (CK.out.trans (KeepBut.of_below hB g none) (.inl rfl))
                          clear hB CS CK
                          have CS := CS'
                          have CK := CK'
                          clear CS' CK'
                          refine hK.out _ _ ((cell_same (CK.out.2 b3 hb3d (by omega) (by simp)) 0).trans ud) (fun hHeld => ?_)
                          clear hK K
                          refine norm_ (a' := ?_) ?_ ?_
                          rotate_left
                          · show Act.put _ (some 10) _ = _
                            simp only [Act.put, List.setIfInBounds_toArray, List.set_cons_zero, List.set_cons_succ, i64_w, i32_w]
                            rfl
                          exact norm_ (by simp only [putAll, Act.put, List.setIfInBounds_toArray, List.set_cons_zero, List.set_cons_succ]) (hCont (ra, rb, rc, w23.heap.size) _ ⟨CS.out.mono (by omega), CK.out, CA.out, hbx, ⟨hra0, hra1⟩, ⟨hrb0, hrb1⟩, ⟨hrc0, hrc1⟩⟩)
                        · skip
                          refine value_ (w1 := ?_) (v := ?_) (by rfl) rfl ?_ ?_
                          rotate_left 2
                          · go_simp
                            constructor
                            · rfl
                            · rfl
                          have hB := below_alloc (Below.refl (w22).heap.size (w22)) (.cells #[.int .i64 0, .int .i64 0, .int .i64 0] 63)
                          have CA := Lib.hid (heap_alloc_new (w22) (.cells #[.int .i64 0, .int .i64 0, .int .i64 0] 63))
                          have hbx : wd.heap.size ≤ (w22).heap.size := CK.out.1
                          have CS' := Lib.hid (CS.out.keep hB)
                          have CK' := Lib.hid (CK.out.trans (KeepBut.of_below hB g none) (.inl rfl))
                          clear hB CS CK
                          have CS := CS'
                          have CK := CK'
                          clear CS' CK'
                          refine hK.out _ _ ((cell_same (CK.out.2 b3 hb3d (by omega) (by simp)) 0).trans ud) (fun hHeld => ?_)
                          clear hK K
                          refine norm_ (a' := ?_) ?_ ?_
                          rotate_left
                          · show Act.put _ (some 10) _ = _
                            simp only [Act.put, List.setIfInBounds_toArray, List.set_cons_zero, List.set_cons_succ, i64_w, i32_w]
                            rfl
                          refine one_ (i := 9) (N := some 59) #[true, true, true, true, true, true, true, true, true, true, false, false, true, false] rfl rfl (by kernel_rfl) (by decide) (fun K hK => ?_)
                          refine goes_ Try.func51 (by kernel_rfl) rfl #[.pointer (some ⟨g, 0, none⟩), .int .i64 9] (by rfl) rfl rfl (by simp only [List.map_toArray, List.map_cons, List.map_nil]; rfl) ?_
                          with_reducible refine (NX.out _ _ 9 CS.out (by omega) (by omega) (by omega)).mono ?_
                          rintro e w23 ⟨rc, rfl, hrc0, hrc1, hS, hK⟩
                          refine ⟨_, rfl, ?_⟩
                          have CK' := Lib.hid (CK.out.trans hK (.inl rfl))
                          have CA' := Lib.hid ((hK.2 w22.heap.size (blk_lt CA.out) (by omega) (by simp)).trans CA.out)
                          have CS' := Lib.hid hS
                          have pw9 : IntKind.wrap .i64 (rc - 2) = rc - 2 := by rw [i64_w]; unfold wrap64; omega
                          clear hS hK CS CK CA
                          have CS := CS'
                          have CK := CK'
                          clear CS' CK'
                          have CA := CA'
                          clear CA'
                          refine hK.out _ _ ((cell_same (CK.out.2 b3 hb3d (by omega) (by simp)) 0).trans ud) (fun hHeld => ?_)
                          clear hK K
                          refine norm_ (a' := ?_) ?_ ?_
                          rotate_left
                          · show Act.put _ (some 59) _ = _
                            simp only [Act.put, List.setIfInBounds_toArray, List.set_cons_zero, List.set_cons_succ, i64_w, i32_w]
                            rfl
                          refine pure_ (i := 10) (N := some 60) (v := ?_) (a' := ?_) #[true, true, true, true, true, true, true, true, true, true, true, false, true, false] rfl rfl (by kernel_rfl) (fun _ _ _ h => h) (Or.inl ⟨by rfl, ?_⟩) ?_ ?_
                          rotate_left
                          · intro w'
                            go_simp
                            with_reducible rfl
                          rotate_left
                          · simp only [Act.put, List.setIfInBounds_toArray, List.set_cons_zero, List.set_cons_succ, i64_w, i32_w]
                            rfl
                          refine pure_ (i := 11) (N := some 61) (v := ?_) (a' := ?_) #[true, true, true, true, true, true, true, true, true, true, true, true, true, false] rfl rfl (by kernel_rfl) (fun _ _ _ h => h) (Or.inl ⟨by rfl, ?_⟩) ?_ ?_
                          rotate_left
                          · intro w'
                            go_simp
                            with_reducible rfl
                          rotate_left
                          · simp only [Act.put, List.setIfInBounds_toArray, List.set_cons_zero, List.set_cons_succ, i64_w, i32_w]
                            rfl
                          exact norm_ (by simp only [putAll, Act.put, List.setIfInBounds_toArray, List.set_cons_zero, List.set_cons_succ]) (hCont (ra, rb, rc, w22.heap.size) _ ⟨CS.out.mono (by omega), CK.out, CA.out, hbx, ⟨hra0, hra1⟩, ⟨hrb0, hrb1⟩, ⟨hrc0, hrc1⟩⟩)
                      · skip
                        refine value_ (w1 := ?_) (v := ?_) (by rfl) rfl ?_ ?_
                        rotate_left 2
                        · go_simp
                          constructor
                          · rfl
                          · rfl
                        have hB := below_alloc (Below.refl (w21).heap.size (w21)) (.cells #[.int .i64 0, .int .i64 0, .int .i64 0] 63)
                        have CA := Lib.hid (heap_alloc_new (w21) (.cells #[.int .i64 0, .int .i64 0, .int .i64 0] 63))
                        have hbx : wd.heap.size ≤ (w21).heap.size := CK.out.1
                        have CS' := Lib.hid (CS.out.keep hB)
                        have CK' := Lib.hid (CK.out.trans (KeepBut.of_below hB g none) (.inl rfl))
                        clear hB CS CK
                        have CS := CS'
                        have CK := CK'
                        clear CS' CK'
                        refine hK.out _ _ ((cell_same (CK.out.2 b3 hb3d (by omega) (by simp)) 0).trans ud) (fun hHeld => ?_)
                        clear hK K
                        refine norm_ (a' := ?_) ?_ ?_
                        rotate_left
                        · show Act.put _ (some 10) _ = _
                          simp only [Act.put, List.setIfInBounds_toArray, List.set_cons_zero, List.set_cons_succ, i64_w, i32_w]
                          rfl
                        refine one_ (i := 7) (N := some 57) #[true, true, true, true, true, true, true, true, true, false, false, false, true, false] rfl rfl (by kernel_rfl) (by decide) (fun K hK => ?_)
                        refine goes_ Try.func51 (by kernel_rfl) rfl #[.pointer (some ⟨g, 0, none⟩), .int .i64 (C.length : Int)] (by rfl) rfl rfl (by simp only [List.map_toArray, List.map_cons, List.map_nil]; rfl) ?_
                        with_reducible refine (NX.out _ _ (C.length : Int) CS.out (by omega) (by omega) (by omega)).mono ?_
                        rintro e w22 ⟨rb, rfl, hrb0, hrb1, hS, hK⟩
                        refine ⟨_, rfl, ?_⟩
                        have CK' := Lib.hid (CK.out.trans hK (.inl rfl))
                        have CA' := Lib.hid ((hK.2 w21.heap.size (blk_lt CA.out) (by omega) (by simp)).trans CA.out)
                        have CS' := Lib.hid hS
                        clear hS hK CS CK CA
                        have CS := CS'
                        have CK := CK'
                        clear CS' CK'
                        have CA := CA'
                        clear CA'
                        refine hK.out _ _ ((cell_same (CK.out.2 b3 hb3d (by omega) (by simp)) 0).trans ud) (fun hHeld => ?_)
                        clear hK K
                        refine norm_ (a' := ?_) ?_ ?_
                        rotate_left
                        · show Act.put _ (some 57) _ = _
                          simp only [Act.put, List.setIfInBounds_toArray, List.set_cons_zero, List.set_cons_succ, i64_w, i32_w]
                          rfl
                        refine one_ (i := 9) (N := some 59) #[true, true, true, true, true, true, true, true, true, true, false, false, true, false] rfl rfl (by kernel_rfl) (by decide) (fun K hK => ?_)
                        refine goes_ Try.func51 (by kernel_rfl) rfl #[.pointer (some ⟨g, 0, none⟩), .int .i64 9] (by rfl) rfl rfl (by simp only [List.map_toArray, List.map_cons, List.map_nil]; rfl) ?_
                        with_reducible refine (NX.out _ _ 9 CS.out (by omega) (by omega) (by omega)).mono ?_
                        rintro e w23 ⟨rc, rfl, hrc0, hrc1, hS, hK⟩
                        refine ⟨_, rfl, ?_⟩
                        have CK' := Lib.hid (CK.out.trans hK (.inl rfl))
                        have CA' := Lib.hid ((hK.2 w21.heap.size (blk_lt CA.out) (by omega) (by simp)).trans CA.out)
                        have CS' := Lib.hid hS
                        have pw9 : IntKind.wrap .i64 (rc - 2) = rc - 2 := by rw [i64_w]; unfold wrap64; omega
                        clear hS hK CS CK CA
                        have CS := CS'
                        have CK := CK'
                        clear CS' CK'
                        have CA := CA'
                        clear CA'
                        refine hK.out _ _ ((cell_same (CK.out.2 b3 hb3d (by omega) (by simp)) 0).trans ud) (fun hHeld => ?_)
                        clear hK K
                        refine norm_ (a' := ?_) ?_ ?_
                        rotate_left
                        · show Act.put _ (some 59) _ = _
                          simp only [Act.put, List.setIfInBounds_toArray, List.set_cons_zero, List.set_cons_succ, i64_w, i32_w]
                          rfl
                        refine pure_ (i := 10) (N := some 60) (v := ?_) (a' := ?_) #[true, true, true, true, true, true, true, true, true, true, true, false, true, false] rfl rfl (by kernel_rfl) (fun _ _ _ h => h) (Or.inl ⟨by rfl, ?_⟩) ?_ ?_
                        rotate_left
                        · intro w'
                          go_simp
                          with_reducible rfl
                        rotate_left
                        · simp only [Act.put, List.setIfInBounds_toArray, List.set_cons_zero, List.set_cons_succ, i64_w, i32_w]
                          rfl
                        refine pure_ (i := 11) (N := some 61) (v := ?_) (a' := ?_) #[true, true, true, true, true, true, true, true, true, true, true, true, true, false] rfl rfl (by kernel_rfl) (fun _ _ _ h => h) (Or.inl ⟨by rfl, ?_⟩) ?_ ?_
                        rotate_left
                        · intro w'
                          go_simp
                          with_reducible rfl
                        rotate_left
                        · simp only [Act.put, List.setIfInBounds_toArray, List.set_cons_zero, List.set_cons_succ, i64_w, i32_w]
                          rfl
                        exact norm_ (by simp only [putAll, Act.put, List.setIfInBounds_toArray, List.set_cons_zero, List.set_cons_succ]) (hCont (ra, rb, rc, w21.heap.size) _ ⟨CS.out.mono (by omega), CK.out, CA.out, hbx, ⟨hra0, hra1⟩, ⟨hrb0, hrb1⟩, ⟨hrc0, hrc1⟩⟩)
                    · skip
                      refine value_ (w1 := ?_) (v := ?_) (by rfl) rfl ?_ ?_
                      rotate_left 2
                      · go_simp
                        constructor
                        · rfl
                        · rfl
                      have hB := below_alloc (Below.refl (wd).heap.size (wd)) (.cells #[.int .i64 0, .int .i64 0, .int .i64 0] 63)
                      have CA := Lib.hid (heap_alloc_new (wd) (.cells #[.int .i64 0, .int .i64 0, .int .i64 0] 63))
                      have hbx : wd.heap.size ≤ (wd).heap.size := CK.out.1
                      have CS' := Lib.hid (CS.out.keep hB)
                      have CK' := Lib.hid (CK.out.trans (KeepBut.of_below hB g none) (.inl rfl))
                      clear hB CS CK
                      have CS := CS'
                      have CK := CK'
                      clear CS' CK'
                      refine hK.out _ _ ((cell_same (CK.out.2 b3 hb3d (by omega) (by simp)) 0).trans ud) (fun hHeld => ?_)
                      clear hK K
                      refine norm_ (a' := ?_) ?_ ?_
                      rotate_left
                      · show Act.put _ (some 10) _ = _
                        simp only [Act.put, List.setIfInBounds_toArray, List.set_cons_zero, List.set_cons_succ, i64_w, i32_w]
                        rfl
                      refine one_ (i := 1) (N := some 51) #[true, true, false, true, true, true, true, false, true, false, false, false, true, false] rfl rfl (by kernel_rfl) (by decide) (fun K hK => ?_)
                      refine goes_ Try.func51 (by kernel_rfl) rfl #[.pointer (some ⟨g, 0, none⟩), .int .i64 3] (by rfl) rfl rfl (by simp only [List.map_toArray, List.map_cons, List.map_nil]; rfl) ?_
                      with_reducible refine (NX.out _ _ 3 CS.out (by omega) (by omega) (by omega)).mono ?_
                      rintro e w21 ⟨ra, rfl, hra0, hra1, hS, hK⟩
                      refine ⟨_, rfl, ?_⟩
                      have CK' := Lib.hid (CK.out.trans hK (.inl rfl))
                      have CA' := Lib.hid ((hK.2 wd.heap.size (blk_lt CA.out) (by omega) (by simp)).trans CA.out)
                      have CS' := Lib.hid hS
                      have pw1 : IntKind.wrap .i64 (1 + ra) = 1 + ra := by rw [i64_w]; unfold wrap64; omega
                      clear hS hK CS CK CA
                      have CS := CS'
                      have CK := CK'
                      clear CS' CK'
                      have CA := CA'
                      clear CA'
                      refine hK.out _ _ ((cell_same (CK.out.2 b3 hb3d (by omega) (by simp)) 0).trans ud) (fun hHeld => ?_)
                      clear hK K
                      refine norm_ (a' := ?_) ?_ ?_
                      rotate_left
                      · show Act.put _ (some 51) _ = _
                        simp only [Act.put, List.setIfInBounds_toArray, List.set_cons_zero, List.set_cons_succ, i64_w, i32_w]
                        rfl
                      refine pure_ (i := 2) (N := some 52) (v := ?_) (a' := ?_) #[true, true, true, true, true, true, true, false, true, false, false, false, true, false] rfl rfl (by kernel_rfl) (fun _ _ _ h => h) (Or.inl ⟨by rfl, ?_⟩) ?_ ?_
                      rotate_left
                      · intro w'
                        go_simp
                        with_reducible rfl
                      rotate_left
                      · simp only [Act.put, List.setIfInBounds_toArray, List.set_cons_zero, List.set_cons_succ, i64_w, i32_w]
                        rfl
                      refine one_ (i := 7) (N := some 57) #[true, true, true, true, true, true, true, true, true, false, false, false, true, false] rfl rfl (by kernel_rfl) (by decide) (fun K hK => ?_)
                      refine goes_ Try.func51 (by kernel_rfl) rfl #[.pointer (some ⟨g, 0, none⟩), .int .i64 (C.length : Int)] (by rfl) rfl rfl (by simp only [List.map_toArray, List.map_cons, List.map_nil]; rfl) ?_
                      with_reducible refine (NX.out _ _ (C.length : Int) CS.out (by omega) (by omega) (by omega)).mono ?_
                      rintro e w22 ⟨rb, rfl, hrb0, hrb1, hS, hK⟩
                      refine ⟨_, rfl, ?_⟩
                      have CK' := Lib.hid (CK.out.trans hK (.inl rfl))
                      have CA' := Lib.hid ((hK.2 wd.heap.size (blk_lt CA.out) (by omega) (by simp)).trans CA.out)
                      have CS' := Lib.hid hS
                      clear hS hK CS CK CA
                      have CS := CS'
                      have CK := CK'
                      clear CS' CK'
                      have CA := CA'
                      clear CA'
                      refine hK.out _ _ ((cell_same (CK.out.2 b3 hb3d (by omega) (by simp)) 0).trans ud) (fun hHeld => ?_)
                      clear hK K
                      refine norm_ (a' := ?_) ?_ ?_
                      rotate_left
                      · show Act.put _ (some 57) _ = _
                        simp only [Act.put, List.setIfInBounds_toArray, List.set_cons_zero, List.set_cons_succ, i64_w, i32_w]
                        rfl
                      refine one_ (i := 9) (N := some 59) #[true, true, true, true, true, true, true, true, true, true, false, false, true, false] rfl rfl (by kernel_rfl) (by decide) (fun K hK => ?_)
                      refine goes_ Try.func51 (by kernel_rfl) rfl #[.pointer (some ⟨g, 0, none⟩), .int .i64 9] (by rfl) rfl rfl (by simp only [List.map_toArray, List.map_cons, List.map_nil]; rfl) ?_
                      with_reducible refine (NX.out _ _ 9 CS.out (by omega) (by omega) (by omega)).mono ?_
                      rintro e w23 ⟨rc, rfl, hrc0, hrc1, hS, hK⟩
                      refine ⟨_, rfl, ?_⟩
                      have CK' := Lib.hid (CK.out.trans hK (.inl rfl))
                      have CA' := Lib.hid ((hK.2 wd.heap.size (blk_lt CA.out) (by omega) (by simp)).trans CA.out)
                      have CS' := Lib.hid hS
                      have pw9 : IntKind.wrap .i64 (rc - 2) = rc - 2 := by rw [i64_w]; unfold wrap64; omega
                      clear hS hK CS CK CA
                      have CS := CS'
                      have CK := CK'
                      clear CS' CK'
                      have CA := CA'
                      clear CA'
                      refine hK.out _ _ ((cell_same (CK.out.2 b3 hb3d (by omega) (by simp)) 0).trans ud) (fun hHeld => ?_)
                      clear hK K
                      refine norm_ (a' := ?_) ?_ ?_
                      rotate_left
                      · show Act.put _ (some 59) _ = _
                        simp only [Act.put, List.setIfInBounds_toArray, List.set_cons_zero, List.set_cons_succ, i64_w, i32_w]
                        rfl
                      refine pure_ (i := 10) (N := some 60) (v := ?_) (a' := ?_) #[true, true, true, true, true, true, true, true, true, true, true, false, true, false] rfl rfl (by kernel_rfl) (fun _ _ _ h => h) (Or.inl ⟨by rfl, ?_⟩) ?_ ?_
                      rotate_left
                      · intro w'
                        go_simp
                        with_reducible rfl
                      rotate_left
                      · simp only [Act.put, List.setIfInBounds_toArray, List.set_cons_zero, List.set_cons_succ, i64_w, i32_w]
                        rfl
                      refine pure_ (i := 11) (N := some 61) (v := ?_) (a' := ?_) #[true, true, true, true, true, true, true, true, true, true, true, true, true, false] rfl rfl (by kernel_rfl) (fun _ _ _ h => h) (Or.inl ⟨by rfl, ?_⟩) ?_ ?_
                      rotate_left
                      · intro w'
                        go_simp
                        with_reducible rfl
                      rotate_left
                      · simp only [Act.put, List.setIfInBounds_toArray, List.set_cons_zero, List.set_cons_succ, i64_w, i32_w]
                        rfl
                      exact norm_ (by simp only [putAll, Act.put, List.setIfInBounds_toArray, List.set_cons_zero, List.set_cons_succ]) (hCont (ra, rb, rc, wd.heap.size) _ ⟨CS.out.mono (by omega), CK.out, CA.out, hbx, ⟨hra0, hra1⟩, ⟨hrb0, hrb1⟩, ⟨hrc0, hrc1⟩⟩)
                  rintro ⟨ra, rb, rc, bx⟩ wX ⟨hS, hK, hA, hbx, hra, hrb, hrc⟩
                  simp only at hS hK hA hbx hra hrb hrc
                  have XS := Lib.hid hS
                  have XK := Lib.hid hK
                  have XA := Lib.hid hA
                  have z0 : ∀ o, wX.frozen? ⟨bx, o, none⟩ = false := fun o => by simp [World.frozen?, hA]
                  have k0 := blk_cell hA 0
                  have k1 := blk_cell hA 1
                  have k2 := blk_cell hA 2
                  simp only [List.getElem?_toArray, List.getElem?_cons_succ, List.getElem?_cons_zero] at k0 k1 k2
                  have hHeld : wX.cell? ⟨b3, 0, none⟩ = some (.slice A0 C.length c0) := (cell_same (hK.2 b3 hb3d (by omega) (by simp)) 0).trans ud
                  clear hS hK hA
                  refine norm_ (a' := ?_) ?_ ?_
                  rotate_left
                  · simp only [putAll, Act.put, List.setIfInBounds_toArray, List.set_cons_zero, List.set_cons_succ]
                    rfl
                  refine last_ (i := 13) (N := none) #[true, true, true, true, true, true, true, true, true, true, true, true, true, true] rfl rfl (by kernel_rfl) (by decide) (fun K hK => ?_)
                  refine skip_ (w1 := ?_) (by rfl) rfl ?_ ?_
                  rotate_left
                  · go_simp
                    rfl
                  refine hK.out _ _ ?_
                  clear hK K
                  refine done_ (by kernel_rfl) ?_
                  obtain ⟨W5, hW5⟩ : ∃ W5, ((wX.setCell ⟨bx, 0, none⟩ (.int .i64 (1 + ra))).setCell ⟨bx, 1, none⟩ (.int .i64 rb)).setCell ⟨bx, 2, none⟩ (.int .i64 (rc - 2)) = W5 := ⟨_, rfl⟩
                  rw [hW5]
                  have hbg : bx ≠ g := by omega
                  have hb0 : w0.heap.size ≤ bx := by omega
                  have B5 := Lib.hid (show W5.heap[bx]? = some (.cells #[.int .i64 (1 + ra), .int .i64 rb, .int .i64 (rc - 2)] 63 (0, 0)) by rw [← hW5]; exact blk_set (blk_set (blk_set XA.out 0 _) 1 _) 2 _)
                  have S5 := Lib.hid (show Sr w0 W5 g f0 (124 + 200 * (T.length : Int) + 50 * (X.length : Int) + 9 * (Y.length : Int)) by rw [← hW5]; exact Sr.set (Sr.set (Sr.set XS.out (p := ⟨bx, 0, none⟩) hbg hb0 _) (p := ⟨bx, 1, none⟩) hbg hb0 _) (p := ⟨bx, 2, none⟩) hbg hb0 _)
                  have K5 := Lib.hid (show KeepBut wd W5 g none by rw [← hW5]; exact KeepBut.setNew (KeepBut.setNew (KeepBut.setNew XK.out (p := ⟨bx, 0, none⟩) hbx _) (p := ⟨bx, 1, none⟩) hbx _) (p := ⟨bx, 2, none⟩) hbx _)
                  have OD := Lib.hid (show k63.R 63 wd w0.heap.size (fun b => wk.heap.size ≤ b) (.slice Ax Y.length cx) Y by rw [← hdr]; exact OJ.out)
                  have KD := Lib.hid (show KeepBut wk wd g none by rw [← hdr]; exact KJ.out)
                  clear hW5 XA XS XK k0 k1 k2 z0 hHeld hdr u0 CS CK ud SJ J3
                  have a0 := blk_cell B5.out 0; have a1 := blk_cell B5.out 1; have a2 := blk_cell B5.out 2
                  simp only [List.getElem?_toArray, List.getElem?_cons_succ, List.getElem?_cons_zero] at a0 a1 a2
                  have z5 : ∀ o, W5.frozen? ⟨bx, o, none⟩ = false := fun o => by simp [World.frozen?, B5.out]
                  by_cases hra0 : ra = 0
                  · have q4 : ((1 + ra : Int) == 1) = true := by rw [beq_iff_eq]; omega
                    have HRA := Lib.hid hra0
                    clear hra0
                    have B6 := Lib.hid (show (W5.setCell ⟨bx, 2, none⟩ (.int .i64 0)).heap[bx]? = some (.cells #[.int .i64 (1 + ra), .int .i64 rb, .int .i64 0] 63 (0, 0)) from blk_set B5.out 2 (.int .i64 0))
                    have c0 := blk_cell B6.out 0; have c1 := blk_cell B6.out 1; have c2 := blk_cell B6.out 2
                    simp only [List.getElem?_toArray, List.getElem?_cons_succ, List.getElem?_cons_zero] at c0 c1 c2
                    have SW := Lib.hid (Sr.set S5.out (p := ⟨bx, 2, none⟩) hbg hb0 (.int .i64 0))
                    have KW := Lib.hid (KeepBut.setNew K5.out (p := ⟨bx, 2, none⟩) hbx (.int .i64 0))
                    have hsz : (W5.setCell ⟨bx, 2, none⟩ (Value.int .i64 0)).heap.size = W5.heap.size := by simp [World.setCell]
                    have HR := Lib.hid (KeepBut.row KW.out OD.out (fun b hb => by have : wk.heap.size ≤ b := hb; omega))
                    have hwdW := KW.out.1
                    go_wp2_with ((with_reducible refine gate_builtin (b := .append) (xs := #[.tmp 66, .tmp 68]) rfl ?_); at_builtin; refine Kd.R_append k63 (w0 := w0) w0.heap.size rfl (.tmp 66) (.tmp 68) 61 63 (.agg #[.int .i64 0, .int .i64 0, .int .i64 0]) 24 rfl Try.underlying61 info63 rfl (by decide) (by decide) (.slice Ax Y.length cx) Y ⟨1 + ra, rb, 0⟩ _ (fun b => wk.heap.size ≤ b) (fun _ => False) rfl (by rw [hsz]; rfl) (k63_mkM _ w0.heap.size (fun _ => False) ⟨1 + ra, rb, 0⟩) (fun _ h => h.elim) (fun k hk => by show wk.heap.size ≤ k; omega) HR.out (Sr.bel SW.out) (Sr.bel SW.out).size (by omega) ?_; intro v1 w9 hR9 hB9 hg9 hat9)
                    have hra0 := HRA.out
                    have hown : ∀ b, (Value.slice Ax Y.length cx).ownBlock = some b → wk.heap.size ≤ b := fun b e => HR.out.1 b e
                    have NK := Lib.hid (KeepBut.grow (KD.out.trans KW.out (.inl rfl)) hg9 hown)
                    have NS := Lib.hid (Sr.grown SW.out hg9 (fun e => by have := hown g e.symm; omega) hB9)
                    have NR := Lib.hid hR9
                    clear hR9 hB9 hg9 hat9
                    go_roundw
                    case measure => simp [intOf]; omega
                    case rel => exact ⟨j - 1, Y ++ [⟨1 + ra, rb, 0⟩], rfl, by rw [List.length_append, List.length_singleton]; omega, all_snoc HY.out ⟨PureTxFair.opB_yes ⟨by show 1 ≤ 1 + ra ∧ 1 + ra ≤ 3; omega, hrb, by show 1 + ra = 1 → 0 = 0; omega⟩, by show wrap64 (0) = 0; unfold wrap64; omega⟩, NS.out.mono (by rw [List.length_append, List.length_singleton]; omega), NK.out, NR.out⟩
                  · have q4 : ((1 + ra : Int) == 1) = false := by rw [beq_eq_false_iff_ne]; omega
                    have SW := S5
                    have KW := K5
                    have HR := Lib.hid (KeepBut.row KW.out OD.out (fun b hb => by have : wk.heap.size ≤ b := hb; omega))
                    have hwdW := KW.out.1
                    go_wp2_with ((with_reducible refine gate_builtin (b := .append) (xs := #[.tmp 66, .tmp 68]) rfl ?_); at_builtin; refine Kd.R_append k63 (w0 := w0) w0.heap.size rfl (.tmp 66) (.tmp 68) 61 63 (.agg #[.int .i64 0, .int .i64 0, .int .i64 0]) 24 rfl Try.underlying61 info63 rfl (by decide) (by decide) (.slice Ax Y.length cx) Y ⟨1 + ra, rb, rc - 2⟩ _ (fun b => wk.heap.size ≤ b) (fun _ => False) rfl rfl (k63_mkM _ w0.heap.size (fun _ => False) ⟨1 + ra, rb, rc - 2⟩) (fun _ h => h.elim) (fun k hk => by show wk.heap.size ≤ k; omega) HR.out (Sr.bel SW.out) (Sr.bel SW.out).size (by omega) ?_; intro v1 w9 hR9 hB9 hg9 hat9)
                    have hown : ∀ b, (Value.slice Ax Y.length cx).ownBlock = some b → wk.heap.size ≤ b := fun b e => HR.out.1 b e
                    have NK := Lib.hid (KeepBut.grow (KD.out.trans KW.out (.inl rfl)) hg9 hown)
                    have NS := Lib.hid (Sr.grown SW.out hg9 (fun e => by have := hown g e.symm; omega) hB9)
                    have NR := Lib.hid hR9
                    clear hR9 hB9 hg9 hat9
                    go_roundw
                    case measure => simp [intOf]; omega
                    case rel => exact ⟨j - 1, Y ++ [⟨1 + ra, rb, rc - 2⟩], rfl, by rw [List.length_append, List.length_singleton]; omega, all_snoc HY.out ⟨PureTxFair.opB_yes ⟨by show 1 ≤ 1 + ra ∧ 1 + ra ≤ 3; omega, hrb, by show 1 + ra = 1 → rc - 2 = 0; omega⟩, by show wrap64 (rc - 2) = rc - 2; unfold wrap64; omega⟩, NS.out.mono (by rw [List.length_append, List.length_singleton]; omega), NK.out, NR.out⟩
                · have q2 := decide_eq_false (show ¬ (j : Int) > 0 by omega)
                  obtain rfl : nj = Y.length := by omega
                  have HO := Lib.hid (KeepBut.row KJ.out OK.out (fun b hb => by have : wt.heap.size ≤ b := hb; omega))
                  have hokp : ∀ b, wk.heap.size ≤ b → wt.heap.size ≤ b ∧ some b ≠ (Value.slice At X.length ct).ownBlock := fun b hb => ⟨by omega, fun e => by have := ((Kd.R_bound OK.out).1 b e.symm).2.2.1; omega⟩
                  go_wp2_with ((with_reducible refine gate_builtin (b := .append) (xs := #[.tmp 70, .tmp 72]) rfl ?_); at_builtin; refine Kd.R_append (Kd.slice 63 k63) (w0 := w0) w0.heap.size rfl (.tmp 70) (.tmp 72) 54 61 (.slice none 0 0) 24 rfl Try.underlying54 info61 rfl (by decide) (by decide) (.slice At X.length ct) X Y [.slice Ax Y.length cx] (fun b => wt.heap.size ≤ b) (fun b => wk.heap.size ≤ b) rfl rfl (Kd.M_row OJ.out) hokp (fun b hb => by show wt.heap.size ≤ b; omega) HO.out (Sr.bel SJ.out) (Sr.bel SJ.out).size (by omega) ?_; intro v1 w9 hR9 hB9 hg9 hat9)
                  have hown : ∀ b, (Value.slice At X.length ct).ownBlock = some b → wt.heap.size ≤ b := fun b e => HO.out.1 b e
                  have NK := Lib.hid (KeepBut.grow (KK.out.trans KJ.out (.inl rfl)) hg9 hown)
                  have NS := Lib.hid (Sr.grown SJ.out hg9 (fun e => by have := hown g e.symm; omega) hB9)
                  have NR := Lib.hid hR9
                  clear hR9 hB9 hg9 hat9
                  go_roundw
                  case measure => simp [intOf]; omega
                  case rel => exact ⟨k - 1, X ++ [Y], rfl, by rw [List.length_append, List.length_singleton]; omega, all_snoc HX.out ⟨by omega, HY.out⟩, NS.out.mono (by rw [List.length_append, List.length_singleton]; omega), NK.out, NR.out⟩
            · have q1 := decide_eq_false (show ¬ (k : Int) > 0 by omega)
              obtain rfl : nk = X.length := by omega
              obtain ⟨At, ct, et, hct, -⟩ := Kd.R_reads hO
              subst et
              clear hO
              obtain ⟨A2, c2, e2, hc2, -⟩ := Kd.R_reads RT.out
              have M3 := Lib.hid (KeepBut.fn KK.out RR3.out (by omega))
              have M2 := Lib.hid (KeepBut.fn KK.out RR2.out (by omega))
              have MV := Lib.hid (KeepBut.row KK.out RR.out (fun b hb => by have := hb.1; omega))
              have MT := Lib.hid (KeepBut.row KK.out RT.out (fun b hb => by have : lo ≤ b := hb; omega))
              have l2 : wk.cell? ⟨b3, 2, none⟩ = some (.slice A2 T.length c2) := by rw [← e2]; exact M3.out.cell 2 (by decide)
              have hokp : ∀ b, wt.heap.size ≤ b → lo ≤ b ∧ some b ≠ (Value.slice A2 T.length c2).ownBlock := fun b hb => ⟨by omega, fun e => by have := ((Kd.R_bound RT.out).1 b (by rw [e2]; exact e.symm)).2.2.1; omega⟩
              have hb3k : b3 < wk.heap.size := M3.out.lt
              rw [e2] at MT
              have MT' := Lib.hid MT.out
              go_wp2_with ((with_reducible refine gate_builtin (b := .append) (xs := #[.tmp 75, .tmp 77]) rfl ?_); at_builtin; refine Kd.R_append kT (w0 := w0) w0.heap.size rfl (.tmp 75) (.tmp 77) 28 54 (.slice none 0 0) 24 rfl Try.underlying28 info54 rfl (by decide) (by decide) (.slice A2 T.length c2) T X [.slice At X.length ct] (fun b => lo ≤ b) (fun b => wt.heap.size ≤ b) rfl rfl (Kd.M_row OK.out) hokp (fun b hb => by show lo ≤ b; omega) MT'.out (Sr.bel SK.out) (Sr.bel SK.out).size (by omega) ?_; intro v1 w9 hR9 hB9 hg9 hat9; have hown : ∀ b, (Value.slice A2 T.length c2).ownBlock = some b → lo ≤ b := fun b e => MT'.out.1 b e; have N3 := M3.out.move (hg9.block b3 hb3k (fun e => by have := hown b3 e.symm; omega)); have f2 := N3.thaw 2; have m2 : w9.cell? ⟨b3, 2, none⟩ = some (.slice A2 T.length c2) := (by rw [← e2]; exact N3.cell 2 (by decide)); obtain ⟨A1, c1, e1, hc1, -⟩ := Kd.R_reads hR9; rw [List.length_append, List.length_singleton] at e1; subst e1; have N2 := Lib.hid (M2.out.move (hg9.block b2 M2.out.lt (fun e => by have := hown b2 e.symm; omega))); have NS := Lib.hid (Sr.grown SK.out hg9 (fun e => by have := hown g e.symm; omega) hB9); have NR := Lib.hid hR9; have NV := Lib.hid (Kd.R_step MV.out (fun b hb hlt => hg9.block b hlt (fun e => by have := hown b e.symm; have := hb.2; omega))); have hsz9 := hg9.size; have HN3 := Lib.hid N3; clear hR9 hB9 hg9 hat9 N3)
              have nF := Lib.hid (HN3.out.set 2 (by decide) (.slice A1 (T.length + 1) c1) (g := pR V M (.slice A1 (T.length + 1) c1)) rfl (fun m hm hne => by match m with | 0 | 1 => rfl | 2 => exact absurd rfl hne | m + 3 => omega))
              have n2' := Lib.hid (N2.out.far (p := ⟨b3, 2, none⟩) (by show b2 ≠ b3; omega) (.slice A1 (T.length + 1) c1))
              have nS := Lib.hid (Sr.set NS.out (p := ⟨b3, 2, none⟩) (by show b3 ≠ g; omega) (by show w0.heap.size ≤ b3; omega) (.slice A1 (T.length + 1) c1))
              have nR := Lib.hid (Kd.R_step NR.out (w1 := w9.setCell ⟨b3, 2, none⟩ (.slice A1 (T.length + 1) c1)) (fun b hb hlt => Below.heap_setCell w9 _ _ b (by show b ≠ b3; have : lo ≤ b := hb; omega)))
              have nV := Lib.hid (Kd.R_step NV.out (w1 := w9.setCell ⟨b3, 2, none⟩ (.slice A1 (T.length + 1) c1)) (fun b hb hlt => Below.heap_setCell w9 _ _ b (by show b ≠ b3; have := hb.1; omega)))
              have nz : lo ≤ (w9.setCell ⟨b3, 2, none⟩ (.slice A1 (T.length + 1) c1)).heap.size := by simp [World.setCell]; omega
              go_roundw
              case measure => simp [intOf]; omega
              case rel => exact ⟨i - 1, _, T ++ [X], rfl, by rw [List.length_append, List.length_singleton]; omega, all_snoc HT.out ⟨by omega, HX.out⟩, nS.out.mono (by rw [List.length_append, List.length_singleton]; omega), n2'.out, nF.out, nV.out, nR.out, nz⟩
        · have q0 := decide_eq_false (show ¬ (i : Int) > 0 by omega)
          obtain rfl : n2 = T.length := by omega
          obtain ⟨A0, c0, e0, hc0, -⟩ := Kd.R_reads RR.out
          obtain ⟨A2, c2, e2, hc2, -⟩ := Kd.R_reads RT.out
          have l0 := RR3.out.cell 0 (by decide); have l1 := RR3.out.cell 1 (by decide); have l2 := RR3.out.cell 2 (by decide)
          have s0 := RR2.out.cell 0 (by decide); have s1 := RR2.out.cell 1 (by decide); have s2 := RR2.out.cell 2 (by decide)
          have z0 := RR2.out.thaw
          simp only [pR] at l0 l1 l2 s0 s1 s2
          rw [e0] at l0
          rw [e2] at l2
          go_wp2_with fail
          obtain ⟨W9, hW9⟩ : ∃ W9, ((wt.setCell ⟨b2, 0, none⟩ (.slice A0 C.length c0)).setCell ⟨b2, 1, none⟩ (.int .i64 M)).setCell ⟨b2, 2, none⟩ (.slice A2 T.length c2) = W9 := ⟨_, rfl⟩
          have g0 := RR2.out.set 0 (by decide) (.slice A0 C.length c0) (g := pR (.slice A0 C.length c0) 0 (.slice none 0 0)) rfl (fun m hm hne => by match m with | 0 => exact absurd rfl hne | 1 | 2 => rfl | m + 3 => omega)
          have g1 := g0.set 1 (by decide) (.int .i64 M) (g := pR (.slice A0 C.length c0) M (.slice none 0 0)) rfl (fun m hm hne => by match m with | 1 => exact absurd rfl hne | 0 | 2 => rfl | m + 3 => omega)
          have g2 := g1.set 2 (by decide) (.slice A2 T.length c2) (g := pR (.slice A0 C.length c0) M (.slice A2 T.length c2)) rfl (fun m hm hne => by match m with | 2 => exact absurd rfl hne | 0 | 1 => rfl | m + 3 => omega)
          have hs9 : ∀ b, b ≠ b2 → W9.heap[b]? = wt.heap[b]? := fun b hb => by
            rw [← hW9]
            exact (Below.heap_setCell _ _ _ b hb).trans ((Below.heap_setCell _ _ _ b hb).trans (Below.heap_setCell _ _ _ b hb))
          have hB9 : Below w0.heap.size w0 W9 := by
            rw [← hW9]
            have hle : w0.heap.size ≤ b2 := by omega
            exact (((Sr.bel SS.out).setCell (p := ⟨b2, 0, none⟩) hle _).setCell (p := ⟨b2, 1, none⟩) hle _).setCell (p := ⟨b2, 2, none⟩) hle _
          rw [hW9] at g2 ⊢
          clear hW9
          refine bodyPost_ret (ret30 rfl _ _ b2 _ _ _ rfl (g2.cell 0 (by decide)) (g2.cell 1 (by decide)) (g2.cell 2 (by decide))) rfl ?_
          refine ⟨_, M, _, C, T, rfl, ?_, ?_, workB_of (by omega) (by omega) hM1 HT.out, small_of HC.out HT.out, hB9⟩
          · show Lie ki W9 _ _ (.slice A0 C.length c0) C
            rw [← e0]
            exact Lie.of (Kd.R_step RR.out (fun b hb _ => hs9 b (by have := hb.1; omega)))
          · show Lie kT W9 _ _ (.slice A2 T.length c2) T
            rw [← e2]
            exact Lie.of (Kd.R_step RT.out (fun b hb _ => hs9 b (by have : lo ≤ b := hb; omega)))
end Go.Proofs.Ytonhmkllfbagmaa.Tx
