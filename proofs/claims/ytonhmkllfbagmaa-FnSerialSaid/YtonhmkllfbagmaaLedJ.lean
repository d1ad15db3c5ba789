/- Transactions: ledgerOf. -/
import Derived.Test.YtonhmkllfbagmaaLedI
import Derived.Test.YtonhmkllfbagmaaRunI
import Derived.Test.YtonhmkllfbagmaaSFnExactTxFair
namespace Go.Proofs.Ytonhmkllfbagmaa.Tx
open Go.RowKit Go.Proofs.YtonhmkllfbagmaaW.PrintWords Go.Proofs.YtonhmkllfbagmaaW.PrintLast Go.Proofs.YtonhmkllfbagmaaW.PrintMore Go.Proofs.Ytonhmkllfbagmaa.PFnExactTxFair
set_option linter.unusedVariables false
set_option linter.unusedSimpArgs false
theorem clone_f (C : List Int) (h : C.length ≤ 1000) : slices_Clone_int_int.f C = some C := by
  unfold slices_Clone_int_int.f
  rw [if_pos (by omega)]
/-- The ledger's block while it is laid. -/
def bRowL (AC : Option Addr) (cC nc : Nat) (man : Int) (AT : Option Addr) (n cT b5 c5 b9 c9 : Nat) (VO VP : Value) : Nat → Value
  | 0 => .slice AC nc cC
  | 1 => .int .i64 man
  | 2 => .slice AT n cT
  | 3 => .slice (some ⟨b5, 0, none⟩) nc c5
  | 4 => .slice (some ⟨b9, 0, none⟩) nc c9
  | 5 => VO
  | 6 => VP
  | 7 => .int .i64 0
  | _ => .slice none 0 0
def ptrV (b : Nat) : Value := .pointer (some ⟨b, 0, none⟩)
abbrev kP : Kd Nat := Kd.scalar ptrV (fun _ => rfl)
theorem info97 : (Try.prog.info? 97).map (fun i => (i.zero, i.size, i.bytes)) = some (some (.pointer none), 1, 8) := by kernel_rfl
theorem fn_ptr {w : World} {base : Nat} {ok : Nat → Prop} {v : Value} {xs : List Nat} (h : kP.R 97 w base ok v xs) (hn : 0 < xs.length) : ∃ g c, v = .slice (some ⟨g, 0, none⟩) xs.length c ∧ xs.length ≤ c ∧ ok g ∧ base ≤ g ∧ Fn w g 97 xs.length (fun k => ptrV (xs.getD k 0)) := by
  obtain ⟨inner, hlen, hs⟩ := Kd.R_own h
  rcases hs with ⟨_, h0⟩ | ⟨g, cap, cur, rfl, hb, hg, hc, hm, hsz, ht⟩
  · omega
  · refine ⟨g, cap, rfl, hc, h.1 g rfl, hb, cur, hg, by rw [hsz]; show xs.length ≤ cap * 1; omega, fun k hk => ?_⟩
    obtain ⟨A, c, e, hl, hC⟩ := Kd.R_reads h
    injection e with e1 e2 e3
    subst e1
    obtain ⟨-, -, hh⟩ := hC
    obtain ⟨a, ea, hj⟩ := hh hn
    injection ea with ea
    subst ea
    obtain ⟨cs, hcs, hK, hcell⟩ := hj k xs[k] (List.getElem?_eq_getElem hk)
    have hK' : cs = [ptrV xs[k]] := hK
    subst hK'
    have h2 := hcell 0 (ptrV xs[k]) rfl
    have h1 := blk_cell hg k
    have e3 : (⟨g, 0, none⟩ : Addr).add (k * (Kd.scalar ptrV (fun _ => rfl)).sz + 0) = ⟨g, k, none⟩ := by show (⟨g, 0, none⟩ : Addr).add (k * 1 + 0) = _; rw [show k * 1 + 0 = k by omega, add0]
    rw [e3, h1] at h2
    show cur[k]? = some (ptrV (xs.getD k 0))
    rw [h2, List.getD_eq_getElem?_getD, List.getElem?_eq_getElem hk]
    rfl
def a0Row (s k : Nat) : Nat → Value
  | 0 => .int .i64 0
  | 1 => .int .i64 1
  | 2 => .int .i64 0
  | 3 => .int .i64 0
  | 4 => .int .i64 0
  | 5 => .bool false
  | 6 => .map (some s)
  | _ => .map (some k)
/-- The attempts that are laid: B 0 their blocks, B 1 and B 2 their maps. -/
structure Att (w : World) (base x : Nat) (B : Nat → Nat → Nat) : Prop where
  a : ∀ j, j < x → Fn w (B 0 j) 100 8 (a0Row (B 1 j) (B 2 j))
  m : ∀ j, j < x → Mp w (B 1 j) (fun _ => none) ∧ Mp w (B 2 j) (fun _ => none)
  ge : ∀ f j, f < 3 → j < x → base ≤ B f j
  inj : ∀ f f' j j', f < 3 → f' < 3 → j < x → j' < x → B f j = B f' j' → f = f' ∧ j = j'
theorem Att.lt {w : World} {base x : Nat} {B : Nat → Nat → Nat} (h : Att w base x B) (f j : Nat) (hf : f < 3) (hj : j < x) : B f j < w.heap.size := by
  match f with
  | 0 => exact (h.a j hj).lt
  | 1 => exact (h.m j hj).1.lt
  | 2 => exact (h.m j hj).2.lt
  | f + 3 => omega
theorem Att.move {w w' : World} {base x : Nat} {B : Nat → Nat → Nat} (h : Att w base x B) (hw : ∀ f j, f < 3 → j < x → w'.heap[B f j]? = w.heap[B f j]?) : Att w' base x B :=
  ⟨fun j hj => (h.a j hj).move (hw 0 j (by decide) hj), fun j hj => ⟨(h.m j hj).1.move (hw 1 j (by decide) hj), (h.m j hj).2.move (hw 2 j (by decide) hj)⟩, h.ge, h.inj⟩
def addB (B : Nat → Nat → Nat) (x n0 n1 n2 : Nat) : Nat → Nat → Nat := fun f => up (B f) x (if f = 0 then n0 else if f = 1 then n1 else n2)
theorem Att.add {w w' : World} {base x : Nat} {B : Nat → Nat → Nat} (h : Att w base x B) (hb : base ≤ w.heap.size) (hw : ∀ c, c < w.heap.size → (∃ f j, f < 3 ∧ j < x ∧ c = B f j) → w'.heap[c]? = w.heap[c]?) (n0 n1 n2 : Nat) (h0 : w.heap.size ≤ n0) (h1 : w.heap.size ≤ n1) (h2 : w.heap.size ≤ n2) (d01 : n0 ≠ n1) (d02 : n0 ≠ n2) (d12 : n1 ≠ n2)
    (ha : Fn w' n0 100 8 (a0Row n1 n2)) (m1 : Mp w' n1 (fun _ => none)) (m2 : Mp w' n2 (fun _ => none)) : Att w' base (x + 1) (addB B x n0 n1 n2) := by
  have hm := h.move (w' := w') (fun f j hf hj => hw _ (h.lt f j hf hj) ⟨f, j, hf, hj, rfl⟩)
  have at_ : ∀ f, addB B x n0 n1 n2 f x = if f = 0 then n0 else if f = 1 then n1 else n2 := fun f => up_self _ _ _
  have out : ∀ f j, j ≠ x → addB B x n0 n1 n2 f j = B f j := fun f j hj => up_ne _ _ _ _ hj
  have nw : ∀ f, f < 3 → w.heap.size ≤ addB B x n0 n1 n2 f x := fun f hf => by
    rw [at_]; split
    · exact h0
    · split
      · exact h1
      · exact h2
  refine ⟨fun j hj => ?_, fun j hj => ?_, fun f j hf hj => ?_, fun f f' j j' hf hf' hj hj' e => ?_⟩
  · by_cases e : j = x
    · subst e; rw [at_ 0, at_ 1, at_ 2]; exact ha
    · rw [out 0 j e, out 1 j e, out 2 j e]; exact hm.a j (by omega)
  · by_cases e : j = x
    · subst e; rw [at_ 1, at_ 2]; exact ⟨m1, m2⟩
    · rw [out 1 j e, out 2 j e]; exact hm.m j (by omega)
  · by_cases e : j = x
    · subst e; exact Nat.le_trans hb (nw f hf)
    · rw [out f j e]; exact h.ge f j hf (by omega)
  · by_cases e1 : j = x <;> by_cases e2 : j' = x
    · subst e1; subst e2
      rw [at_, at_] at e
      refine ⟨?_, rfl⟩
      have : f = 0 ∨ f = 1 ∨ f = 2 := by omega
      have : f' = 0 ∨ f' = 1 ∨ f' = 2 := by omega
      rcases ‹f = 0 ∨ f = 1 ∨ f = 2› with rfl | rfl | rfl <;> rcases ‹f' = 0 ∨ f' = 1 ∨ f' = 2› with rfl | rfl | rfl <;> simp at e ⊢ <;> first | exact absurd e ‹_› | exact absurd e.symm ‹_›
    · subst e1
      rw [out f' j' e2] at e
      have := h.lt f' j' hf' (by omega); have := nw f hf; omega
    · subst e2
      rw [out f j e1] at e
      have := h.lt f j hf (by omega); have := nw f' hf'; omega
    · rw [out f j e1, out f' j' e2] at e
      exact h.inj f f' j j' hf hf' (by omega) (by omega) e
def okP (lo x : Nat) (B : Nat → Nat → Nat) (b : Nat) : Prop := lo ≤ b ∧ ∀ f j, f < 3 → j < x → b ≠ B f j
def atRow : Nat → Value
  | 0 => .int .i64 0
  | 1 => .int .i64 1
  | 2 => .int .i64 0
  | 3 => .int .i64 0
  | 4 => .int .i64 0
  | 5 => .bool false
  | 6 => .map none
  | _ => .map none
theorem okP_add {lo x b sz n1 n2 : Nat} {B : Nat → Nat → Nat} (h : okP lo x B b) (hb : b < sz) (h1 : sz + 1 ≤ n1) (h2 : sz + 1 ≤ n2) : okP lo (x + 1) (addB B x sz n1 n2) b := by
  refine ⟨h.1, fun f j hf hj => ?_⟩
  by_cases e : j = x
  · subst e
    show b ≠ up _ _ _ j
    rw [up_self]
    split
    · omega
    · split <;> omega
  · show b ≠ up _ _ _ j
    rw [up_ne _ _ _ _ e]
    exact h.2 f j hf (by omega)
theorem row_add (B : Nat → Nat → Nat) (x n0 n1 n2 : Nat) : (List.range (x + 1)).map (addB B x n0 n1 n2 0) = (List.range x).map (B 0) ++ [n0] := by
  rw [List.range_succ, List.map_append]
  congr 1
  · refine List.map_congr_left (fun j hj => ?_)
    exact up_ne _ _ _ _ (by have := List.mem_range.1 hj; omega)
  · show [up _ _ _ x] = _
    rw [up_self]; rfl
def blkL (g b5 b9 b6 bp : Nat) (B : Nat → Nat → Nat) : Jx → Nat
  | .g => g
  | .c => b5
  | .v => b9
  | .o => b6
  | .p => bp
  | .a i => B 0 i
  | .s i => B 1 i
  | .k i => B 2 i
theorem Led.start {w W : World} {AC AT : Option Addr} {cC nc n cT b5 c5 b9 c9 g b6 c6 bp cp lo : Nat} {man : Int} {C : List Int} {B : Nat → Nat → Nat} (hB : Below w.heap.size w W) (hne : b9 ≠ b5) (h5 : w.heap.size ≤ b5) (h9 : w.heap.size ≤ b9) (h5g : b5 < g) (h9g : b9 < g) (h6 : g < b6) (h6l : b6 < lo) (hp : lo ≤ bp)
    (fg : Fn W g 96 9 (bRowL AC cC nc man AT n cT b5 c5 b9 c9 (.slice (some ⟨b6, 0, none⟩) nc c6) (.slice (some ⟨bp, 0, none⟩) n cp))) (fc : Fn W b5 3 nc (fun k => .int .i64 (C.getD k 0))) (fv : Fn W b9 3 nc (fun _ => .int .i64 0)) (fo : Fn W b6 3 nc (fun _ => .int .i64 (-1)))
    (fp : Fn W bp 97 n (fun k => ptrV (B 0 k))) (hA : Att W lo n B) (hpB : ∀ f j, f < 3 → j < n → bp ≠ B f j) :
    Led ⟨nc, n, man, .slice AC nc cC, .slice AT n cT, c5, c9, c6, cp⟩ w W ⟨blkL g b5 b9 b6 bp B, .slice none 0 0, fun _ => 0, fun _ => 0⟩ (st0 C) := by
  have ge3 := hA.ge
  refine ⟨?_, ?_, ?_, Kd.R_nil _ _ _ _ _, fun i hi hs => (by cases hs), hB⟩
  · intro j hj
    cases j with
    | g => exact fg.ext (fun k hk => by match k with | 0 | 1 | 2 | 3 | 4 | 5 | 6 | 7 => rfl | k + 8 => rfl)
    | c => exact fc
    | v => exact fv
    | o => exact fo
    | p => exact fp
    | a i => exact (hA.a i hj).ext (fun k hk => by match k with | 0 | 1 | 2 | 3 | 4 | 5 | 6 => rfl | k + 7 => rfl)
    | s i => show Mp W (B 1 i) (seenF nc (st0 C) i); rw [seen_off _ _ _ rfl]; exact (hA.m i hj).1
    | k i => show Mp W (B 2 i) (keptF nc (st0 C) i); rw [kept_off _ _ _ rfl]; exact (hA.m i hj).2
  · intro j hj
    cases j with
    | a i => have := ge3 0 i (by decide) hj; simp only [blkL]; omega
    | s i => have := ge3 1 i (by decide) hj; simp only [blkL]; omega
    | k i => have := ge3 2 i (by decide) hj; simp only [blkL]; omega
    | _ => simp only [blkL]; omega
  · intro j l hj hl e
    have key : ∀ (f i : Nat), f < 3 → i < n → B f i ≠ g ∧ B f i ≠ b5 ∧ B f i ≠ b9 ∧ B f i ≠ b6 ∧ B f i ≠ bp := fun f i hf hi => by
      have := ge3 f i hf hi
      exact ⟨by omega, by omega, by omega, by omega, fun e => hpB f i hf hi e.symm⟩
    cases j <;> cases l <;> simp only [blkL] at e <;> first
      | rfl
      | (rename_i i; have k := key 0 i (by decide) (by assumption); have k1 := key 1 i (by decide) (by assumption); have k2 := key 2 i (by decide) (by assumption); omega)
      | omega
      | (rename_i i i'; have k := hA.inj _ _ _ _ (by decide) (by decide) hj hl e; first | exact absurd k.1 (by decide) | (rw [k.2]))
set_option maxHeartbeats 8000000 in
set_option maxRecDepth 100000 in
theorem ledgerOfC (w : World) (AC : Option Addr) (cC : Nat) (C : List Int) (man : Int) (AT : Option Addr) (n cT : Nat) (hC : (Kd.int .i64).C w AC C.length C) (hcC : C.length ≤ cC) (h1 : 0 < C.length) (h2 : C.length ≤ 1000) (hn : 0 < n) (hn2 : n ≤ 1000) :
    Calls Try.prog 42 #[.agg #[.slice AC C.length cC, .int .i64 man, .slice AT n cT]] w fun e w' => ∃ P D, e = .returned (.pointer (some ⟨D.blk .g, 0, none⟩)) ∧ P.nc = C.length ∧ P.n = n ∧ P.man = man ∧ P.vT = .slice AT n cT ∧ P.nc ≤ P.cC ∧ Led P w w' D (st0 C) := by
  obtain ⟨nc, hnc⟩ : ∃ nc, C.length = nc := ⟨_, rfl⟩
  have HC := Lib.hid hC; have HNC := Lib.hid hnc
  rw [hnc] at h1 h2 hcC ⊢
  clear hC hnc
  go_enter Try.func42, Try.ntmps42
  go_wp2_with fail
  refine name_w fun E hE => ?_
  have BE := Lib.hid (show Below w.heap.size w E by rw [hE]; exact below_alloc (Below.refl _ _) _)
  have u0 : E.drew.cell? ⟨w.heap.size, 0, none⟩ = some (.slice AC nc cC) := by rw [hE]; exact (blk_cell (heap_alloc_new w _) 0).trans rfl
  have u1 : E.drew.cell? ⟨w.heap.size, 1, none⟩ = some (.int .i64 man) := by rw [hE]; exact (blk_cell (heap_alloc_new w _) 1).trans rfl
  have u2 : E.drew.cell? ⟨w.heap.size, 2, none⟩ = some (.slice AT n cT) := by rw [hE]; exact (blk_cell (heap_alloc_new w _) 2).trans rfl
  have hlb : w.heap.size < E.drew.heap.size := by rw [hE]; exact blk_lt (heap_alloc_new w _)
  clear hE
  have CE := Lib.hid (show (Kd.int .i64).C E.drew AC C.length C from Kd.C_below HC.out (below_drew1 BE.out))
  have hf := clone_f C (by have := HNC.out; omega)
  have cc := fun X (hX : Below E.drew.heap.size E.drew X) => slices_Clone_int_int.calls AC cC C C X (Kd.C_below CE.out hX) (by have := HNC.out; omega) hf
  rw [HNC.out] at cc
  have CC := Lib.hid cc
  clear cc hf
  have hlbE : ∀ X, Below E.drew.heap.size E.drew X → X.cell? ⟨w.heap.size, 0, none⟩ = some (.slice AC nc cC) ∧ X.cell? ⟨w.heap.size, 1, none⟩ = some (.int .i64 man) ∧ X.cell? ⟨w.heap.size, 2, none⟩ = some (.slice AT n cT) := fun X hX => ⟨(hX.cell (p := ⟨w.heap.size, 0, none⟩) hlb).trans u0, (hX.cell (p := ⟨w.heap.size, 1, none⟩) hlb).trans u1, (hX.cell (p := ⟨w.heap.size, 2, none⟩) hlb).trans u2⟩
  refine start_ (n := 11) (S := fun w' => w'.cell? ⟨w.heap.size, 0, none⟩ = some (.slice AC nc cC) ∧ w'.cell? ⟨w.heap.size, 1, none⟩ = some (.int .i64 man) ∧ w'.cell? ⟨w.heap.size, 2, none⟩ = some (.slice AT n cT)) (ds := []) #[false, false, false, false, false, false, false, false, false, false, false] (by kernel_rfl) rfl rfl ⟨u0, u1, u2⟩ (fun hHeld => ?_)
  refine pure_ (i := 1) (N := some 6) (v := ?_) (a' := ?_) #[false, true, false, false, false, false, false, false, false, false, false] rfl rfl (by kernel_rfl) (fun _ _ _ h => h) (Or.inl ⟨by rfl, ?_⟩) ?_ ?_
  rotate_left
  · intro w'
    go_simp
    with_reducible rfl
  rotate_left
  · simp only [Act.put, List.setIfInBounds_toArray, List.set_cons_zero, List.set_cons_succ, i64_w, i32_w]
    rfl
  refine pure_ (i := 4) (N := some 9) (v := ?_) (a' := ?_) #[false, true, false, false, true, false, false, false, false, false, false] rfl rfl (by kernel_rfl) (fun _ _ _ h => h) (Or.inl ⟨by rfl, ?_⟩) ?_ ?_
  rotate_left
  · intro w'
    go_simp
    with_reducible rfl
  rotate_left
  · simp only [Act.put, List.setIfInBounds_toArray, List.set_cons_zero, List.set_cons_succ, i64_w, i32_w]
    rfl
  refine take_ (i := 0) (N := some 5) (v := ?_) (a' := ?_) #[true, true, false, false, true, false, false, false, false, false, false] rfl rfl (by kernel_rfl) (fun _ _ _ h => h) (Or.inl ⟨by rfl, ?_⟩) hHeld ?_ ?_
  rotate_left
  · rintro w' ⟨s0, s1, s2⟩
    go_simp
    with_reducible rfl
  rotate_left
  · simp only [Act.put, List.setIfInBounds_toArray, List.set_cons_zero, List.set_cons_succ, i64_w, i32_w]
    rfl
  refine take_ (i := 2) (N := some 7) (v := ?_) (a' := ?_) #[true, true, true, false, true, false, false, false, false, false, false] rfl rfl (by kernel_rfl) (fun _ _ _ h => h) (Or.inl ⟨by rfl, ?_⟩) hHeld ?_ ?_
  rotate_left
  · rintro w' ⟨s0, s1, s2⟩
    go_simp
    with_reducible rfl
  rotate_left
  · simp only [Act.put, List.setIfInBounds_toArray, List.set_cons_zero, List.set_cons_succ, i64_w, i32_w]
    rfl
  refine take_ (i := 5) (N := some 10) (v := ?_) (a' := ?_) #[true, true, true, false, true, true, false, false, false, false, false] rfl rfl (by kernel_rfl) (fun _ _ _ h => h) (Or.inl ⟨by rfl, ?_⟩) hHeld ?_ ?_
  rotate_left
  · rintro w' ⟨s0, s1, s2⟩
    go_simp
    with_reducible rfl
  rotate_left
  · simp only [Act.put, List.setIfInBounds_toArray, List.set_cons_zero, List.set_cons_succ, i64_w, i32_w]
    rfl
  refine pure_ (i := 6) (N := some 11) (v := ?_) (a' := ?_) #[true, true, true, false, true, true, true, false, false, false, false] rfl rfl (by kernel_rfl) (fun _ _ _ h => h) (Or.inl ⟨by rfl, ?_⟩) ?_ ?_
  rotate_left
  · intro w'
    go_simp
    with_reducible rfl
  rotate_left
  · simp only [Act.put, List.setIfInBounds_toArray, List.set_cons_zero, List.set_cons_succ, i64_w, i32_w]
    rfl
  refine join_ (σ := Value × Value) 3 #[true, true, true, true, true, true, true, true, false, false, false] (fun s => [(8, s.1), (12, s.2)]) (fun s w' => Below E.drew.heap.size E.drew w' ∧ (Kd.int .i64).R 3 w' E.drew.heap.size (fun _ => True) s.1 C ∧ (Kd.int .i64).R 3 w' E.drew.heap.size (fun b => some b ≠ s.1.ownBlock) s.2 (List.replicate nc 0)) ?_ ?_
  rotate_left
  · intro hCont
    refine two_ (i := 3) (j := 7) (Ni := some 8) (Nj := some 12) #[true, true, true, true, true, true, true, false, false, false, false] #[true, true, true, false, true, true, true, true, false, false, false] rfl rfl rfl rfl (by kernel_rfl) (by decide) (by decide) (fun K hK => ?_) (fun K hK => ?_)
    · skip
      refine goes_ Try.func36 (by kernel_rfl) rfl #[.slice AC nc cC] (by rfl) rfl rfl (by simp only [List.map_toArray, List.map_cons, List.map_nil]; rfl) ?_
      with_reducible refine (CC.out _ (Below.refl E.drew.heap.size E.drew)).mono ?_
      rintro e5 w5 ⟨v5, rfl, hR5, hB5⟩
      refine ⟨_, rfl, ?_⟩
      refine hK.out _ _ ⟨(hlbE _ hB5).1, (hlbE _ hB5).2.1, (hlbE _ hB5).2.2⟩ (fun hHeld => ?_)
      clear hK K
      refine norm_ (a' := ?_) ?_ ?_
      rotate_left
      · show Act.put _ (some 8) _ = _
        simp only [Act.put, List.setIfInBounds_toArray, List.set_cons_zero, List.set_cons_succ, i64_w, i32_w]
        rfl
      refine one_ (i := 7) (N := some 12) #[true, true, true, true, true, true, true, true, false, false, false] rfl rfl (by kernel_rfl) (by decide) (fun K hK => ?_)
      refine Kd.R_make_step (Kd.int .i64) (w0 := E.drew) E.drew.heap.size 3 (by rfl) (N := 12) rfl 22 _ _ rfl (nc : Int) rfl rfl Try.underlying22 (.int .i64 0) 8 info3 rfl (by decide) (by omega) 0 (ok := fun b => w5.heap.size ≤ b) (okp := fun _ => False) rfl (fun _ hk => hk.elim) (Nat.le_refl _) (by omega) (by rw [Int.toNat_natCast]; omega) hB5 (hB5).size ?_
      intro v9 w9 hR9 hB9 hg9 hat9
      rw [Int.toNat_natCast] at hR9
      refine hK.out _ _ ⟨(hlbE _ hB9).1, (hlbE _ hB9).2.1, (hlbE _ hB9).2.2⟩ (fun hHeld => ?_)
      clear hK K
      refine norm_ (a' := ?_) ?_ ?_
      rotate_left
      · show Act.put _ (some 12) _ = _
        simp only [Act.put, List.setIfInBounds_toArray, List.set_cons_zero, List.set_cons_succ, i64_w, i32_w]
        rfl
      exact norm_ (by simp only [putAll, Act.put, List.setIfInBounds_toArray, List.set_cons_zero, List.set_cons_succ]) (hCont (v5, v9) _ ⟨hB9, Kd.R_lower (Kd.R_step hR5 (fun b _ hlt => hg9.block b hlt (by simp))) (Nat.le_refl _), Kd.R_mono hR9 (fun b hb e => by have := ((Kd.R_bound hR5).1 b e.symm).2.2.1; omega)⟩)
    · skip
      refine Kd.R_make_step (Kd.int .i64) (w0 := E.drew) E.drew.heap.size 3 (by rfl) (N := 12) rfl 22 _ _ rfl (nc : Int) rfl rfl Try.underlying22 (.int .i64 0) 8 info3 rfl (by decide) (by omega) 0 (ok := fun b => E.drew.heap.size ≤ b) (okp := fun _ => False) rfl (fun _ hk => hk.elim) (Nat.le_refl _) (by omega) (by rw [Int.toNat_natCast]; omega) (Below.refl E.drew.heap.size E.drew) ((Below.refl E.drew.heap.size E.drew)).size ?_
      intro v9 w9 hR9 hB9 hg9 hat9
      rw [Int.toNat_natCast] at hR9
      refine hK.out _ _ ⟨(hlbE _ hB9).1, (hlbE _ hB9).2.1, (hlbE _ hB9).2.2⟩ (fun hHeld => ?_)
      clear hK K
      refine norm_ (a' := ?_) ?_ ?_
      rotate_left
      · show Act.put _ (some 12) _ = _
        simp only [Act.put, List.setIfInBounds_toArray, List.set_cons_zero, List.set_cons_succ, i64_w, i32_w]
        rfl
      refine one_ (i := 3) (N := some 8) #[true, true, true, true, true, true, true, true, false, false, false] rfl rfl (by kernel_rfl) (by decide) (fun K hK => ?_)
      refine goes_ Try.func36 (by kernel_rfl) rfl #[.slice AC nc cC] (by rfl) rfl rfl (by simp only [List.map_toArray, List.map_cons, List.map_nil]; rfl) ?_
      with_reducible refine (CC.out _ hB9).mono ?_
      rintro e5 w5 ⟨v5, rfl, hR5, hB5⟩
      refine ⟨_, rfl, ?_⟩
      refine hK.out _ _ ⟨(hlbE _ (below_step hB9 hB5)).1, (hlbE _ (below_step hB9 hB5)).2.1, (hlbE _ (below_step hB9 hB5)).2.2⟩ (fun hHeld => ?_)
      clear hK K
      refine norm_ (a' := ?_) ?_ ?_
      rotate_left
      · show Act.put _ (some 8) _ = _
        simp only [Act.put, List.setIfInBounds_toArray, List.set_cons_zero, List.set_cons_succ, i64_w, i32_w]
        rfl
      exact norm_ (by simp only [putAll, Act.put, List.setIfInBounds_toArray, List.set_cons_zero, List.set_cons_succ]) (hCont (v5, v9) _ ⟨below_step hB9 hB5, Kd.R_lower hR5 hB9.size, Kd.R_mono (Kd.R_below (Kd.R_bound hR9) hB5) (fun b hb e => by have := ((Kd.R_bound hR5).1 b e.symm).2.1; have := hb.2.2.1; omega)⟩)
  rintro ⟨v5, v9⟩ wX ⟨hBX, hR5, hR9⟩
  simp only at hR5 hR9
  obtain ⟨b5, c5, e5, hc5, -, hb5, hf5⟩ := fn_int hR5 (by rw [HNC.out]; exact h1)
  obtain ⟨b9, c9, e9, hc9, hne9, hb9, hf9⟩ := fn_int hR9 (by rw [List.length_replicate]; exact h1)
  subst e5 e9
  rw [HNC.out] at hc5 hf5 ⊢
  rw [List.length_replicate] at hc9 hf9 ⊢
  have hne : b9 ≠ b5 := fun e => hne9 (by rw [e]; rfl)
  have hF5 := Lib.hid hf5
  have hF9 := Lib.hid (hf9.ext (g := fun _ => .int .i64 0) (fun k hk => by rw [List.getD_eq_getElem?_getD, List.getElem?_replicate, if_pos hk]; rfl))
  clear hR5 hR9 hne9 hf5 hf9
  have hHeld := hlbE _ hBX
  refine norm_ (a' := ?_) ?_ ?_
  rotate_left
  · simp only [putAll, Act.put, List.setIfInBounds_toArray, List.set_cons_zero, List.set_cons_succ]
    rfl
  refine pure_ (i := 8) (N := some 13) (v := ?_) (a' := ?_) #[true, true, true, true, true, true, true, true, true, false, false] rfl rfl (by kernel_rfl) (fun _ _ _ h => h) (Or.inl ⟨by rfl, ?_⟩) ?_ ?_
  rotate_left
  · intro w'
    go_simp
    with_reducible rfl
  rotate_left
  · simp only [Act.put, List.setIfInBounds_toArray, List.set_cons_zero, List.set_cons_succ, i64_w, i32_w]
    rfl
  refine one_ (i := 9) (N := some 14) #[true, true, true, true, true, true, true, true, true, true, false] rfl rfl (by kernel_rfl) (by decide) (fun K hK => ?_)
  refine value_ (w1 := ?_) (v := ?_) (by rfl) rfl ?_ ?_
  rotate_left 2
  · go_simp
    constructor
    · rfl
    · rfl
  refine hK.out _ _ ⟨(hlbE _ (below_step hBX (below_alloc (Below.refl _ _) _))).1, (hlbE _ (below_step hBX (below_alloc (Below.refl _ _) _))).2.1, (hlbE _ (below_step hBX (below_alloc (Below.refl _ _) _))).2.2⟩ (fun hHeld => ?_)
  clear hK K
  refine norm_ (a' := ?_) ?_ ?_
  rotate_left
  · show Act.put _ (some 14) _ = _
    simp only [Act.put, List.setIfInBounds_toArray, List.set_cons_zero, List.set_cons_succ, i64_w, i32_w]
    rfl
  refine pure_ (i := 10) (N := some 3) (v := ?_) (a' := ?_) #[true, true, true, true, true, true, true, true, true, true, true] rfl rfl (by kernel_rfl) (fun _ _ _ h => h) (Or.inl ⟨by rfl, ?_⟩) ?_ ?_
  rotate_left
  · intro w'
    go_simp
    with_reducible rfl
  rotate_left
  · simp only [Act.put, List.setIfInBounds_toArray, List.set_cons_zero, List.set_cons_succ, i64_w, i32_w]
    rfl
  refine done_ (by kernel_rfl) ?_
  clear hHeld
  obtain ⟨W0, hW0⟩ : ∃ W0, wX.alloc (.cells #[.slice AC nc cC, .int .i64 man, .slice AT n cT, .slice (some ⟨b5, 0, none⟩) nc c5, .slice (some ⟨b9, 0, none⟩) nc c9, .slice none 0 0, .slice none 0 0, .int .i64 0, .slice none 0 0] 96) = W0 := ⟨_, rfl⟩
  rw [hW0]
  have g0 := hF5.out.lt; have g1 := hF9.out.lt
  obtain ⟨g, hg⟩ : ∃ g, wX.heap.size = g := ⟨_, rfl⟩
  have hbx := hBX.size
  have G0 := Lib.hid (show Fn W0 g 96 9 (bRowL AC cC nc man AT n cT b5 c5 b9 c9 (.slice none 0 0) (.slice none 0 0)) by
    rw [← hW0, ← hg]
    refine Fn.new wX _ 96 9 _ (by simp) (fun k hk => ?_)
    match k with
    | 0 | 1 | 2 | 3 | 4 | 5 | 6 | 7 | 8 => rfl
    | k + 9 => omega)
  have F5 := Lib.hid (show Fn W0 b5 3 nc (fun k => .int .i64 (C.getD k 0)) by rw [← hW0]; exact hF5.out.below (below_alloc (Below.refl _ _) _))
  have F9 := Lib.hid (show Fn W0 b9 3 nc (fun _ => .int .i64 0) by rw [← hW0]; exact hF9.out.below (below_alloc (Below.refl _ _) _))
  have BW := Lib.hid (show Below w.heap.size w W0 by rw [← hW0]; exact below_alloc (below_step (below_drew1 BE.out) hBX) _)
  have PB := Lib.hid (show W0.cell? ⟨w.heap.size, 0, none⟩ = some (.slice AC nc cC) ∧ W0.cell? ⟨w.heap.size, 1, none⟩ = some (.int .i64 man) ∧ W0.cell? ⟨w.heap.size, 2, none⟩ = some (.slice AT n cT) by rw [← hW0]; exact hlbE _ (below_step hBX (below_alloc (Below.refl _ _) _)))
  have hlg : w.heap.size < g := by omega
  have h5g : b5 < g := by omega
  have h9g : b9 < g := by omega
  have h5w : w.heap.size < b5 := by omega
  have h9w : w.heap.size < b9 := by omega
  try rw [hg]
  clear hW0 hg hlbE hBX u0 u1 u2 hlb hF5 hF9 CC CE BE g0 g1 hbx hb5 hb9
  obtain ⟨pb0, pb1, pb2⟩ := PB.out
  have hgW0 := G0.out.lt
  go_wp2_with fail
  go_loopw [18] (fun iv wr => ∃ (x : Nat) (V : Value), x ≤ nc ∧ iv = .int .i64 (x : Int) ∧ Fn wr g 96 9 (bRowL AC cC nc man AT n cT b5 c5 b9 c9 V (.slice none 0 0)) ∧ (Kd.int .i64).R 3 wr w.heap.size (fun b => W0.heap.size ≤ b) V (List.replicate x (-1 : Int)) ∧ Kp g W0 wr ∧ Below w.heap.size w wr) (fun iv _ => nc - (intOf iv).toNat)
  case atStart => exact ⟨0, .slice none 0 0, Nat.zero_le _, rfl, G0.out, Kd.R_nil _ _ _ _ _, Kp.refl g W0, BW.out⟩
  case round =>
    obtain ⟨x, V, hx, rfl, hF, hR, hK, hB⟩ := hrel
    have F := Lib.hid hF; have R := Lib.hid hR; have K := Lib.hid hK; have B := Lib.hid hB
    have hgl := hF.lt
    have hKs := hK.1
    by_cases hlt : x < nc
    · have q0 := decide_eq_true (show (x : Int) < (nc : Int) by omega)
      have p1 : IntKind.wrap .i64 ((x : Int) + 1) = (x : Int) + 1 := by rw [i64_w]; unfold wrap64; omega
      obtain ⟨A, c, eV, hc, hro⟩ := Kd.R_reads hR
      rw [List.length_replicate] at eV
      have l5 : wr.cell? ⟨g, 5, none⟩ = some (.slice A x c) := by rw [← eV]; exact hF.cell 5 (by decide)
      subst eV
      have hle : (List.replicate x ((-1 : Int)) ++ [(-1 : Int)]).length = x + 1 := by simp
      clear hro hF hR hB hc hK pb0 pb1 pb2
      go_wp2_with ((with_reducible refine gate_builtin (b := .append) (xs := #[.tmp 24, .tmp 25]) rfl ?_); at_builtin; refine Kd.R_append (Kd.int .i64) (w0 := w) w.heap.size rfl (.tmp 24) (.tmp 25) 22 3 (.int .i64 0) 8 rfl Try.underlying22 info3 rfl (by decide) (by decide) (.slice A x c) (List.replicate x ((-1 : Int))) ((-1 : Int)) [.int .i64 (-1)] (fun b => W0.heap.size ≤ b) (fun _ => False) rfl rfl rfl (fun _ h => h.elim) (fun k hk => by omega) R.out B.out B.out.size (by rw [List.length_replicate]; omega) ?_; intro v1 w1 hR1 hB1 hg1 hat1; have hF1 := F.out.move (hg1.block g hgl (fun e => by have := R.out.1 g e.symm; omega)); have f5 := hF1.thaw 5; have m5 : w1.cell? ⟨g, 5, none⟩ = some (.slice A x c) := hF1.cell 5 (by decide); have hK1 : Kp g W0 w1 := ⟨Nat.le_trans hKs hg1.size, fun b hb hn => (hg1.block b (by omega) (fun e => by have := R.out.1 b e.symm; omega)).trans (K.out.2 b hb hn)⟩; obtain ⟨A1, c1, e1, hc1, hro1⟩ := Kd.R_reads hR1; rw [hle] at e1; subst e1; clear hro1 hc1 hg1 hat1)
      have nF := Lib.hid (hF1.set 5 (by decide) (.slice A1 (x + 1) c1) (g := bRowL AC cC nc man AT n cT b5 c5 b9 c9 (.slice A1 (x + 1) c1) (.slice none 0 0)) rfl (fun m hm hne => by match m with | 0 | 1 | 2 | 3 | 4 | 6 | 7 | 8 => rfl | 5 => exact absurd rfl hne | m + 9 => omega))
      have nR := Lib.hid (show (Kd.int .i64).R 3 (w1.setCell ⟨g, 5, none⟩ (.slice A1 (x + 1) c1)) w.heap.size (fun b => W0.heap.size ≤ b) (.slice A1 (x + 1) c1) (List.replicate (x + 1) ((-1 : Int))) by
        rw [show List.replicate (x + 1) ((-1 : Int)) = List.replicate x ((-1 : Int)) ++ [(-1 : Int)] from List.replicate_succ']
        exact Kd.R_step hR1 (fun b hb hlt => Below.heap_setCell w1 _ _ b (by show b ≠ g; omega)))
      have nB := Lib.hid (hB1.setCell (p := ⟨g, 5, none⟩) (Nat.le_of_lt hlg) (.slice A1 (x + 1) c1))
      have nK := Lib.hid (hK1.trans (Kp.set g 5 w1 (.slice A1 (x + 1) c1)))
      go_roundw
      case measure => simp [intOf]; omega
      case rel => exact ⟨x + 1, _, hlt, rfl, nF.out, nR.out, nK.out, nB.out⟩
    · have q0 := decide_eq_false (show ¬ (x : Int) < (nc : Int) by omega)
      obtain rfl : nc = x := by omega
      obtain ⟨b6, c6, rfl, hc6, hge6, hb6, hf6⟩ := fn_int hR (by rw [List.length_replicate]; exact h1)
      rw [List.length_replicate] at hc6 hf6
      have F6 := Lib.hid (hf6.ext (g := fun _ => .int .i64 (-1)) (fun k hk => by rw [List.getD_eq_getElem?_getD, List.getElem?_replicate, if_pos hk]; rfl))
      have G1 := Lib.hid (show Fn wr g 96 9 (bRowL AC cC nc man AT n cT b5 c5 b9 c9 (.slice (some ⟨b6, 0, none⟩) nc c6) (.slice none 0 0)) by rw [List.length_replicate] at hF; exact hF)
      have hlbW : w.heap.size < W0.heap.size := by omega
      have r2 := (cell_same (hK.2 w.heap.size hlbW (by omega)) 2).trans pb2
      have F5r := Lib.hid (hK.fn F5.out (by omega)); have F9r := Lib.hid (hK.fn F9.out (by omega))
      have h6lt := hf6.lt
      have hlbr : w.heap.size < wr.heap.size := by omega
      clear hf6 hF hR F R q0 pb0 pb1 pb2 F5 F9 hlt
      obtain ⟨W1, hW1⟩ : ∃ W1, wr = W1 := ⟨_, rfl⟩
      have BW1 := Lib.hid hB
      clear hB hK
      rw [hW1] at G1 BW1 r2 F5r F9r h6lt hlbr F6 hgl hKs ⊢
      clear hW1 K B
      obtain ⟨lo, hlo⟩ : ∃ lo, W1.heap.size = lo := ⟨_, rfl⟩
      have hlo1 : g < lo := by omega
      have hlo6 : b6 < lo := by omega
      go_wp2_with fail
      go_loopw [33] (fun iv wr => ∃ (x : Nat) (V : Value) (B : Nat → Nat → Nat), x ≤ n ∧ iv = .int .i64 (x : Int) ∧ Fn wr g 96 9 (bRowL AC cC nc man AT n cT b5 c5 b9 c9 (.slice (some ⟨b6, 0, none⟩) nc c6) V) ∧ kP.R 97 wr w.heap.size (okP lo x B) V ((List.range x).map (B 0)) ∧ Att wr lo x B ∧ Kp g W1 wr ∧ Below w.heap.size w wr) (fun iv _ => n - (intOf iv).toNat)
      case atStart => exact ⟨0, .slice none 0 0, fun _ _ => 0, Nat.zero_le _, rfl, G1.out, Kd.R_nil _ _ _ _ _, ⟨fun j hj => absurd hj (Nat.not_lt_zero j), fun j hj => absurd hj (Nat.not_lt_zero j), fun f j _ hj => absurd hj (Nat.not_lt_zero j), fun f f' j j' _ _ hj => absurd hj (Nat.not_lt_zero j)⟩, Kp.refl g W1, BW1.out⟩
      case round =>
        obtain ⟨x, V, B, hx, rfl, hF, hR, hA, hK, hB⟩ := hrel
        have hgl2 := hF.lt
        have hKs2 := hK.1
        rw [hlo] at hKs2
        by_cases hlt : x < n
        · have q0 := decide_eq_true (show (x : Int) < (n : Int) by omega)
          have p1 : IntKind.wrap .i64 ((x : Int) + 1) = (x : Int) + 1 := by rw [i64_w]; unfold wrap64; omega
          have fa : Fn (wr.alloc (.cells #[.int .i64 0, .int .i64 1, .int .i64 0, .int .i64 0, .int .i64 0, .bool false, .map none, .map none] 100)) wr.heap.size 100 8 atRow := by
            refine Fn.new wr _ 100 8 _ (by simp) (fun k hk => ?_)
            match k with
            | 0 | 1 | 2 | 3 | 4 | 5 | 6 | 7 => rfl
            | k + 8 => omega
          have hAg := againC _ _ _ fa
          have F := Lib.hid hF; have R := Lib.hid hR; have A' := Lib.hid hA; have K := Lib.hid hK; have B' := Lib.hid hB
          clear hF hR hA hK hB fa r2
          go_wp2_with fail
          refine hAg.mono ?_
          rintro e w1 ⟨rfl, hag⟩
          clear hAg
          obtain ⟨n1, n2, hn1, hn2, hn12, ms, mk, fb, hs1, hw1, hB1⟩ := hag
          have hsa : (wr.alloc (.cells #[.int .i64 0, .int .i64 1, .int .i64 0, .int .i64 0, .int .i64 0, .bool false, .map none, .map none] 100)).heap.size = wr.heap.size + 1 := by simp
          rw [hsa] at hn1 hn2 hs1 hw1 hB1
          have ms' := ms.lt; have mk' := mk.lt; have fb' := fb.lt
          have hk1 : ∀ c, c < wr.heap.size → w1.heap[c]? = wr.heap[c]? := fun c hc => (hw1 c (by omega) (by omega)).trans (heap_alloc_old wr _ hc)
          have BB := Lib.hid (hB1 w.heap.size B'.out.size w (below_alloc B'.out _) (by have := B'.out.size; omega))
          have AA := Lib.hid (A'.out.add (w' := w1) hKs2 (fun c hc _ => hk1 c hc) wr.heap.size n1 n2 (Nat.le_refl _) (by omega) (by omega) (by omega) (by omega) hn12 (fb.ext (fun k hk => by match k with | 0 | 1 | 2 | 3 | 4 | 5 | 6 | 7 => rfl | k + 8 => omega)) ms mk)
          have RR := Lib.hid (show kP.R 97 w1 w.heap.size (okP lo (x + 1) (addB B x wr.heap.size n1 n2)) V ((List.range x).map (B 0)) from
            Kd.R_mono (Kd.R_step (Kd.R_bound R.out) (fun b hb hlt => hk1 b hlt)) (fun b hb => okP_add hb.1 hb.2.2.1 hn1 hn2))
          have FF := Lib.hid (F.out.move (hk1 g hgl2))
          have KK := Lib.hid (show Kp g W1 w1 from ⟨by have := K.out.1; omega, fun b hb hn => (hk1 b (by have := K.out.1; omega)).trans (K.out.2 b hb hn)⟩)
          have hgl3 := FF.out.lt
          have hnw : ∀ k, w1.heap.size ≤ k → okP lo (x + 1) (addB B x wr.heap.size n1 n2) k := fun k hk => ⟨by omega, fun f j hf hj e => by have := AA.out.lt f j hf hj; omega⟩
          obtain ⟨A, c, eV, hc, hro⟩ := Kd.R_reads RR.out
          rw [List.length_map, List.length_range] at eV
          have l6 : w1.cell? ⟨g, 6, none⟩ = some (.slice A x c) := by rw [← eV]; exact FF.out.cell 6 (by decide)
          subst eV
          have hle : ((List.range x).map (B 0) ++ [wr.heap.size]).length = x + 1 := by simp
          have hwlo : w.heap.size ≤ w1.heap.size := BB.out.size
          clear hro hc F R A' K B' ms mk fb hw1 hB1 hk1
          go_wp2_with ((with_reducible refine gate_builtin (b := .append) (xs := #[.tmp 43, .tmp 45]) rfl ?_); at_builtin; refine Kd.R_append kP (w0 := w) w.heap.size rfl (.tmp 43) (.tmp 45) 94 97 (.pointer none) 8 rfl Try.underlying94 info97 rfl (by decide) (by decide) (.slice A x c) ((List.range x).map (B 0)) wr.heap.size [ptrV wr.heap.size] (okP lo (x + 1) (addB B x wr.heap.size n1 n2)) (fun _ => False) rfl rfl rfl (fun _ h => h.elim) hnw RR.out BB.out hwlo (by rw [List.length_map, List.length_range]; omega) ?_; intro v1 w2 hR1 hB1 hg1 hat1; have hF1 := FF.out.move (hg1.block g hgl3 (fun e => by have := (RR.out.1 g e.symm).1; omega)); have f6 := hF1.thaw 6; have m6 : w2.cell? ⟨g, 6, none⟩ = some (.slice A x c) := hF1.cell 6 (by decide); have hK1 : Kp g W1 w2 := ⟨Nat.le_trans KK.out.1 hg1.size, fun b hb hn => (hg1.block b (by have := KK.out.1; omega) (fun e => by have := (RR.out.1 b e.symm).1; omega)).trans (KK.out.2 b hb hn)⟩; have hA1 := AA.out.move (w' := w2) (fun f j hf hj => hg1.block _ (AA.out.lt f j hf hj) (fun e => (RR.out.1 _ e.symm).2 f j hf hj rfl)); obtain ⟨A1, c1, e1, hc1, hro1⟩ := Kd.R_reads hR1; rw [hle] at e1; subst e1; clear hro1 hc1 hg1 hat1)
          have nF := Lib.hid (hF1.set 6 (by decide) (.slice A1 (x + 1) c1) (g := bRowL AC cC nc man AT n cT b5 c5 b9 c9 (.slice (some ⟨b6, 0, none⟩) nc c6) (.slice A1 (x + 1) c1)) rfl (fun m hm hne => by match m with | 0 | 1 | 2 | 3 | 4 | 5 | 7 | 8 => rfl | 6 => exact absurd rfl hne | m + 9 => omega))
          have nR := Lib.hid (show kP.R 97 (w2.setCell ⟨g, 6, none⟩ (.slice A1 (x + 1) c1)) w.heap.size (okP lo (x + 1) (addB B x wr.heap.size n1 n2)) (.slice A1 (x + 1) c1) ((List.range (x + 1)).map (addB B x wr.heap.size n1 n2 0)) by
            rw [row_add]
            exact Kd.R_step hR1 (fun b hb hlt => Below.heap_setCell w2 _ _ b (by show b ≠ g; have := hb.1; omega)))
          have nB := Lib.hid (hB1.setCell (p := ⟨g, 6, none⟩) (Nat.le_of_lt hlg) (.slice A1 (x + 1) c1))
          have nK := Lib.hid (hK1.trans (Kp.set g 6 w2 (.slice A1 (x + 1) c1)))
          have nA := Lib.hid (hA1.move (w' := w2.setCell ⟨g, 6, none⟩ (.slice A1 (x + 1) c1)) (fun f j hf hj => Below.heap_setCell w2 _ _ _ (by show _ ≠ g; have := hA1.ge f j hf hj; omega)))
          go_roundw
          case measure => simp [intOf]; omega
          case rel => exact ⟨x + 1, _, _, hlt, rfl, nF.out, nR.out, nA.out, nK.out, nB.out⟩
        · have q0 := decide_eq_false (show ¬ (x : Int) < (n : Int) by omega)
          obtain rfl : n = x := by omega
          obtain ⟨bp, cp, rfl, hcp, hop, hbp, hfp⟩ := fn_ptr hR (by rw [List.length_map, List.length_range]; exact hn)
          rw [List.length_map, List.length_range] at hfp hcp hF
          have hL := Led.start (C := C) (man := man) hB hne (Nat.le_of_lt h5w) (Nat.le_of_lt h9w) h5g h9g (by omega : g < b6) hlo6 hop.1 hF (hK.fn F5r.out (by omega)) (hK.fn F9r.out (by omega)) (hK.fn F6.out (by omega)) (hfp.ext (g := fun k => ptrV (B 0 k)) (fun k hk => by
            rw [List.getD_eq_getElem?_getD, List.getElem?_map, List.getElem?_range hk]; rfl)) hA hop.2
          have HL := Lib.hid hL
          clear hL hF hR hA hK hB hfp r2
          go_wp2_with fail
          go_ret
          exact ⟨⟨nc, n, man, .slice AC nc cC, .slice AT n cT, c5, c9, c6, cp⟩, ⟨blkL g b5 b9 b6 bp B, .slice none 0 0, fun _ => 0, fun _ => 0⟩, rfl, rfl, rfl, rfl, rfl, hc5, HL.out⟩
end Go.Proofs.Ytonhmkllfbagmaa.Tx
