/- Transactions: together. -/
import Derived.Test.YtonhmkllfbagmaaSri
namespace Go.Proofs.Ytonhmkllfbagmaa.Tx
open Go.RowKit Go.Proofs.YtonhmkllfbagmaaW.PrintWords Go.Proofs.YtonhmkllfbagmaaW.PrintLast Go.Proofs.YtonhmkllfbagmaaW.PrintMore Go.Proofs.Ytonhmkllfbagmaa.PFnExactTxFair
set_option linter.unusedVariables false
set_option linter.unusedSimpArgs false
def Apt (v u : Value) : Prop := ∀ b, v.ownBlock = some b → u.ownBlock ≠ some b
theorem ap0 (a c : Nat) (b : Nat) (h : (Value.slice (some ⟨a, 0, none⟩) 0 c).ownBlock = some b) (e : (Value.slice (some ⟨a + 1, 0, none⟩) 0 c).ownBlock = some b) : False := by
  have h1 : a = b := by simpa [Value.ownBlock] using h
  have h2 : a + 1 = b := by simpa [Value.ownBlock] using e
  omega
def fs (P : List (Nat × Int)) : List Int := P.map (fun p => (p.1 : Int))
def sn (P : List (Nat × Int)) : List Int := P.map (fun p => p.2)
theorem r_st {w : World} {b n base : Nat} {f : Nat → Value} {ok : Nat → Prop} {v : Value} {xs : List Int} (h : ki.R 3 w base ok v xs) (hF : Fn w b 4 n f) (j : Nat) (u : Value) : ki.R 3 (w.setCell ⟨b, j, none⟩ u) base ok v xs := by
  obtain ⟨cur, hb, -, -⟩ := hF
  exact Kd.R_set h hb (fun q hq => by rcases List.mem_cons.1 hq with h | h; exact h ▸ (by decide); cases (show q ∈ ([] : List TypeId) from h)) j u
theorem apt_two {v1 v2 v13 v14 : Value} {z x1 : Nat} (hap : Apt v13 v14) (h13 : ∀ k, v13.ownBlock = some k → k < z) (h14 : ∀ k, v14.ownBlock = some k → k < z) (hlt1 : ∀ k, v1.ownBlock = some k → k < x1) (hz : z ≤ x1) (hat1 : v1.ownBlock = v13.ownBlock ∨ ∃ b, v1.ownBlock = some b ∧ z ≤ b) (hat2 : v2.ownBlock = v14.ownBlock ∨ ∃ b, v2.ownBlock = some b ∧ x1 ≤ b) : Apt v1 v2 := by
  intro b h1 h2
  have hb1 := hlt1 b h1
  rcases hat2 with h3 | ⟨b2, h3, h4⟩
  · rw [h2] at h3
    have hb2 := h14 b h3.symm
    rcases hat1 with h5 | ⟨b3, h5, h6⟩
    · exact hap b (h5.symm.trans h1) h3.symm
    · rw [h1] at h5; injection h5 with h5; omega
  · rw [h2] at h3; injection h3 with h3; omega
theorem apt_one {v1 v13 v14 : Value} {z : Nat} (hap : Apt v13 v14) (h14 : ∀ k, v14.ownBlock = some k → k < z) (hat1 : v1.ownBlock = v13.ownBlock ∨ ∃ b, v1.ownBlock = some b ∧ z ≤ b) : ∀ k, v14.ownBlock = some k → some k ≠ v1.ownBlock := by
  intro k h e
  rcases hat1 with h1 | ⟨b, h1, h2⟩
  · exact hap k (h1.symm.trans e.symm) h
  · have := h14 k h
    rw [h1] at e; injection e with e; omega
theorem row_lt {w : World} {base : Nat} {ok : Nat → Prop} {v : Value} {xs : List Int} (h : ki.R 3 w base ok v xs) : ∀ k, v.ownBlock = some k → k < w.heap.size := by
  obtain ⟨inner, hown⟩ := Kd.R_own h
  exact fun k hk => own_lt hown k hk
theorem fs_snoc (P : List (Nat × Int)) (c : Nat) (p : Int) : fs (P ++ [(c, p)]) = fs P ++ [(c : Int)] := by simp [fs]
theorem sn_snoc (P : List (Nat × Int)) (c : Nat) (p : Int) : sn (P ++ [(c, p)]) = sn P ++ [p] := by simp [sn]
theorem c_of_R {w : World} {base n c : Nat} {ok : Nat → Prop} {A : Option Addr} {xs : List Int} (h : ki.R 3 w base ok (.slice A n c) xs) : ki.C w A xs.length xs := by
  obtain ⟨A', c', e, -, hC⟩ := Kd.R_reads h
  cases e
  exact hC
theorem at_S {w : World} {A : Option Addr} {n : Nat} {xs : List (List Int)} (h : Kd.C (Kd.slice 3 ki) w A n xs) (i : Int) (h0 : 0 ≤ i) (h1 : i < n) : ∃ ad A0 c0, A = some ad ∧ w.cell? (ad.add i.toNat) = some (.slice A0 (xs.getD i.toNat []).length c0) ∧ (xs.getD i.toNat []).length ≤ c0 ∧ ki.C w A0 (xs.getD i.toNat []).length (xs.getD i.toNat []) := by
  obtain ⟨ad, c, e, _, hK, hc0⟩ := Kd.C_get h ([] : List Int) i h0 h1
  have hc : ∀ j u, c[j]? = some u → w.cell? (ad.add (i.toNat * 1 + j)) = some u := hc0
  obtain ⟨A0, c0, rfl, l0, g0⟩ := hK
  exact ⟨ad, A0, c0, e, by have hq := hc 0 _ rfl; rwa [Nat.mul_one, Nat.add_zero] at hq, l0, g0⟩
theorem rd_row_ (n : Nat) (f : Nat → Int) (c : Nat) (h : c < n) : rd (row n f) (c : Int) = f c := by
  unfold rd row
  rw [Int.toNat_natCast, List.getD_eq_getElem?_getD, List.getElem?_map, List.getElem?_range h]
  rfl
theorem rd_fs (P : List (Nat × Int)) (j : Nat) (h : j < P.length) : rd (fs P) (j : Int) = ((P[j].1 : Nat) : Int) := by
  unfold rd fs
  rw [Int.toNat_natCast, List.getD_eq_getElem?_getD, List.getElem?_map, List.getElem?_eq_getElem h]
  rfl
theorem rd_sn (P : List (Nat × Int)) (j : Nat) (h : j < P.length) : rd (sn P) (j : Int) = P[j].2 := by
  unfold rd sn
  rw [Int.toNat_natCast, List.getD_eq_getElem?_getD, List.getElem?_map, List.getElem?_eq_getElem h]
  rfl
theorem fs_len (P : List (Nat × Int)) : (fs P).length = P.length := by simp [fs]
theorem sn_len (P : List (Nat × Int)) : (sn P).length = P.length := by simp [sn]
theorem tgE_take {ops : List S63} {t x y : Int} {E : List S53} {i : Nat} (h : i < E.length) : tgE ops t x y (E.take (i + 1)) = if idm t x y E[i] then tgStep ops (tgE ops t x y (E.take i)) E[i] else tgE ops t x y (E.take i) := by
  rw [List.take_add_one, List.getElem?_eq_getElem h]
  exact tgE_snoc _ _ _ _ _ _
theorem tgE_pre {ops : List S63} {t x y : Int} {E : List S53} (h : (tgE ops t x y E).ok = true) (i : Nat) : (tgE ops t x y (E.take i)).ok = true := by
  rw [← List.take_append_drop i E] at h
  exact tgE_ok _ _ _ _ _ _ h
theorem tgE_size (ops : List S63) (t x y : Int) (E : List S53) : (tgE ops t x y E).pairs.length ≤ E.length ∧ (tgE ops t x y E).at_ ≤ E.length := by
  have : ∀ (F : List S53) (s : TG), (F.foldl (fun s e => if idm t x y e then tgStep ops s e else s) s).pairs.length ≤ s.pairs.length + F.length ∧ (F.foldl (fun s e => if idm t x y e then tgStep ops s e else s) s).at_ ≤ s.at_ + F.length := by
    intro F
    induction F with
    | nil => intro s; exact ⟨Nat.le_refl _, Nat.le_refl _⟩
    | cons e F ih =>
      intro s
      rw [List.foldl_cons]
      have := ih (if idm t x y e then tgStep ops s e else s)
      have h2 : (if idm t x y e then tgStep ops s e else s).pairs.length ≤ s.pairs.length + 1 ∧ (if idm t x y e then tgStep ops s e else s).at_ ≤ s.at_ + 1 := by
        split
        · unfold tgStep
          dsimp only
          split
          · simp
          · exact ⟨by omega, Nat.le_refl _⟩
        · exact ⟨by omega, by omega⟩
      simp only [List.length_cons]
      omega
  have := this E tg0
  have e1 : tg0.pairs.length = 0 := rfl
  have e2 : tg0.at_ = 0 := rfl
  unfold tgE
  omega
set_option maxHeartbeats 16000000 in
set_option maxRecDepth 100000 in
theorem togetherC (w : World) (AC : Option Addr) (cC : Nat) (C : List Int) (man : Int) (AT : Option Addr) (cT : Nat) (T : List (List (List S63))) (AE : Option Addr) (cE : Nat) (E : List S53) (AS : Option Addr) (cS m : Nat) (F : Nat → Nat → Int) (t x : Nat) (y : Int)
    (hC : ki.C w AC C.length C) (hcC : C.length ≤ cC) (hT : kT.C w AT T.length T) (hcT : T.length ≤ cT) (hE : k53.C w AE E.length E) (hcE : E.length ≤ cE) (hS : (Kd.slice 3 ki).C w AS (m + 1) ((List.range (m + 1)).map (fun k => row C.length (F k)))) (hcS : m + 1 ≤ cS)
    (h1 : 0 < C.length) (h2 : C.length ≤ 8) (hn : 0 < T.length) (hn2 : T.length ≤ 4) (ok : OpsOK T.length C.length T) (ht : t < T.length) (hx : x < (thr T t).length) (hel : E.length ≤ 1000) (hml : m ≤ 1000)
    (hok : (tgE (opsAt T t x) t x y E).ok = true) (k0 : Nat) (hk0 : k0 ≤ m) (hF : ∀ p ∈ (tgE (opsAt T t x) t x y E).pairs, p.1 < C.length ∧ F k0 p.1 = p.2) :
    Calls Try.prog 30 #[.agg #[.slice AC C.length cC, .int .i64 man, .slice AT T.length cT], .slice AE E.length cE, .slice AS (m + 1) cS, .int .i64 (t : Int), .int .i64 (x : Int), .int .i64 y] w fun e w' => e = .returned (.bool true) ∧ Below w.heap.size w w' := by
  obtain ⟨M, hM⟩ : ∃ M, m + 1 = M := ⟨_, rfl⟩
  rw [hM] at hS hcS ⊢
  have hkM : k0 < M := by omega
  have hM1 : M ≤ 1001 := by omega
  clear hM
  have HC := Lib.hid hC; have HT := Lib.hid hT; have HE := Lib.hid hE; have HS := Lib.hid hS; have OK := Lib.hid ok; have HF := Lib.hid hF
  obtain ⟨G, hG⟩ : ∃ G : Nat → TG, ∀ i, tgE (opsAt T t x) t x y (E.take i) = G i := ⟨_, fun _ => rfl⟩
  have HG := Lib.hid hG
  have hstep : ∀ i (h : i < E.length), G (i + 1) = if idm t x y E[i] then tgStep (opsAt T t x) (G i) E[i] else G i := fun i h => by rw [← hG, ← hG, tgE_take h]
  have hgok : ∀ i, (G i).ok = true := fun i => by rw [← hG]; exact tgE_pre hok i
  have hgsz : ∀ i, (G i).pairs.length ≤ 1000 ∧ (G i).at_ ≤ 1000 := fun i => by
    have := tgE_size (opsAt T t x) t x y (E.take i)
    rw [hG] at this
    have h3 : (E.take i).length ≤ E.length := by simp; omega
    omega
  have GST := Lib.hid hstep; have GOK := Lib.hid hgok; have GSZ := Lib.hid hgsz
  clear hC hT hE hS ok hF hG hstep hgok hok hgsz
  obtain ⟨Wa, hWa⟩ : ∃ Wa, w.alloc (.cells #[.slice AC C.length cC, .int .i64 man, .slice AT T.length cT] 30) = Wa := ⟨_, rfl⟩
  have BA := Lib.hid (show Below w.heap.size w Wa by rw [← hWa]; exact below_alloc (Below.refl _ _) _)
  have PA := Lib.hid (show Wa.heap[w.heap.size]? = some (.cells #[.slice AC C.length cC, .int .i64 man, .slice AT T.length cT] 30 (0, 0)) by rw [← hWa]; exact heap_alloc_new w _)
  have hwa : w.heap.size < Wa.heap.size := blk_lt PA.out
  obtain ⟨Wq, hWq⟩ : ∃ Wq, (Wa.alloc (.cells #[] 3)).alloc (.cells #[] 3) = Wq := ⟨_, rfl⟩
  have e1 : (Wa.alloc (.cells #[] 3)).heap.size = Wa.heap.size + 1 := by simp
  have BQ := Lib.hid (show Below w.heap.size w Wq by rw [← hWq]; exact below_alloc (below_alloc BA.out _) _)
  have BWq : Below Wa.heap.size Wa Wq := by rw [← hWq]; exact below_alloc (below_alloc (Below.refl _ _) _) _
  have PQ := Lib.hid ((BWq.block _ hwa).trans PA.out)
  have H13 := Lib.hid (show Wq.heap[Wa.heap.size]? = some (.cells #[] 3 (0, 0)) by
    rw [← hWq, (below_alloc (Below.refl _ _) (.cells #[] 3) : Below (Wa.alloc (.cells #[] 3)).heap.size _ _).block _ (by omega)]; exact heap_alloc_new _ _)
  have H14 := Lib.hid (show Wq.heap[Wa.heap.size + 1]? = some (.cells #[] 3 (0, 0)) by
    rw [← hWq, ← e1]; exact heap_alloc_new _ _)
  have p0 := blk_cell PQ.out 0
  simp only [List.getElem?_toArray, List.getElem?_cons_succ, List.getElem?_cons_zero] at p0
  obtain ⟨b13, hb13⟩ : ∃ b13, Wa.heap.size = b13 := ⟨_, rfl⟩
  have hq14 := blk_lt H14.out
  have R13 := Lib.hid (show ki.R 3 Wq w.heap.size (fun b => w.heap.size < b) (.slice (some ⟨Wa.heap.size, 0, none⟩) 0 0) [] from r_fn (f := fun _ => 0) (n := 0) ⟨_, H13.out, Nat.zero_le _, fun k hk => absurd hk (Nat.not_lt_zero k)⟩ ⟨_, H13.out, rfl⟩ (Nat.le_refl _) (Nat.zero_le _) (Nat.le_of_lt hwa) hwa)
  have R14 := Lib.hid (show ki.R 3 Wq w.heap.size (fun b => w.heap.size < b) (.slice (some ⟨Wa.heap.size + 1, 0, none⟩) 0 0) [] from r_fn (f := fun _ => 0) (n := 0) ⟨_, H14.out, Nat.zero_le _, fun k hk => absurd hk (Nat.not_lt_zero k)⟩ ⟨_, H14.out, rfl⟩ (Nat.le_refl _) (Nat.zero_le _) (by omega) (by show w.heap.size < Wa.heap.size + 1; omega))
  have HWA := Lib.hid hWa; have HWQ := Lib.hid hWq
  clear BWq hb13 e1
  go_enter Try.func30, Try.ntmps30
  go_wp2_with ((with_reducible refine gate_dst (N := 28) rfl ?_); refine Kd.R_make Kd.bool (w0 := Wq) Wq.heap.size 4 rfl (N := 28) rfl 83 _ _ rfl (C.length : Int) rfl rfl Try.underlying83 (.bool false) 1 info4 rfl (by decide) (by omega) false (ok := fun b => Wq.heap.size ≤ b) (okp := fun _ => False) rfl (fun _ hk => hk.elim) (Nat.le_refl _) (by omega) (by rw [Int.toNat_natCast]; omega) (Below.refl _ _) (Nat.le_refl _) ?_; intro v15 w15 hR15 hB15 hg15 hat15; rw [Int.toNat_natCast] at hR15)
  obtain ⟨b15, c15, rfl, hc15, hge15, hb15, hf15⟩ := fn_bool hR15 (by rw [List.length_replicate]; exact h1)
  rw [List.length_replicate] at hc15 hf15 ⊢
  have hge15 : Wq.heap.size ≤ b15 := hge15
  have hg0 : G 0 = tg0 := by rw [← HG.out 0]; rfl
  have N15 := Lib.hid (hf15.ext (g := fun c => .bool ((G 0).wrote c)) (fun c hc => by rw [hg0, List.getD_eq_getElem?_getD, List.getElem?_replicate, if_pos hc]; rfl))
  have B15 := Lib.hid (below_step BQ.out hB15)
  have PB := Lib.hid ((hB15.block _ (blk_lt PQ.out)).trans PQ.out)
  have okm : ∀ {v : Value} {base : Nat} {xs : List Int}, ki.R 3 Wq base (fun b => w.heap.size < b) v xs → ki.R 3 w15 base (fun b => w.heap.size < b ∧ b ≠ b15) v xs := fun h => Kd.R_mono (Kd.R_bound (Kd.R_below h hB15)) (fun b hb => ⟨hb.1, fun e => by obtain ⟨_, _, _, q, hq, cells', hc⟩ := hb; subst e; obtain ⟨c2, h2, -, -⟩ := hf15; rw [h2] at hc; injection hc with hc; injection hc with _ hc; subst hc; revert hq; show ¬ 4 ∈ [3]; decide⟩)
  have O13 := Lib.hid (okm R13.out); have O14 := Lib.hid (okm R14.out)
  have hw15 := PB.out |> blk_lt
  have hwq : w.heap.size < Wq.heap.size := blk_lt PQ.out
  have hpn : w.heap.size ≠ b15 := by omega
  have hb15w : w.heap.size ≤ b15 := by omega
  clear okm hR15 hB15 hg15 hat15 hf15 p0 HWA HWQ hWa hWq
  go_loopw [13, 14, 16, 17] (fun v13 v14 v16 v17 wr => ∃ i : Nat, i ≤ E.length ∧ v17 = .int .i64 (i : Int) ∧ v16 = .int .i64 ((G i).at_ : Int) ∧ ki.R 3 wr w.heap.size (fun b => w.heap.size < b ∧ b ≠ b15) v13 (fs (G i).pairs) ∧ ki.R 3 wr w.heap.size (fun b => w.heap.size < b ∧ b ≠ b15) v14 (sn (G i).pairs) ∧ Apt v13 v14 ∧ Fn wr b15 4 C.length (fun c => .bool ((G i).wrote c)) ∧ Below w.heap.size w wr ∧ wr.heap[w.heap.size]? = some (.cells #[.slice AC C.length cC, .int .i64 man, .slice AT T.length cT] 30 (0, 0))) (fun _ _ _ v17 _ => E.length - (intOf v17).toNat)
  case atStart => exact ⟨0, Nat.zero_le _, rfl, by rw [hg0]; rfl, by rw [hg0]; exact O13.out, by rw [hg0]; exact O14.out, (fun b h e => ap0 _ _ b h e), N15.out, B15.out, PB.out⟩
  case round =>
    clear N15 B15 PB O13 O14 hg0 R13 R14 H13 H14 PQ BQ PA BA
    obtain ⟨i, hi, rfl, rfl, h13, h14, hap, h15, hB, hP⟩ := hrel
    obtain ⟨A13, c13, e13, hc13, -⟩ := Kd.R_reads h13
    obtain ⟨A14, c14, e14, hc14, -⟩ := Kd.R_reads h14
    subst e13 e14
    rw [fs_len] at hc13
    rw [sn_len] at hc14
    rw [fs_len, sn_len] at *
    have O13 := Lib.hid h13; have O14 := Lib.hid h14; have AP := Lib.hid hap; have N15 := Lib.hid h15; have B := Lib.hid hB; have PB := Lib.hid hP
    clear h13 h14 hap h15 hB hP
    by_cases hlt : i < E.length
    · have q0 := decide_eq_true (show (i : Int) < (E.length : Int) by omega)
      obtain ⟨e, he⟩ : ∃ e, E[i] = e := ⟨_, rfl⟩
      have hgs := GST.out i hlt
      rw [he] at hgs
      obtain ⟨ad, hAE, a0, a1, a2, a3, a4, a5⟩ := at_T53 (Kd.C_below HE.out B.out) (i : Int) (by omega) (by omega)
      have hrd : rd_T53 E (i : Int) = e := by unfold rd_T53; rw [Int.toNat_natCast, List.getD_eq_getElem?_getD, List.getElem?_eq_getElem hlt, he]; rfl
      rw [Int.toNat_natCast, hrd] at a0 a1 a2 a3 a4 a5
      subst hAE
      obtain ⟨We, hWe⟩ : ∃ We, wr.alloc (.cells #[.int .i64 e.f0, .int .i64 e.f1, .int .i64 e.f2, .int .i64 e.f3, .int .i64 e.f4, .int .i64 e.f5] 53) = We := ⟨_, rfl⟩
      have hBe : Below wr.heap.size wr We := by rw [← hWe]; exact below_alloc (Below.refl _ _) _
      have BE := Lib.hid (show We.heap[wr.heap.size]? = some (.cells #[.int .i64 e.f0, .int .i64 e.f1, .int .i64 e.f2, .int .i64 e.f3, .int .i64 e.f4, .int .i64 e.f5] 53 (0, 0)) by rw [← hWe]; exact heap_alloc_new _ _)
      have hse : We.heap.size = wr.heap.size + 1 := by rw [← hWe]; simp
      have e0 := blk_cell BE.out 0; have e1 := blk_cell BE.out 1; have e2 := blk_cell BE.out 2; have e3 := blk_cell BE.out 3
      simp only [List.getElem?_toArray, List.getElem?_cons_succ, List.getElem?_cons_zero] at e0 e1 e2 e3
      have M13 := Lib.hid (Kd.R_below O13.out hBe); have M14 := Lib.hid (Kd.R_below O14.out hBe); have M15 := Lib.hid (N15.out.below hBe); have MB := Lib.hid (below_step B.out hBe); have MP := Lib.hid ((hBe.block _ (blk_lt PB.out)).trans PB.out)
      have HGS := Lib.hid hgs; have HE_ := Lib.hid he; have HWE := Lib.hid hWe
      rw [← hWe] at e0 e1 e2 e3
      have pi : IntKind.wrap .i64 ((i : Int) + 1) = ((i + 1 : Nat) : Int) := by rw [i64_w]; unfold wrap64; omega
      clear hgs he hrd hBe hWe
      by_cases hid : idm (t : Int) (x : Int) y e
      · obtain ⟨k0e, k1e, k2e, k3e⟩ := hid
        have hg1 : G (i + 1) = tgStep (opsAt T t x) (G i) e := by rw [HGS.out, if_pos ⟨k0e, k1e, k2e, k3e⟩]
        have hok1 := GOK.out (i + 1)
        rw [hg1] at hok1
        unfold tgStep at hok1
        simp only [Bool.and_eq_true, decide_eq_true_eq] at hok1
        obtain ⟨-, hat, hf0, hf1⟩ := hok1
        obtain ⟨o, ho⟩ : ∃ o, (opsAt T t x).getD (G i).at_ z63 = o := ⟨_, rfl⟩
        have hom := (OK.out.ops t (opsAt T t x) (by unfold opsAt; rw [List.getD_eq_getElem?_getD, List.getElem?_eq_getElem hx]; exact List.getElem_mem _)).2 o (by rw [← ho]; exact getD_mem _ _ _ hat)
        have hol := (OK.out.ops t (opsAt T t x) (by unfold opsAt; rw [List.getD_eq_getElem?_getD, List.getElem?_eq_getElem hx]; exact List.getElem_mem _)).1
        unfold tgStep at hg1
        rw [ho] at hf0 hf1 hg1
        obtain ⟨c, hcx⟩ : ∃ c : Nat, o.f1 = (c : Int) := ⟨o.f1.toNat, by have := hom.2.1; omega⟩
        have hcl : c < C.length := by have := hom.2.2.1; omega
        rw [hcx, Int.toNat_natCast] at hg1
        obtain ⟨adT, A5, c5, hAT, l1, hl5, hC5⟩ := at_L6 (Kd.C_below HT.out MB.out) (t : Int) (by omega) (by omega)
        rw [Int.toNat_natCast] at l1
        have l2 : We.cell? (adT.add t) = some (.slice A5 (thr T t).length c5) := l1
        have hC5' : (Kd.slice 63 k63).C We A5 (thr T t).length (thr T t) := hC5
        subst hAT
        obtain ⟨ad5, A4, c4, hA5, l3, hl4, hC4⟩ := at_L5 hC5' (x : Int) (by omega) (by omega)
        rw [Int.toNat_natCast] at l3
        subst hA5
        have hop : rd_L5 (thr T t) (x : Int) = opsAt T t x := rfl
        rw [hop] at l3 hl4 hC4
        obtain ⟨ad6, hA6, o0, o1, o2⟩ := at_T63 hC4 ((G i).at_ : Int) (by omega) (by omega)
        rw [Int.toNat_natCast] at o0 o1 o2
        have hrx : rd_T63 (opsAt T t x) ((G i).at_ : Int) = o := ho
        rw [hrx] at o0 o1 o2
        subst hA6
        have p2 := blk_cell MP.out 2
        simp only [List.getElem?_toArray, List.getElem?_cons_succ, List.getElem?_cons_zero] at p2
        have e4 := blk_cell BE.out 4; have e5 := blk_cell BE.out 5
        simp only [List.getElem?_toArray, List.getElem?_cons_succ, List.getElem?_cons_zero] at e4 e5
        clear e0 e1 e2 e3
        have e0 := blk_cell BE.out 0; have e1 := blk_cell BE.out 1; have e2 := blk_cell BE.out 2; have e3' := blk_cell BE.out 3
        simp only [List.getElem?_toArray, List.getElem?_cons_succ, List.getElem?_cons_zero] at e0 e1 e2 e3'
        have y3 := decide_eq_false (show ¬ e.f3 > 3 by omega)
        rw [k0e] at e0; rw [k1e] at e1; rw [k2e] at e2
        rw [← hf0] at y3 e3'
        have e3 := e3'
        rw [← hf1, hcx] at e4
        rw [hcx] at o1
        have d1 := eq_true (show (0 : Int) ≤ (t : Int) by omega)
        have d2 := eq_true (show (t : Int) < (T.length : Int) by omega)
        have d3 := eq_true (show (0 : Int) ≤ (x : Int) by omega)
        have d4 := eq_true (show (x : Int) < ((thr T t).length : Int) by omega)
        have d5 := eq_true (show (0 : Int) ≤ ((G i).at_ : Int) by omega)
        have d6 := eq_true (show ((G i).at_ : Int) < ((opsAt T t x).length : Int) by omega)
        have d7 := eq_true (show (0 : Int) ≤ (c : Int) by omega)
        have d8 := eq_true (show (c : Int) < (C.length : Int) by omega)
        have pa : IntKind.wrap .i64 (((G i).at_ : Int) + 1) = (((G i).at_ + 1 : Nat) : Int) := by rw [i64_w]; have := (GSZ.out i).2; unfold wrap64; omega
        obtain ⟨Wf, hWf⟩ : ∃ Wf, We.alloc (.cells #[.int .i64 o.f0, .int .i64 (c : Int), .int .i64 o.f2] 63) = Wf := ⟨_, rfl⟩
        have hBf : Below We.heap.size We Wf := by rw [← hWf]; exact below_alloc (Below.refl _ _) _
        have hsf : Wf.heap.size = We.heap.size + 1 := by rw [← hWf]; simp
        have BF := Lib.hid (show Wf.heap[wr.heap.size + 1]? = some (.cells #[.int .i64 o.f0, .int .i64 (c : Int), .int .i64 o.f2] 63 (0, 0)) by rw [← hWf, ← hse]; exact heap_alloc_new _ _)
        have g0 := blk_cell BF.out 0; have g1 := blk_cell BF.out 1
        simp only [List.getElem?_toArray, List.getElem?_cons_succ, List.getElem?_cons_zero] at g0 g1
        have e3f := (hBf.cell (World.block_lt_of_cell? _ _ e3')).trans e3'
        have e4f := (hBf.cell (World.block_lt_of_cell? _ _ e4)).trans e4
        have e5f := (hBf.cell (World.block_lt_of_cell? _ _ e5)).trans e5
        have Q13 := Lib.hid (Kd.R_below M13.out hBf); have Q14 := Lib.hid (Kd.R_below M14.out hBf); have Q15 := Lib.hid (M15.out.below hBf); have QB := Lib.hid (below_step MB.out hBf); have QP := Lib.hid ((hBf.block _ (blk_lt MP.out)).trans MP.out)
        have n15 := Q15.out.cell c hcl
        have f15 := Q15.out.thaw c
        have HG1 := Lib.hid hg1; have HO := Lib.hid hom; have HWF := Lib.hid hWf
        have hwe : We.heap.size < Wf.heap.size := by omega
        have E5 := Lib.hid e5f; have E4 := Lib.hid e4f; have G0 := Lib.hid g0
        have g2 := blk_cell BF.out 2
        simp only [List.getElem?_toArray, List.getElem?_cons_succ, List.getElem?_cons_zero] at g2
        have G2 := Lib.hid g2
        clear g2
        have hpl := (GSZ.out i).1
        obtain ⟨pn, hpn⟩ : ∃ pn, wrap64 (e.f5 - o.f2) = pn := ⟨_, rfl⟩
        have pv : IntKind.wrap .i64 (e.f5 - o.f2) = pn := by rw [i64_w, hpn]
        have HPN := Lib.hid hpn
        clear hpn
        have hbl := N15.out.lt; have hwl := blk_lt PB.out
        have FR := Lib.hid (show ∀ k, Wf.heap.size ≤ k → w.heap.size < k ∧ k ≠ b15 by intro k hk; omega)
        have hwf : w.heap.size ≤ Wf.heap.size := by omega
        have L13 : Hid (∀ k, (Value.slice A13 (G i).pairs.length c13).ownBlock = some k → k < wr.heap.size) := by obtain ⟨inner, hown⟩ := Kd.R_own O13.out; exact Lib.hid (fun k hk => own_lt hown k hk)
        have L14 : Hid (∀ k, (Value.slice A14 (G i).pairs.length c14).ownBlock = some k → k < wr.heap.size) := by obtain ⟨inner, hown⟩ := Kd.R_own O14.out; exact Lib.hid (fun k hk => own_lt hown k hk)
        have HAT := Lib.hid (show (G (i + 1)).at_ = (G i).at_ + 1 by rw [hg1])
        rw [← hWf] at g0 g1 e3f e4f e5f n15 f15
        rw [← HWE.out] at e0 e1 e2 e3 p2 l2 l3 o0 o1 o2 g0 g1 e3f e4f e5f n15 f15
        have hsz4 : Wf.heap.size = wr.heap.size + 1 + 1 := by omega
        rw [← hWf, ← HWE.out] at hsz4
        clear hg1 hom hWf hBf ho hrx l1 hC5 hC5' hC4 hop k0e k1e k2e k3e hf0 hf1 hcx e3' e4 e5
        rcases HO.out.1 with hf | hf | hf
        · rcases hw : (G i).wrote c with _ | _
          · have y2 : (o.f0 != 2) = true := by rw [hf]; rfl
            have y1 : (o.f0 != 1) = false := by rw [hf]; rfl
            have PR := Lib.hid (show (G (i + 1)).pairs = (G i).pairs ++ [(c, pn)] by rw [HG1.out]; dsimp only; rw [if_pos ⟨by omega, hw⟩, HPN.out])
            have WR := Lib.hid (show (G (i + 1)).wrote = (G i).wrote by rw [HG1.out]; dsimp only; rw [if_neg (by omega)])
            rw [hw] at n15; have HW := Lib.hid hw; clear hw
            have HFF := Lib.hid hf; clear hf
            have NE1 := Lib.hid (show ∀ k, wr.heap.size ≤ k → some k ≠ (Value.slice A13 (G i).pairs.length c13).ownBlock from fun k hk e => by have := L13.out k e.symm; omega)
            have NE2 := Lib.hid (show ∀ k, wr.heap.size ≤ k → some k ≠ (Value.slice A14 (G i).pairs.length c14).ownBlock from fun k hk e => by have := L14.out k e.symm; omega)
            have T1 := Lib.hid (show some b15 ≠ (Value.slice A13 (G i).pairs.length c13).ownBlock from fun e => (O13.out.1 _ e.symm).2 rfl)
            have T2 := Lib.hid (show some b15 ≠ (Value.slice A14 (G i).pairs.length c14).ownBlock from fun e => (O14.out.1 _ e.symm).2 rfl)
            have T3 := Lib.hid (show some w.heap.size ≠ (Value.slice A13 (G i).pairs.length c13).ownBlock from fun e => Nat.lt_irrefl _ (O13.out.1 _ e.symm).1)
            have T4 := Lib.hid (show some w.heap.size ≠ (Value.slice A14 (G i).pairs.length c14).ownBlock from fun e => Nat.lt_irrefl _ (O14.out.1 _ e.symm).1)
            have LF13 := Lib.hid (show ∀ k, (Value.slice A13 (G i).pairs.length c13).ownBlock = some k → k < Wf.heap.size from fun k h => by have := L13.out k h; omega)
            have LF14 := Lib.hid (show ∀ k, (Value.slice A14 (G i).pairs.length c14).ownBlock = some k → k < Wf.heap.size from fun k h => by have := L14.out k h; omega)
            go_wp2_with (first | ((with_reducible refine gate_builtin (b := .append) (xs := #[.tmp 96, .tmp 99]) rfl ?_); at_builtin; refine Kd.R_append ki (w0 := w) w.heap.size rfl (.tmp 96) (.tmp 99) 22 3 (.int .i64 0) 8 rfl Try.underlying22 info3 rfl (by decide) (by decide) (.slice A13 (G i).pairs.length c13) (fs (G i).pairs) (c : Int) [.int .i64 (c : Int)] (fun b => w.heap.size < b ∧ b ≠ b15) (fun _ => False) rfl (by rw [hsz4]; rfl) rfl (fun _ h => h.elim) (by rw [HWE.out, HWF.out]; exact FR.out) (by rw [HWE.out, HWF.out]; exact Q13.out) (by rw [HWE.out, HWF.out]; exact QB.out) (by rw [HWE.out, HWF.out]; exact hwf) (by rw [fs_len]; omega) ?_; intro v1 w1 hR1 hB1 hg1 hat1; rw [HWE.out, HWF.out] at hg1 hat1; (have B1 := Lib.hid hB1); (have hs1 := hg1.size); (have FR1 := Lib.hid (show ∀ k, w1.heap.size ≤ k → w.heap.size < k ∧ k ≠ b15 from fun k hk => FR.out k (Nat.le_trans hs1 hk))); (have U13 := Lib.hid hR1); (have U14 := Lib.hid (Kd.R_grown2 Q14.out rfl hg1 (fun k h e => AP.out k h e.symm))); (have U15 := Lib.hid (Q15.out.move (hg1.block b15 Q15.out.lt T1.out))); (have UP := Lib.hid ((hg1.block w.heap.size (blk_lt QP.out) T3.out).trans QP.out)); (have q5 := cell_grown hg1 E5.out (NE1.out _ (Nat.le_refl _))); (have q2 := cell_grown hg1 G2.out (NE1.out _ (Nat.le_succ _))); (have Q0 := Lib.hid (cell_grown hg1 G0.out (NE1.out _ (Nat.le_succ _)))); (have Q4 := Lib.hid (cell_grown hg1 E4.out (NE1.out _ (Nat.le_refl _)))); (have HAT1 := Lib.hid hat1); (have HS1 := Lib.hid hs1); clear hR1 hB1 hg1 hat1 e0 e1 e2 e3 p2 l2 l3 o0 o1 o2 g0 g1 e3f e4f e5f n15 f15) | ((with_reducible refine gate_builtin (b := .append) (xs := #[.tmp 101, .tmp 107]) rfl ?_); at_builtin; refine Kd.R_append ki (w0 := w) w.heap.size rfl (.tmp 101) (.tmp 107) 22 3 (.int .i64 0) 8 rfl Try.underlying22 info3 rfl (by decide) (by decide) (.slice A14 (G i).pairs.length c14) (sn (G i).pairs) pn [.int .i64 pn] (fun b => w.heap.size < b ∧ b ≠ b15) (fun _ => False) rfl rfl rfl (fun _ h => h.elim) FR1.out U14.out B1.out B1.out.size (by rw [sn_len]; omega) ?_; intro v2 w2 hR2 hB2 hg2 hat2; (have K13 := Lib.hid (Kd.R_grown2 U13.out rfl hg2 (apt_one AP.out LF14.out HAT1.out))); (have K14 := Lib.hid hR2); (have K15 := Lib.hid (U15.out.move (hg2.block b15 U15.out.lt T2.out))); (have KP := Lib.hid ((hg2.block w.heap.size (blk_lt UP.out) T4.out).trans UP.out)); (have KB := Lib.hid hB2); (have KA := Lib.hid (apt_two AP.out LF13.out LF14.out (row_lt U13.out) HS1.out HAT1.out hat2)); (have q0 := cell_grown hg2 Q0.out (NE2.out _ (Nat.le_succ _))); (have q4 := cell_grown hg2 Q4.out (NE2.out _ (Nat.le_refl _))); (have n15 := K15.out.cell c hcl); (have f15 := K15.out.thaw c); clear hR2 hB2 hg2 hat2 q5 q2))
            go_roundw
            case measure => simp [intOf]; omega
            case rel => exact ⟨i + 1, hlt, rfl, by rw [HAT.out]; rfl, by rw [PR.out, fs_snoc]; exact K13.out, by rw [PR.out, sn_snoc]; exact K14.out, KA.out, (by rw [WR.out]; exact K15.out), KB.out, KP.out⟩
          · have y2 : (o.f0 != 2) = true := by rw [hf]; rfl
            have y1 : (o.f0 != 1) = false := by rw [hf]; rfl
            have PR := Lib.hid (show (G (i + 1)).pairs = (G i).pairs by rw [HG1.out]; dsimp only; rw [if_neg (by rintro ⟨h1, h2⟩; rw [hw] at h2; cases h2)])
            have WR := Lib.hid (show (G (i + 1)).wrote = (G i).wrote by rw [HG1.out]; dsimp only; rw [if_neg (by omega)])
            rw [hw] at n15; have HW := Lib.hid hw; clear hw
            have HFF := Lib.hid hf; clear hf
            go_wp2_with fail
            rw [HWE.out, HWF.out]
            go_roundw
            case measure => simp [intOf]; omega
            case rel => exact ⟨i + 1, hlt, rfl, by rw [HAT.out]; rfl, by rw [PR.out]; exact Q13.out, by rw [PR.out]; exact Q14.out, AP.out, (by rw [WR.out]; exact Q15.out), QB.out, QP.out⟩
        · have y2 : (o.f0 != 2) = false := by rw [hf]; rfl
          have y1 : (o.f0 != 1) = true := by rw [hf]; rfl
          have PR := Lib.hid (show (G (i + 1)).pairs = (G i).pairs by rw [HG1.out]; dsimp only; rw [if_neg (by rintro ⟨h1, h2⟩; omega)])
          have WR := Lib.hid (show (G (i + 1)).wrote = up (G i).wrote c true by rw [HG1.out]; dsimp only; rw [if_pos (by omega)])
          have HFF := Lib.hid hf; clear hf
          go_wp2_with fail
          have hba := below_alloc (below_alloc (Below.refl (wr.setCell ⟨b15, c, none⟩ (.bool true)).heap.size (wr.setCell ⟨b15, c, none⟩ (.bool true))) (.cells #[.int .i64 e.f0, .int .i64 e.f1, .int .i64 e.f2, .int .i64 e.f3, .int .i64 e.f4, .int .i64 e.f5] 53)) (.cells #[.int .i64 o.f0, .int .i64 (c : Int), .int .i64 o.f2] 63)
          have hpb := (Below.heap_setCell wr ⟨b15, c, none⟩ (.bool true) _ hpn).trans PB.out
          go_roundw
          case measure => simp [intOf]; omega
          case rel => exact ⟨i + 1, hlt, rfl, by rw [HAT.out]; rfl, by rw [PR.out]; exact Kd.R_below (r_st O13.out N15.out _ _) hba, by rw [PR.out]; exact Kd.R_below (r_st O14.out N15.out _ _) hba, AP.out, (by rw [WR.out]; exact Fn.below (Fn.set N15.out c hcl _ (by simp only [up_self]) (fun m hm hne => by simp only [up_ne _ _ _ _ hne])) hba), below_alloc (below_alloc (Below.setCell B.out (p := ⟨b15, c, none⟩) hb15w _) _) _, (hba.block _ (blk_lt hpb)).trans hpb⟩
        · rcases hw : (G i).wrote c with _ | _
          · have y2 : (o.f0 != 2) = true := by rw [hf]; rfl
            have y1 : (o.f0 != 1) = true := by rw [hf]; rfl
            have PR := Lib.hid (show (G (i + 1)).pairs = (G i).pairs ++ [(c, pn)] by rw [HG1.out]; dsimp only; rw [if_pos ⟨by omega, hw⟩, HPN.out])
            have WR := Lib.hid (show (G (i + 1)).wrote = up (G i).wrote c true by rw [HG1.out]; dsimp only; rw [if_pos (by omega)])
            rw [hw] at n15; have HW := Lib.hid hw; clear hw
            have HFF := Lib.hid hf; clear hf
            have NE1 := Lib.hid (show ∀ k, wr.heap.size ≤ k → some k ≠ (Value.slice A13 (G i).pairs.length c13).ownBlock from fun k hk e => by have := L13.out k e.symm; omega)
            have NE2 := Lib.hid (show ∀ k, wr.heap.size ≤ k → some k ≠ (Value.slice A14 (G i).pairs.length c14).ownBlock from fun k hk e => by have := L14.out k e.symm; omega)
            have T1 := Lib.hid (show some b15 ≠ (Value.slice A13 (G i).pairs.length c13).ownBlock from fun e => (O13.out.1 _ e.symm).2 rfl)
            have T2 := Lib.hid (show some b15 ≠ (Value.slice A14 (G i).pairs.length c14).ownBlock from fun e => (O14.out.1 _ e.symm).2 rfl)
            have T3 := Lib.hid (show some w.heap.size ≠ (Value.slice A13 (G i).pairs.length c13).ownBlock from fun e => Nat.lt_irrefl _ (O13.out.1 _ e.symm).1)
            have T4 := Lib.hid (show some w.heap.size ≠ (Value.slice A14 (G i).pairs.length c14).ownBlock from fun e => Nat.lt_irrefl _ (O14.out.1 _ e.symm).1)
            have LF13 := Lib.hid (show ∀ k, (Value.slice A13 (G i).pairs.length c13).ownBlock = some k → k < Wf.heap.size from fun k h => by have := L13.out k h; omega)
            have LF14 := Lib.hid (show ∀ k, (Value.slice A14 (G i).pairs.length c14).ownBlock = some k → k < Wf.heap.size from fun k h => by have := L14.out k h; omega)
            go_wp2_with (first | ((with_reducible refine gate_builtin (b := .append) (xs := #[.tmp 96, .tmp 99]) rfl ?_); at_builtin; refine Kd.R_append ki (w0 := w) w.heap.size rfl (.tmp 96) (.tmp 99) 22 3 (.int .i64 0) 8 rfl Try.underlying22 info3 rfl (by decide) (by decide) (.slice A13 (G i).pairs.length c13) (fs (G i).pairs) (c : Int) [.int .i64 (c : Int)] (fun b => w.heap.size < b ∧ b ≠ b15) (fun _ => False) rfl (by rw [hsz4]; rfl) rfl (fun _ h => h.elim) (by rw [HWE.out, HWF.out]; exact FR.out) (by rw [HWE.out, HWF.out]; exact Q13.out) (by rw [HWE.out, HWF.out]; exact QB.out) (by rw [HWE.out, HWF.out]; exact hwf) (by rw [fs_len]; omega) ?_; intro v1 w1 hR1 hB1 hg1 hat1; rw [HWE.out, HWF.out] at hg1 hat1; (have B1 := Lib.hid hB1); (have hs1 := hg1.size); (have FR1 := Lib.hid (show ∀ k, w1.heap.size ≤ k → w.heap.size < k ∧ k ≠ b15 from fun k hk => FR.out k (Nat.le_trans hs1 hk))); (have U13 := Lib.hid hR1); (have U14 := Lib.hid (Kd.R_grown2 Q14.out rfl hg1 (fun k h e => AP.out k h e.symm))); (have U15 := Lib.hid (Q15.out.move (hg1.block b15 Q15.out.lt T1.out))); (have UP := Lib.hid ((hg1.block w.heap.size (blk_lt QP.out) T3.out).trans QP.out)); (have q5 := cell_grown hg1 E5.out (NE1.out _ (Nat.le_refl _))); (have q2 := cell_grown hg1 G2.out (NE1.out _ (Nat.le_succ _))); (have Q0 := Lib.hid (cell_grown hg1 G0.out (NE1.out _ (Nat.le_succ _)))); (have Q4 := Lib.hid (cell_grown hg1 E4.out (NE1.out _ (Nat.le_refl _)))); (have HAT1 := Lib.hid hat1); (have HS1 := Lib.hid hs1); clear hR1 hB1 hg1 hat1 e0 e1 e2 e3 p2 l2 l3 o0 o1 o2 g0 g1 e3f e4f e5f n15 f15) | ((with_reducible refine gate_builtin (b := .append) (xs := #[.tmp 101, .tmp 107]) rfl ?_); at_builtin; refine Kd.R_append ki (w0 := w) w.heap.size rfl (.tmp 101) (.tmp 107) 22 3 (.int .i64 0) 8 rfl Try.underlying22 info3 rfl (by decide) (by decide) (.slice A14 (G i).pairs.length c14) (sn (G i).pairs) pn [.int .i64 pn] (fun b => w.heap.size < b ∧ b ≠ b15) (fun _ => False) rfl rfl rfl (fun _ h => h.elim) FR1.out U14.out B1.out B1.out.size (by rw [sn_len]; omega) ?_; intro v2 w2 hR2 hB2 hg2 hat2; (have K13 := Lib.hid (Kd.R_grown2 U13.out rfl hg2 (apt_one AP.out LF14.out HAT1.out))); (have K14 := Lib.hid hR2); (have K15 := Lib.hid (U15.out.move (hg2.block b15 U15.out.lt T2.out))); (have KP := Lib.hid ((hg2.block w.heap.size (blk_lt UP.out) T4.out).trans UP.out)); (have KB := Lib.hid hB2); (have KA := Lib.hid (apt_two AP.out LF13.out LF14.out (row_lt U13.out) HS1.out HAT1.out hat2)); (have q0 := cell_grown hg2 Q0.out (NE2.out _ (Nat.le_succ _))); (have q4 := cell_grown hg2 Q4.out (NE2.out _ (Nat.le_refl _))); (have n15 := K15.out.cell c hcl); (have f15 := K15.out.thaw c); clear hR2 hB2 hg2 hat2 q5 q2))
            go_roundw
            case measure => simp [intOf]; omega
            case rel => exact ⟨i + 1, hlt, rfl, by rw [HAT.out]; rfl, by rw [PR.out, fs_snoc]; exact r_st K13.out K15.out _ _, by rw [PR.out, sn_snoc]; exact r_st K14.out K15.out _ _, KA.out, (by rw [WR.out]; exact Fn.set K15.out c hcl _ (by simp only [up_self]) (fun m hm hne => by simp only [up_ne _ _ _ _ hne])), Below.setCell KB.out (p := ⟨b15, c, none⟩) hb15w _, (Below.heap_setCell _ ⟨b15, c, none⟩ _ _ hpn).trans KP.out⟩
          · have y2 : (o.f0 != 2) = true := by rw [hf]; rfl
            have y1 : (o.f0 != 1) = true := by rw [hf]; rfl
            have PR := Lib.hid (show (G (i + 1)).pairs = (G i).pairs by rw [HG1.out]; dsimp only; rw [if_neg (by rintro ⟨h1, h2⟩; rw [hw] at h2; cases h2)])
            have WR := Lib.hid (show (G (i + 1)).wrote = up (G i).wrote c true by rw [HG1.out]; dsimp only; rw [if_pos (by omega)])
            rw [hw] at n15; have HW := Lib.hid hw; clear hw
            have HFF := Lib.hid hf; clear hf
            go_wp2_with fail
            have hba := below_alloc (below_alloc (Below.refl (wr.setCell ⟨b15, c, none⟩ (.bool true)).heap.size (wr.setCell ⟨b15, c, none⟩ (.bool true))) (.cells #[.int .i64 e.f0, .int .i64 e.f1, .int .i64 e.f2, .int .i64 e.f3, .int .i64 e.f4, .int .i64 e.f5] 53)) (.cells #[.int .i64 o.f0, .int .i64 (c : Int), .int .i64 o.f2] 63)
            have hpb := (Below.heap_setCell wr ⟨b15, c, none⟩ (.bool true) _ hpn).trans PB.out
            go_roundw
            case measure => simp [intOf]; omega
            case rel => exact ⟨i + 1, hlt, rfl, by rw [HAT.out]; rfl, by rw [PR.out]; exact Kd.R_below (r_st O13.out N15.out _ _) hba, by rw [PR.out]; exact Kd.R_below (r_st O14.out N15.out _ _) hba, AP.out, (by rw [WR.out]; exact Fn.below (Fn.set N15.out c hcl _ (by simp only [up_self]) (fun m hm hne => by simp only [up_ne _ _ _ _ hne])) hba), below_alloc (below_alloc (Below.setCell B.out (p := ⟨b15, c, none⟩) hb15w _) _) _, (hba.block _ (blk_lt hpb)).trans hpb⟩
      · have hg1 : G (i + 1) = G i := by rw [HGS.out, if_neg hid]
        have HID := Lib.hid hid; have HG1 := Lib.hid hg1
        clear hid hg1
        by_cases k0 : e.f0 = (t : Int)
        · have yk0 : (e.f0 != (t : Int)) = false := by rw [k0]; simp
          by_cases k1 : e.f1 = (x : Int)
          · have yk1 : (e.f1 != (x : Int)) = false := by rw [k1]; simp
            by_cases k2 : e.f2 = y
            · have yk2 : (e.f2 != y) = false := by rw [k2]; simp
              have hf3 : ¬ e.f3 ≤ 3 := fun h => HID.out ⟨k0, k1, k2, h⟩
              have y3 := decide_eq_true (show e.f3 > 3 by omega)
              clear k0 k1 k2 hf3
              go_wp2_with fail
              rw [HWE.out]
              go_roundw
              case measure => simp [intOf]; omega
              case rel => exact ⟨i + 1, hlt, rfl, by rw [HG1.out], by rw [HG1.out]; exact M13.out, by rw [HG1.out]; exact M14.out, AP.out, by rw [HG1.out]; exact M15.out, MB.out, MP.out⟩
            · have yk2 : (e.f2 != y) = true := by simpa [bne_iff_ne] using k2
              clear k0 k1 k2
              go_wp2_with fail
              rw [HWE.out]
              go_roundw
              case measure => simp [intOf]; omega
              case rel => exact ⟨i + 1, hlt, rfl, by rw [HG1.out], by rw [HG1.out]; exact M13.out, by rw [HG1.out]; exact M14.out, AP.out, by rw [HG1.out]; exact M15.out, MB.out, MP.out⟩
          · have yk1 : (e.f1 != (x : Int)) = true := by simpa [bne_iff_ne] using k1
            clear k0 k1
            go_wp2_with fail
            rw [HWE.out]
            go_roundw
            case measure => simp [intOf]; omega
            case rel => exact ⟨i + 1, hlt, rfl, by rw [HG1.out], by rw [HG1.out]; exact M13.out, by rw [HG1.out]; exact M14.out, AP.out, by rw [HG1.out]; exact M15.out, MB.out, MP.out⟩
        · have yk0 : (e.f0 != (t : Int)) = true := by simpa [bne_iff_ne] using k0
          clear k0
          go_wp2_with fail
          rw [HWE.out]
          go_roundw
          case measure => simp [intOf]; omega
          case rel => exact ⟨i + 1, hlt, rfl, by rw [HG1.out], by rw [HG1.out]; exact M13.out, by rw [HG1.out]; exact M14.out, AP.out, by rw [HG1.out]; exact M15.out, MB.out, MP.out⟩
    · have q0 := decide_eq_false (show ¬ (i : Int) < (E.length : Int) by omega)
      obtain rfl : i = E.length := by omega
      have hGE : G E.length = tgE (opsAt T t x) t x y E := by rw [← HG.out, List.take_length]
      obtain ⟨P, hP⟩ : ∃ P, (G E.length).pairs = P := ⟨_, rfl⟩
      have hPF : ∀ p ∈ P, p.1 < C.length ∧ F k0 p.1 = p.2 := by rw [← hP, hGE]; exact HF.out
      have hpl := (GSZ.out E.length).1
      rw [hP] at O13 O14 hc13 hc14 hpl ⊢
      have PF := Lib.hid hPF
      have C13 := Lib.hid (show ki.C wr A13 P.length (fs P) by have h := c_of_R O13.out; rwa [fs_len] at h)
      have C14 := Lib.hid (show ki.C wr A14 P.length (sn P) by have h := c_of_R O14.out; rwa [sn_len] at h)
      clear hP hPF hGE O13 O14 AP N15 PB
      obtain ⟨wz, hwz⟩ : ∃ wz, wz = wr := ⟨_, rfl⟩
      subst hwz
      go_wp2_with fail
      go_loopw [20] (fun kv wx => ∃ k : Nat, k ≤ k0 ∧ kv = .int .i64 (k : Int) ∧ Below wz.heap.size wz wx) (fun kv _ => M - (intOf kv).toNat)
      case atStart => exact ⟨0, Nat.zero_le _, rfl, Below.refl _ _⟩
      case round =>
        obtain ⟨k, hk, rfl, hBk⟩ := hrel
        obtain ⟨wk, hwk⟩ : ∃ wk, wk = wr := ⟨_, rfl⟩
        subst hwk
        have BK := Lib.hid hBk
        clear hBk
        have q1 := decide_eq_true (show (k : Int) < (M : Int) by omega)
        have q1n := decide_eq_true (show k < M by omega)
        have q1p := eq_true (show k < M by omega)
        have pk : IntKind.wrap .i64 ((k : Int) + 1) = ((k + 1 : Nat) : Int) := by rw [i64_w]; unfold wrap64; omega
        go_wp2_with fail
        go_loopw [21, 22] (fun fv jv wx => ∃ (j : Nat) (b : Bool), j ≤ P.length ∧ fv = .bool b ∧ jv = .int .i64 (j : Int) ∧ (k = k0 → b = true) ∧ Below wz.heap.size wz wx) (fun _ jv _ => P.length - (intOf jv).toNat)
        case atStart => exact ⟨0, true, Nat.zero_le _, rfl, rfl, (fun _ => rfl), BK.out⟩
        case round =>
          obtain ⟨j, b, hj, rfl, rfl, hb, hBj⟩ := hrel
          have BJ := Lib.hid hBj
          clear hBj
          by_cases hlt2 : j < P.length
          · have q2 := decide_eq_true (show (j : Int) < (P.length : Int) by omega)
            have pj : IntKind.wrap .i64 ((j : Int) + 1) = ((j + 1 : Nat) : Int) := by rw [i64_w]; unfold wrap64; omega
            cases b
            · have hne : k ≠ k0 := fun h => Bool.noConfusion (hb h)
              go_wp2_with fail
              go_quiet (fail)
              go_wp2_with fail
              go_roundw
              case measure => simp [intOf]; omega
              case rel => exact ⟨j + 1, false, hlt2, rfl, rfl, (fun h => absurd h hne), pw_below_drewN BJ.out _⟩
            · obtain ⟨hc0, hF0⟩ : P[j].1 < C.length ∧ (k = k0 → F k P[j].1 = P[j].2) := ⟨(PF.out _ (List.getElem_mem _)).1, fun h => by rw [h]; exact (PF.out _ (List.getElem_mem _)).2⟩
              obtain ⟨c, hc⟩ : ∃ c, P[j].1 = c := ⟨_, rfl⟩
              obtain ⟨v, hv⟩ : ∃ v, P[j].2 = v := ⟨_, rfl⟩
              obtain ⟨ad1, hA1, x1⟩ := Kd.at_int (Kd.C_below C13.out BJ.out) (j : Int) (by omega) (by omega)
              obtain ⟨ad2, hA2, x2⟩ := Kd.at_int (Kd.C_below C14.out BJ.out) (j : Int) (by omega) (by omega)
              rw [Int.toNat_natCast, rd_fs _ _ hlt2, hc] at x1
              rw [Int.toNat_natCast, rd_sn _ _ hlt2, hv] at x2
              obtain ⟨ad3, A3, c3, hA3, x3, hl3, hC3⟩ := at_S (Kd.C_below HS.out (below_step B.out BJ.out)) (k : Int) (by omega) (by omega)
              have hgr : (List.map (fun k => row C.length (F k)) (List.range M)).getD (k : Int).toNat [] = row C.length (F k) := by
                rw [Int.toNat_natCast, List.getD_eq_getElem?_getD, List.getElem?_map, List.getElem?_range (by omega)]; rfl
              rw [hgr, row_len] at hl3 hC3
              rw [hgr, row_len, Int.toNat_natCast] at x3
              rw [hc, hv] at hF0
              rw [hc] at hc0
              obtain ⟨ad4, hA4, x4⟩ := Kd.at_int hC3 (c : Int) (by omega) (by omega)
              rw [Int.toNat_natCast, rd_row_ _ _ _ hc0] at x4
              subst hA1 hA2 hA3 hA4
              have d1 := eq_true (show (0 : Int) ≤ (j : Int) by omega)
              have d2 := eq_true (show (j : Int) < (P.length : Int) by omega)
              have d3 := eq_true (show (0 : Int) ≤ (k : Int) by omega)
              have d4 := eq_true (show (k : Int) < (M : Int) by omega)
              have d5 := eq_true (show (0 : Int) ≤ (c : Int) by omega)
              have d6 := eq_true (show (c : Int) < (C.length : Int) by omega)
              have HF0 := Lib.hid hF0
              clear hF0 hgr hC3 hc hv
              obtain ⟨z, hz⟩ : ∃ z, F k c = z := ⟨_, rfl⟩
              have HZ := Lib.hid hz
              rw [hz] at x4
              clear hz
              go_wp2_with fail
              go_quiet (fail)
              go_wp2_with fail
              go_roundw
              case measure => simp [intOf]; omega
              case rel => exact ⟨j + 1, z == v, hlt2, rfl, rfl, (fun h => by rw [← HZ.out, HF0.out h]; simp), pw_below_drewN BJ.out _⟩
          · have q2 := decide_eq_false (show ¬ (j : Int) < (P.length : Int) by omega)
            cases b
            · have hne : k ≠ k0 := fun h => Bool.noConfusion (hb h)
              go_wp2_with fail
              go_roundw
              case measure => simp [intOf]; omega
              case rel => exact ⟨k + 1, by omega, rfl, BJ.out⟩
            · go_wp2_with fail
              go_ret
              exact ⟨rfl, below_step B.out BJ.out⟩
end Go.Proofs.Ytonhmkllfbagmaa.Tx
