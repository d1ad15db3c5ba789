/- Transactions: the program's TxSerial at an order that may be. -/
import Derived.Test.YtonhmkllfbagmaaRtx
import Derived.Test.YtonhmkllfbagmaaPlF
namespace Go.Proofs.Ytonhmkllfbagmaa.Tx
open Go.RowKit Go.Proofs.YtonhmkllfbagmaaW.PrintWords Go.Proofs.YtonhmkllfbagmaaW.PrintLast Go.Proofs.YtonhmkllfbagmaaW.PrintMore Go.Proofs.Ytonhmkllfbagmaa.PFnExactTxFair
set_option linter.unusedVariables false
set_option linter.unusedSimpArgs false
/-- Block b has cap cells. -/
def Sz (w : World) (b : Nat) (t : TypeId) (cap : Nat) : Prop := ∃ cur : Array Value, w.heap[b]? = some (.cells cur t (0, 0)) ∧ cur.size = cap
theorem Sz.move {w w1 : World} {b cap : Nat} {t : TypeId} (h : Sz w b t cap) (hb : w1.heap[b]? = w.heap[b]?) : Sz w1 b t cap := by obtain ⟨c, h1, h2⟩ := h; exact ⟨c, hb.trans h1, h2⟩
theorem Sz.set {w : World} {b cap : Nat} {t : TypeId} (h : Sz w b t cap) (k : Nat) (v : Value) : Sz (w.setCell ⟨b, k, none⟩ v) b t cap := by
  obtain ⟨c, h1, h2⟩ := h
  exact ⟨_, blk_set h1 k v, by simpa using h2⟩
theorem Sz.far {w : World} {b cap : Nat} {t : TypeId} (h : Sz w b t cap) {p : Addr} (hp : b ≠ p.block) (u : Value) : Sz (w.setCell p u) b t cap := h.move (Below.heap_setCell w p u b hp)
theorem sz_int {w : World} {base : Nat} {ok : Nat → Prop} {v : Value} {xs : List Int} (h : ki.R 3 w base ok v xs) (hn : 0 < xs.length) : ∃ g c, v = .slice (some ⟨g, 0, none⟩) xs.length c ∧ xs.length ≤ c ∧ c ≤ maxLen ∧ ok g ∧ base ≤ g ∧ Fn w g 3 xs.length (fun k => .int .i64 (xs.getD k 0)) ∧ Sz w g 3 c := by
  obtain ⟨g, c, rfl, hc, hok, hb, hf⟩ := fn_int h hn
  obtain ⟨inner, hlen, hs⟩ := Kd.R_own h
  rcases hs with ⟨e, _⟩ | ⟨g', cap, cur, e, hb', hg, hc', hm, hsz, ht⟩
  · cases e
  · injection e with e1 e2 e3
    injection e1 with e1
    injection e1 with e1
    subst e1 e3
    exact ⟨g, c, rfl, hc, hm, hok, hb, hf, cur, hg, by rw [hsz]; show c * 1 = c; omega⟩
theorem r_fn {w : World} {base b n cap : Nat} {ok : Nat → Prop} {f : Nat → Int} (h : Fn w b 3 n (fun k => .int .i64 (f k))) (hs : Sz w b 3 cap) (hc : n ≤ cap) (hm : cap ≤ maxLen) (hb : base ≤ b) (hok : ok b) : ki.R 3 w base ok (.slice (some ⟨b, 0, none⟩) n cap) (row n f) := by
  obtain ⟨cur, h1, h2, h3⟩ := h
  obtain ⟨cur', h1', h4⟩ := hs
  rw [h1] at h1'
  injection h1' with e
  injection e with e
  subst e
  refine Kd.R_of_own ⟨by simp [encs, row_len], .inr ⟨b, cap, cur, by rw [row_len], hb, h1, by rw [row_len]; exact hc, hm, by omega, ?_⟩⟩ (fun k hk => by
    have : b = k := by simpa [Value.ownBlock] using hk
    exact this ▸ hok)
  rw [row_len]
  apply List.ext_getElem
  · simp [encs, row_len]; omega
  · intro i hi1 hi2
    have hi : i < n := by simp at hi1; omega
    have := h3 i hi
    simp only [List.getElem_take, Array.getElem_toList]
    rw [Array.getElem?_eq_getElem (by omega)] at this
    injection this with this
    rw [this]
    simp [encs, row]
theorem ret15 {fn : Func} (h : fn.results = #[.tmp 4, .tmp 5]) (tmps : Array Value) (w : World) (x y : Value) (hx : tmps.getD 4 undef = x) (hy : tmps.getD 5 undef = y) : (results fn tmps).run Try.prog w = .ok (.tuple #[x, y]) w := by
  have hx2 : tmps[4]?.getD undef = x := by simpa using hx
  have hy2 : tmps[5]?.getD undef = y := by simpa using hy
  simp [results, h, go_sem, hx2, hy2]
set_option maxHeartbeats 8000000 in
set_option maxRecDepth 100000 in
theorem serialC (w : World) (AC : Option Addr) (cC : Nat) (C : List Int) (man : Int) (AT : Option Addr) (cT : Nat) (T : List (List (List S63))) (AL : Option Addr) (cL : Nat) (ord : List Nat) (k : Nat) (hC : ki.C w AC C.length C) (hcC : C.length ≤ cC) (hT : kT.C w AT T.length T) (hcT : T.length ≤ cT) (hL : ki.C w AL ord.length (ord.map (fun t : Nat => (t : Int)))) (hcL : ord.length ≤ cL)
    (hok : impl_TxOK.f k C man T = some true) (h1 : 0 < C.length) (h2 : C.length ≤ 8) (hn : 0 < T.length) (hn2 : T.length ≤ 4) (ok : OpsOK T.length C.length T) (hl : ord.length ≤ 1000) (hord : OrdOK T.length T (fun k => C.getD k 0) ord) :
    Calls Try.prog 15 #[.agg #[.slice AC C.length cC, .int .i64 man, .slice AT T.length cT], .slice AL ord.length cL] w fun e w' => ∃ v, e = .returned (.tuple #[v, .int .i64 0]) ∧ ki.R 3 w' w.heap.size (fun _ => True) v (row C.length (serL T (fun k => C.getD k 0) ord).cells) ∧ Below w.heap.size w w' := by
  have HC := Lib.hid hC; have HT := Lib.hid hT; have HL := Lib.hid hL; have OK := Lib.hid ok; have HOK := Lib.hid hok; have HORD := Lib.hid hord
  obtain ⟨Sx, hSx⟩ : ∃ Sx, serL T (fun k => C.getD k 0) ord = Sx := ⟨_, rfl⟩
  rw [hSx]
  have HSX := Lib.hid hSx
  obtain ⟨Cn, hCn⟩ : ∃ Cn : Nat → SQ, ∀ j, serL T (fun k => C.getD k 0) (ord.take j) = Cn j := ⟨_, fun _ => rfl⟩
  have CN := Lib.hid hCn
  clear hC hT hL ok hok hord hSx hCn
  have q1 := decide_eq_false (show ¬ (ord.length : Int) > 4096 by omega)
  go_enter Try.func15, Try.ntmps15
  go_wp2_with fail
  obtain ⟨Wa, hWa⟩ : ∃ Wa, w.alloc (.cells #[.slice AC C.length cC, .int .i64 man, .slice AT T.length cT] 30) = Wa := ⟨_, rfl⟩
  have BA := Lib.hid (show Below w.heap.size w Wa by rw [← hWa]; exact below_alloc (Below.refl _ _) _)
  have hwa : w.heap.size < Wa.heap.size := by rw [← hWa]; simp
  have hpb : Wa.heap[w.heap.size]? = some (.cells #[.slice AC C.length cC, .int .i64 man, .slice AT T.length cT] 30 (0, 0)) := by rw [← hWa]; exact heap_alloc_new w _
  have CB := Lib.hid (show ∀ X, Below Wa.heap.size Wa X → X.cell? ⟨w.heap.size, 0, none⟩ = some (.slice AC C.length cC) ∧ X.cell? ⟨w.heap.size, 1, none⟩ = some (.int .i64 man) ∧ X.cell? ⟨w.heap.size, 2, none⟩ = some (.slice AT T.length cT) by
    intro X hX
    have hb := (hX.block _ hwa).trans hpb
    exact ⟨(blk_cell hb 0).trans rfl, (blk_cell hb 1).trans rfl, (blk_cell hb 2).trans rfl⟩)
  rw [hWa]
  clear hWa hpb
  refine (impl_TxOK.calls k AC cC C man AT cT T true Wa (Kd.C_below HC.out BA.out) hcC (Kd.C_below HT.out BA.out) hcT HOK.out).mono ?_
  rintro e Wb ⟨rfl, hB⟩
  have BB := Lib.hid hB
  obtain ⟨p0, p1, p2⟩ := CB.out Wb hB
  clear hB
  go_wp2_with fail
  refine (slices_Clone_int_int.calls AC cC C C Wb (Kd.C_below HC.out (below_step BA.out BB.out)) hcC (clone_f C (by omega))).mono ?_
  rintro e Wc ⟨v6, rfl, hR6, hB6⟩
  obtain ⟨b6, c6, rfl, hc6, hm6, -, hge6, hf6, hs6⟩ := sz_int hR6 h1
  have F6 := Lib.hid hf6; have S6 := Lib.hid hs6
  have B6 := Lib.hid hB6
  obtain ⟨p0', p1', p2'⟩ := CB.out Wc (below_step BB.out hB6)
  have hb6l := hf6.lt
  have hsb := BB.out.size
  have hsc := hB6.size
  clear hR6 hB6 hf6 hs6 p0 p1 p2
  go_wp2_with ((with_reducible refine gate_dst (N := 26) rfl ?_); refine Kd.R_make ki (w0 := Wc) Wc.heap.size 3 rfl (N := 26) rfl 22 _ _ rfl (T.length : Int) rfl rfl Try.underlying22 (.int .i64 0) 8 info3 rfl (by decide) (by omega) 0 (ok := fun b => Wc.heap.size ≤ b) (okp := fun _ => False) rfl (fun _ hk => hk.elim) (Nat.le_refl _) (by omega) (by rw [Int.toNat_natCast]; omega) (Below.refl _ _) (Nat.le_refl _) ?_; intro v7 w7 hR7 hB7 hg7 hat7; rw [Int.toNat_natCast] at hR7)
  obtain ⟨b7, c7, rfl, hc7, hge7, -, hf7⟩ := fn_int hR7 (by rw [List.length_replicate]; exact hn)
  rw [List.length_replicate] at hc7 hf7 ⊢
  have hge7 : Wc.heap.size ≤ b7 := hge7
  have N7 := Lib.hid (hf7.ext (g := fun t => .int .i64 (((Cn 0).nx t : Nat) : Int)) (fun t ht => by rw [← CN.out 0, List.getD_eq_getElem?_getD, List.getElem?_replicate, if_pos ht]; rfl))
  have N6 := Lib.hid ((F6.out.below hB7).ext (g := fun c => .int .i64 ((Cn 0).cells c)) (fun c hc => by rw [← CN.out 0]; rfl))
  have Z6 := Lib.hid (S6.out.move (hB7.block b6 hb6l))
  have B7 := Lib.hid (below_step B6.out hB7)
  clear hR7 hB7 hg7 hat7 hf7 F6 S6 p0' p1' p2'
  go_loopw [29] (fun iv wr => ∃ k : Nat, k ≤ ord.length ∧ iv = .int .i64 (k : Int) ∧ Fn wr b6 3 C.length (fun c => .int .i64 ((Cn k).cells c)) ∧ Fn wr b7 3 T.length (fun t => .int .i64 (((Cn k).nx t : Nat) : Int)) ∧ Sz wr b6 3 c6 ∧ Below Wb.heap.size Wb wr) (fun iv _ => ord.length - (intOf iv).toNat)
  case atStart => exact ⟨0, Nat.zero_le _, rfl, N6.out, N7.out, Z6.out, B7.out⟩
  case round =>
    clear N6 N7 Z6 B7
    obtain ⟨k, hk, rfl, h6, h7, hz, hB⟩ := hrel
    have N6 := Lib.hid h6; have N7 := Lib.hid h7; have Z6 := Lib.hid hz; have B := Lib.hid hB
    clear h6 h7 hz hB
    by_cases hlt : k < ord.length
    · have q0 := decide_eq_true (show (k : Int) < (ord.length : Int) by omega)
      have hxn := eq_true (show (k : Int) < (ord.length : Int) by omega)
      have pk : IntKind.wrap .i64 ((k : Int) + 1) = ((k + 1 : Nat) : Int) := by rw [i64_w]; unfold wrap64; omega
      obtain ⟨ht, hnx⟩ := HORD.out k hlt
      rw [CN.out k] at hnx
      obtain ⟨t, htk⟩ : ∃ t, ord[k] = t := ⟨_, rfl⟩
      rw [htk] at ht hnx
      obtain ⟨z, hz⟩ : ∃ z, (Cn k).nx t = z := ⟨_, rfl⟩
      rw [hz] at hnx
      have HZ := Lib.hid hz; have HTK := Lib.hid htk
      have hall := below_step (below_step BA.out BB.out) B.out
      obtain ⟨ad, hAL, hcell⟩ := Kd.at_int (Kd.C_below HL.out hall) (k : Int) (by omega) (by omega)
      have hrd : rd (ord.map (fun t : Nat => (t : Int))) (k : Int) = (t : Int) := by
        unfold rd
        rw [Int.toNat_natCast, List.getD_eq_getElem?_getD, List.getElem?_map, List.getElem?_eq_getElem hlt]
        show ((ord[k] : Nat) : Int) = _
        rw [htk]
      rw [Int.toNat_natCast, hrd] at hcell
      subst hAL
      have n7 := N7.out.cell t ht
      simp only [hz] at n7
      obtain ⟨p0, p1, p2⟩ := CB.out wr (below_step BB.out B.out)
      obtain ⟨adT, A5, c5, hAT, l1, hl5, hC5⟩ := at_L6 (Kd.C_below HT.out (below_step BA.out BB.out)) (t : Int) (by omega) (by omega)
      rw [Int.toNat_natCast] at l1
      have l2 : wr.cell? (adT.add t) = some (.slice A5 (thr T t).length c5) := (B.out.cell (World.block_lt_of_cell? _ _ l1)).trans l1
      have hC5' : (Kd.slice 63 k63).C Wb A5 (thr T t).length (thr T t) := hC5
      subst hAT
      obtain ⟨ad5, A4, c4, hA5, l3, hl4, hC4⟩ := at_L5 hC5' (z : Int) (by omega) (by omega)
      rw [Int.toNat_natCast] at l3
      replace l3 := (B.out.cell (World.block_lt_of_cell? _ _ l3)).trans l3
      subst hA5
      have hop : rd_L5 (thr T t) (z : Int) = opsAt T t z := rfl
      rw [hop] at l3 hl4 hC4
      have d1 := decide_eq_false (show ¬ (t : Int) < 0 by omega)
      have d2 := decide_eq_false (show ¬ (t : Int) ≥ (T.length : Int) by omega)
      have d3 := eq_true (show (0 : Int) ≤ (t : Int) by omega)
      have d4 := eq_true (show (t : Int) < (T.length : Int) by omega)
      have d5 := decide_eq_false (show ¬ (z : Int) ≥ ((thr T t).length : Int) by omega)
      have d6 := eq_true (show (0 : Int) ≤ (z : Int) by omega)
      have d7 := eq_true (show (z : Int) < ((thr T t).length : Int) by omega)
      have C4 := Lib.hid hC4
      have hmem := OK.out.ops t (opsAt T t z) (by unfold opsAt; rw [List.getD_eq_getElem?_getD, List.getElem?_eq_getElem hnx]; exact List.getElem_mem _)
      have HMEM := Lib.hid hmem
      clear hz htk hrd l1 hC5 hC5' hC4 hop p0 p1 hmem hall
      obtain ⟨m, hm⟩ : ∃ m, (opsAt T t z).length = m := ⟨_, rfl⟩
      have HM := Lib.hid hm
      rw [hm] at l3 hl4 C4
      have hm8 : m ≤ 8 := by rw [← hm]; exact HMEM.out.1
      clear hm
      go_wp2_with fail
      go_quiet (fail)
      go_wp2_with fail
      refine name_w fun Wf hWf => ?_
      have hBf : Below wr.heap.size wr Wf := by rw [hWf]; exact pw_below_drewN (Below.refl _ _) _
      clear hWf
      replace n7 := (hBf.cell (World.block_lt_of_cell? _ _ n7)).trans n7
      replace p2 := (hBf.cell (World.block_lt_of_cell? _ _ p2)).trans p2
      replace l2 := (hBf.cell (World.block_lt_of_cell? _ _ l2)).trans l2
      replace l3 := (hBf.cell (World.block_lt_of_cell? _ _ l3)).trans l3
      go_quiet (fail)
      obtain ⟨C0, hC0⟩ : ∃ C0, (Cn k).cells = C0 := ⟨_, rfl⟩
      have HC0 := Lib.hid hC0
      rw [hC0] at N6
      have Q6 := Lib.hid (N6.out.below hBf); have Q7 := Lib.hid (N7.out.below hBf); have QZ := Lib.hid (Z6.out.move (hBf.block b6 N6.out.lt)); have QB := Lib.hid (below_step B.out hBf)
      have hsT : ∀ j, j < m → sapL C0 ((opsAt T t z).take (j + 1)) = sap (sapL C0 ((opsAt T t z).take j)) ((opsAt T t z).getD j z63) := fun j hj => by
        have hj' : j < (opsAt T t z).length := by rw [HM.out]; exact hj
        rw [List.take_add_one, List.getElem?_eq_getElem hj', List.getD_eq_getElem?_getD, List.getElem?_eq_getElem hj']
        exact sapL_snoc _ _ _
      have HST := Lib.hid hsT
      clear n7 p2 l2 l3 hcell hBf N6 N7 Z6 B hsT hC0 d1 d2 d5 d6 d7 hxn
      go_wp2_with fail
      go_loopw [66] (fun iv wr => ∃ j : Nat, j ≤ m ∧ iv = .int .i64 (j : Int) ∧ Fn wr b6 3 C.length (fun c => .int .i64 (sapL C0 ((opsAt T t z).take j) c)) ∧ Fn wr b7 3 T.length (fun t => .int .i64 (((Cn k).nx t : Nat) : Int)) ∧ Sz wr b6 3 c6 ∧ Below Wb.heap.size Wb wr) (fun iv _ => m - (intOf iv).toNat)
      case atStart => exact ⟨0, Nat.zero_le _, rfl, Q6.out.below (pw_below_drewN (Below.refl _ _) _), Q7.out.below (pw_below_drewN (Below.refl _ _) _), QZ.out.move rfl, pw_below_drewN QB.out _⟩
      case round =>
        clear Q6 Q7 QZ QB
        obtain ⟨j, hj, rfl, h6, h7, hz, hB⟩ := hrel
        have N6 := Lib.hid h6; have N7 := Lib.hid h7; have Z6 := Lib.hid hz; have B := Lib.hid hB
        have hb6l := h6.lt; have hb7l := h7.lt
        clear h6 h7 hz
        by_cases hlt2 : j < m
        · have q1 := decide_eq_true (show (j : Int) < (m : Int) by omega)
          have hxn := eq_true (show (j : Int) < (m : Int) by omega)
          have pj : IntKind.wrap .i64 ((j : Int) + 1) = ((j + 1 : Nat) : Int) := by rw [i64_w]; unfold wrap64; omega
          obtain ⟨ad6, hA6, o0, o1, o2⟩ := at_T63 (Kd.C_below C4.out hB) (j : Int) (by omega) (by omega)
          rw [Int.toNat_natCast] at o0 o1 o2
          have hrx : rd_T63 (opsAt T t z) (j : Int) = (opsAt T t z).getD j z63 := rfl
          obtain ⟨x, hx⟩ : ∃ x, (opsAt T t z).getD j z63 = x := ⟨_, rfl⟩
          have hxm := HMEM.out.2 x (by rw [← hx]; exact getD_mem _ _ _ (by rw [HM.out]; exact hlt2))
          have hstp := HST.out j hlt2
          rw [hrx, hx] at o0 o1 o2
          rw [hx] at hstp
          obtain ⟨c, hcx⟩ : ∃ c : Nat, x.f1 = (c : Int) := ⟨x.f1.toNat, by have := hxm.2.1; omega⟩
          have hcl : c < C.length := by have := hxm.2.2.1; omega
          have HX := Lib.hid hxm; have HSTP := Lib.hid hstp; have HCX := Lib.hid hcx
          rw [hcx] at o1
          subst hA6
          have hd1 := eq_true (show (0 : Int) ≤ (c : Int) by omega)
          have hd2 := eq_true (show (c : Int) < (C.length : Int) by omega)
          obtain ⟨We, hWe⟩ : ∃ We, wr.alloc (.cells #[.int .i64 x.f0, .int .i64 (c : Int), .int .i64 x.f2] 63) = We := ⟨_, rfl⟩
          have hBe : Below wr.heap.size wr We := by rw [← hWe]; exact below_alloc (Below.refl _ _) _
          have BE := Lib.hid (show We.heap[wr.heap.size]? = some (.cells #[.int .i64 x.f0, .int .i64 (c : Int), .int .i64 x.f2] 63 (0, 0)) by rw [← hWe]; exact heap_alloc_new _ _)
          have e0 := blk_cell BE.out 0; have e1 := blk_cell BE.out 1; have e2 := blk_cell BE.out 2
          simp only [List.getElem?_toArray, List.getElem?_cons_succ, List.getElem?_cons_zero] at e0 e1 e2
          have M6 := Lib.hid (N6.out.below hBe); have M7 := Lib.hid (N7.out.below hBe); have MZ := Lib.hid (Z6.out.move (hBe.block b6 hb6l)); have MB := Lib.hid (below_step hB hBe)
          have n6 := M6.out.cell c hcl
          have f6 := M6.out.thaw c
          have hb6e : b6 < We.heap.size := M6.out.lt
          rw [← hWe] at e0 e1 e2 n6 f6
          have HWE := Lib.hid hWe
          have hbase : Wb.heap.size ≤ b6 := hge6
          have hne67 : b7 ≠ b6 := by omega
          clear hrx hx hxm hstp hcx hB hBe hWe
          rcases HX.out.1 with hf | hf | hf
          · have y2 : (x.f0 == 2) = false := by rw [beq_eq_false_iff_ne]; omega
            have y3 : (x.f0 == 3) = false := by rw [beq_eq_false_iff_ne]; omega
            have hs0 : sapL C0 ((opsAt T t z).take (j + 1)) = sapL C0 ((opsAt T t z).take j) := by
              rw [HSTP.out]; unfold sap; rw [if_neg (by omega), if_neg (by omega)]
            have HF := Lib.hid hf
            clear hf
            go_wp2_with fail
            rw [HWE.out]
            go_roundw
            case measure => simp [intOf]; omega
            case rel => exact ⟨j + 1, hlt2, rfl, by rw [hs0]; exact M6.out, M7.out, MZ.out, MB.out⟩
          · have y2 : (x.f0 == 2) = true := by rw [beq_iff_eq]; exact hf
            have hs0 : sapL C0 ((opsAt T t z).take (j + 1)) = up (sapL C0 ((opsAt T t z).take j)) c x.f2 := by
              rw [HSTP.out]; unfold sap; rw [if_pos hf, HCX.out, Int.toNat_natCast]
            have HF := Lib.hid hf; have HS0 := Lib.hid hs0
            clear hf hs0
            go_wp2_with fail
            go_roundw
            case measure => simp [intOf]; omega
            case rel =>
              have hba := below_alloc (Below.refl (wr.setCell ⟨b6, c, none⟩ (.int .i64 x.f2)).heap.size (wr.setCell ⟨b6, c, none⟩ (.int .i64 x.f2))) (.cells #[.int .i64 x.f0, .int .i64 (c : Int), .int .i64 x.f2] 63)
              have q6 := N6.out.set c hcl (.int .i64 x.f2) (g := fun c => .int .i64 (sapL C0 ((opsAt T t z).take (j + 1)) c)) (by simp only [HS0.out, up_self]) (fun m hm hne => by simp only [HS0.out, up_ne _ _ _ _ hne])
              exact ⟨j + 1, hlt2, rfl, q6.below hba, (N7.out.far (p := ⟨b6, c, none⟩) hne67 _).below hba, (Z6.out.set c _).move (hba.block b6 q6.lt), below_alloc (B.out.setCell (p := ⟨b6, c, none⟩) hbase _) _⟩
          · have y2 : (x.f0 == 2) = false := by rw [beq_eq_false_iff_ne]; omega
            have y3 : (x.f0 == 3) = true := by rw [beq_iff_eq]; exact hf
            have hs0 : sapL C0 ((opsAt T t z).take (j + 1)) = up (sapL C0 ((opsAt T t z).take j)) c (wrap64 (sapL C0 ((opsAt T t z).take j) c + x.f2)) := by
              rw [HSTP.out]; unfold sap; rw [if_neg (by omega), if_pos hf, HCX.out, Int.toNat_natCast]
            have HF := Lib.hid hf; have HS0 := Lib.hid hs0
            clear hf hs0
            go_wp2_with fail
            rw [HWE.out] at e0 e1 e2 n6 f6 ⊢
            have u0 : We.drew.cell? ⟨wr.heap.size, 1, none⟩ = some (.int .i64 (c : Int)) := e1
            have u1 : We.drew.cell? ⟨wr.heap.size, 2, none⟩ = some (.int .i64 x.f2) := e2
            obtain ⟨a, ha⟩ : ∃ a, sapL C0 ((opsAt T t z).take j) c = a := ⟨_, rfl⟩
            have HA := Lib.hid ha
            rw [ha] at n6
            have u2 : We.drew.cell? ⟨b6, c, none⟩ = some (.int .i64 a) := n6
            have f6d : We.drew.frozen? ⟨b6, c, none⟩ = false := f6
            clear ha
            refine start_ (n := 10) (S := fun w' => w'.cell? ⟨wr.heap.size, 1, none⟩ = some (.int .i64 (c : Int)) ∧ w'.cell? ⟨wr.heap.size, 2, none⟩ = some (.int .i64 x.f2) ∧ w'.cell? ⟨b6, c, none⟩ = some (.int .i64 a)) (ds := [9]) #[false, false, false, false, false, false, false, false, false, false] (by kernel_rfl) rfl rfl ⟨u0, u1, u2⟩ (fun hHeld => ?_)
            refine pure_ (i := 0) (N := some 82) (v := ?_) (a' := ?_) #[true, false, false, false, false, false, false, false, false, false] rfl rfl (by kernel_rfl) (fun _ _ _ h => h) (Or.inl ⟨by rfl, ?_⟩) ?_ ?_
            rotate_left
            · intro w'
              go_simp
              with_reducible rfl
            rotate_left
            · simp only [Act.put, List.setIfInBounds_toArray, List.set_cons_zero, List.set_cons_succ, i64_w, i32_w]
              rfl
            refine pure_ (i := 1) (N := some 83) (v := ?_) (a' := ?_) #[true, true, false, false, false, false, false, false, false, false] rfl rfl (by kernel_rfl) (fun _ _ _ h => h) (Or.inl ⟨by rfl, ?_⟩) ?_ ?_
            rotate_left
            · intro w'
              go_simp
              with_reducible rfl
            rotate_left
            · simp only [Act.put, List.setIfInBounds_toArray, List.set_cons_zero, List.set_cons_succ, i64_w, i32_w]
              rfl
            refine pure_ (i := 5) (N := some 87) (v := ?_) (a' := ?_) #[true, true, false, false, false, true, false, false, false, false] rfl rfl (by kernel_rfl) (fun _ _ _ h => h) (Or.inl ⟨by rfl, ?_⟩) ?_ ?_
            rotate_left
            · intro w'
              go_simp
              with_reducible rfl
            rotate_left
            · simp only [Act.put, List.setIfInBounds_toArray, List.set_cons_zero, List.set_cons_succ, i64_w, i32_w]
              rfl
            refine take_ (i := 2) (N := some 84) (v := ?_) (a' := ?_) #[true, true, true, false, false, true, false, false, false, false] rfl rfl (by kernel_rfl) (fun _ _ _ h => h) (Or.inl ⟨by rfl, ?_⟩) hHeld ?_ ?_
            rotate_left
            · rintro w' ⟨s0, s1, s2⟩
              go_simp
              with_reducible rfl
            rotate_left
            · simp only [Act.put, List.setIfInBounds_toArray, List.set_cons_zero, List.set_cons_succ, i64_w, i32_w]
              rfl
            refine pure_ (i := 3) (N := some 85) (v := ?_) (a' := ?_) #[true, true, true, true, false, true, false, false, false, false] rfl rfl (by kernel_rfl) (fun _ _ _ h => h) (Or.inl ⟨by rfl, ?_⟩) ?_ ?_
            rotate_left
            · intro w'
              go_simp
              with_reducible rfl
            rotate_left
            · simp only [Act.put, List.setIfInBounds_toArray, List.set_cons_zero, List.set_cons_succ, i64_w, i32_w]
              rfl
            refine take_ (i := 4) (N := some 86) (v := ?_) (a' := ?_) #[true, true, true, true, true, true, false, false, false, false] rfl rfl (by kernel_rfl) (fun _ _ _ h => h) (Or.inl ⟨by rfl, ?_⟩) hHeld ?_ ?_
            rotate_left
            · rintro w' ⟨s0, s1, s2⟩
              go_simp
              with_reducible rfl
            rotate_left
            · simp only [Act.put, List.setIfInBounds_toArray, List.set_cons_zero, List.set_cons_succ, i64_w, i32_w]
              rfl
            refine take_ (i := 6) (N := some 88) (v := ?_) (a' := ?_) #[true, true, true, true, true, true, true, false, false, false] rfl rfl (by kernel_rfl) (fun _ _ _ h => h) (Or.inl ⟨by rfl, ?_⟩) hHeld ?_ ?_
            rotate_left
            · rintro w' ⟨s0, s1, s2⟩
              go_simp
              with_reducible rfl
            rotate_left
            · simp only [Act.put, List.setIfInBounds_toArray, List.set_cons_zero, List.set_cons_succ, i64_w, i32_w]
              rfl
            refine pure_ (i := 7) (N := some 89) (v := ?_) (a' := ?_) #[true, true, true, true, true, true, true, true, false, false] rfl rfl (by kernel_rfl) (fun _ _ _ h => h) (Or.inl ⟨by rfl, ?_⟩) ?_ ?_
            rotate_left
            · intro w'
              go_simp
              with_reducible rfl
            rotate_left
            · simp only [Act.put, List.setIfInBounds_toArray, List.set_cons_zero, List.set_cons_succ, i64_w, i32_w]
              rfl
            refine pure_ (i := 8) (N := some 90) (v := ?_) (a' := ?_) #[true, true, true, true, true, true, true, true, true, false] rfl rfl (by kernel_rfl) (fun _ _ _ h => h) (Or.inl ⟨by rfl, ?_⟩) ?_ ?_
            rotate_left
            · intro w'
              go_simp
              with_reducible rfl
            rotate_left
            · simp only [Act.put, List.setIfInBounds_toArray, List.set_cons_zero, List.set_cons_succ, i64_w, i32_w]
              rfl
            refine last_ (i := 9) (N := none) #[true, true, true, true, true, true, true, true, true, true] rfl rfl (by kernel_rfl) (by decide) (fun K hK => ?_)
            refine skip_ (w1 := ?_) (by rfl) rfl ?_ ?_
            rotate_left
            · go_simp
              rfl
            refine hK.out _ _ ?_
            clear hK K
            refine done_ (by kernel_rfl) ?_
            clear u0 u1 u2 f6d e0 e1 e2 n6 f6 hHeld
            go_wp2_with fail
            go_roundw
            case measure => simp [intOf]; omega
            case rel =>
              refine ⟨j + 1, hlt2, rfl, ?_, (M7.out.below (pw_below_drewN (Below.refl _ _) 1)).far (p := ⟨b6, c, none⟩) hne67 _, (MZ.out.move rfl).set c _, (below_drew1 MB.out).setCell (p := ⟨b6, c, none⟩) hbase _⟩
              refine Fn.set (show Fn We.drew b6 3 C.length _ from M6.out) c hcl _ ?_ (fun m hm hne => ?_)
              · simp only [HS0.out, up_self, HA.out]
              · simp only [HS0.out, up_ne _ _ _ _ hne]
        · have q1 := decide_eq_false (show ¬ (j : Int) < (m : Int) by omega)
          obtain rfl : m = j := by omega
          have hck : Cn (k + 1) = ⟨sapL C0 (opsAt T t z), up (Cn k).nx t (z + 1)⟩ := by
            rw [← CN.out (k + 1), List.take_add_one, List.getElem?_eq_getElem hlt]
            show serL T (fun k => C.getD k 0) (ord.take k ++ [ord[k]]) = _
            rw [HTK.out, serL_snoc, CN.out k]
            unfold serO
            rw [HZ.out, HC0.out]
          have hsx : sapL C0 ((opsAt T t z).take m) = sapL C0 (opsAt T t z) := by rw [List.take_of_length_le (by rw [HM.out]; exact Nat.le_refl _)]
          have HCK := Lib.hid hck; have HSX' := Lib.hid hsx
          have n7 := N7.out.cell t ht
          simp only [HZ.out] at n7
          have f7 := N7.out.thaw t
          have pz : IntKind.wrap .i64 ((z : Int) + 1) = ((z + 1 : Nat) : Int) := by rw [i64_w]; unfold wrap64; have := OK.out.th t; omega
          have hbase : Wb.heap.size ≤ b7 := by omega
          have hne67 : b6 ≠ b7 := by omega
          have BQ := Lib.hid hB
          clear hck hsx hB
          go_wp2_with fail
          go_roundw
          case measure => simp [intOf]; omega
          case rel =>
            refine ⟨k + 1, hlt, rfl, ?_, ?_, Z6.out.far (p := ⟨b7, t, none⟩) hne67 _, BQ.out.setCell (p := ⟨b7, t, none⟩) hbase _⟩
            · refine (N6.out.far (p := ⟨b7, t, none⟩) hne67 _).ext (fun c hc => ?_)
              rw [HCK.out, HSX'.out]
            · refine N7.out.set t ht _ ?_ (fun i hi hne => ?_)
              · simp only [HCK.out, up_self]; rfl
              · simp only [HCK.out, up_ne _ _ _ _ hne]
    · have q0 := decide_eq_false (show ¬ (k : Int) < (ord.length : Int) by omega)
      obtain rfl : k = ord.length := by omega
      have hcn : Cn ord.length = Sx := by rw [← CN.out, List.take_length, HSX.out]
      rw [hcn] at N6 N7
      go_wp2_with fail
      refine bodyPost_ret (ret15 rfl _ _ _ _ rfl rfl) rfl ?_
      exact ⟨_, rfl, r_fn N6.out Z6.out hc6 hm6 (by omega) trivial, below_step (below_step BA.out BB.out) B.out⟩
end Go.Proofs.Ytonhmkllfbagmaa.Tx
