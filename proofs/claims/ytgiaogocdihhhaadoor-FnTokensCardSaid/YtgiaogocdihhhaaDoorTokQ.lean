/- Tokens: what the specification's scanner takes. -/
import Derived.Test.YtgiaogocdihhhaaDoorTokM
import Derived.Test.YtgiaogocdihhhaaDoorTokP
namespace Go.Proofs.YtgiaogocdihhhaaDoor.Tex
open Go.RowKit Go.Proofs.YtgiaogocdihhhaaDoorW.PrintWords Go.Proofs.YtgiaogocdihhhaaDoorW.PrintLast Go.Proofs.YtgiaogocdihhhaaDoorW.PrintMore Go.Proofs.YtgiaogocdihhhaaDoor.PFnExactTokens
set_option linter.unusedVariables false
set_option linter.unusedSimpArgs false
theorem nm_l {P : Program} {ops : Array Oper} {l : List Oper} {Q : Exit → Act → World → Prop} {a : Act} {w : World} (h : ∀ E, E = w → wpList P ops Q l a E) : wpList P ops Q l a w := h w rfl
set_option maxHeartbeats 8000000 in
set_option maxRecDepth 100000 in
theorem takeC (b : Nat) (s : ByteArray) (a l c m : Int) (V : Value) (cd bd kd e nu : Int) (T : ByteArray) (out : List S35) (w w0 : World) (hB : Ls w b s a l c V cd bd) (hP : Pos s m a l c) (hO : k35.R 35 w w0.heap.size (fun k => k ≠ b) V out) (hL : Below w0.heap.size w0 w) (hbb : w0.heap.size ≤ b) (hs : s.size ≤ 1048576) (hm : 1 ≤ m ∧ m ≤ 1073741824) (hlen : out.length ≤ 20000) (he : e ≤ (s.size : Int)) (n : Nat) (hn : s.size < n + a.toNat) (R : Int × Int × Int) (hR : upTo s e n a l c = R) :
    Calls Tryd.prog 47 #[.pointer (some ⟨b, 0, none⟩), .int .i64 kd, .int .i64 e, .string T, .int .i64 nu] w fun x w' => x = .returned (.tuple #[]) ∧ ∃ V', Ls w' b s R.1 R.2.1 R.2.2 V' cd bd ∧ k35.R 35 w' w0.heap.size (fun k => k ≠ b) V' (out ++ [⟨kd, T, nu, a, l, c⟩]) ∧ Below w0.heap.size w0 w' := by
  have S := Lib.hid hB; have P := Lib.hid hP; have O := Lib.hid hO; have B := Lib.hid hL; have HR := Lib.hid hR
  clear hB hP hO hL hR
  obtain ⟨Ao, co, eO, hco, hro⟩ := Kd.R_reads O.out
  subst eO
  clear hro
  have hEb : Below w.heap.size w w.drew := below_drew1 (Below.refl _ _)
  have S2 := Lib.hid (S.out.below hEb); have O2 := Lib.hid (Kd.R_below O.out hEb); have B2 := Lib.hid (below_step B.out hEb)
  clear S O B hEb
  have S := S2; have O := O2; have B := B2
  clear S2 O2 B2
  have g1 := S.out.cell 1; have g2 := S.out.cell 2; have g3 := S.out.cell 3; have g4 := S.out.cell 4
  simp only [List.getElem?_toArray, List.getElem?_cons_succ, List.getElem?_cons_zero] at g1 g2 g3 g4
  have hbw := S.out.lt
  have hbz := B.out.size
  have hab := (Below.refl w.drew.heap.size w.drew).alloc (o := .cells #[.int .i64 kd, .string T, .int .i64 nu, .int .i64 a, .int .i64 l, .int .i64 c] 35) (Nat.le_refl _)
  go_enter Tryd.func47, Tryd.ntmps47
  go_wp2_with fail
  refine start_ (n := 26) (S := fun w' => w'.cell? ⟨b, 1, none⟩ = some (.int .i64 a) ∧ w'.cell? ⟨b, 2, none⟩ = some (.int .i64 l) ∧ w'.cell? ⟨b, 3, none⟩ = some (.int .i64 c) ∧ w'.cell? ⟨b, 4, none⟩ = some (.slice Ao out.length co)) (ds := [25]) #[false, false, false, false, false, false, false, false, false, false, false, false, false, false, false, false, false, false, false, false, false, false, false, false, false, false] (by kernel_rfl) rfl rfl ⟨g1, g2, g3, g4⟩ (fun hHeld => ?_)
  refine pure_ (i := 0) (N := some 10) (v := ?_) (a' := ?_) #[true, false, false, false, false, false, false, false, false, false, false, false, false, false, false, false, false, false, false, false, false, false, false, false, false, false] rfl rfl (by kernel_rfl) (fun _ _ _ h => h) (Or.inl ⟨by rfl, ?_⟩) ?_ ?_
  rotate_left
  · intro w'
    go_simp
    with_reducible rfl
  rotate_left
  · simp only [Act.put, List.setIfInBounds_toArray, List.set_cons_zero, List.set_cons_succ, i64_w, i32_w]
    rfl
  refine pure_ (i := 1) (N := some 11) (v := ?_) (a' := ?_) #[true, true, false, false, false, false, false, false, false, false, false, false, false, false, false, false, false, false, false, false, false, false, false, false, false, false] rfl rfl (by kernel_rfl) (fun _ _ _ h => h) (Or.inl ⟨by rfl, ?_⟩) ?_ ?_
  rotate_left
  · intro w'
    go_simp
    with_reducible rfl
  rotate_left
  · simp only [Act.put, List.setIfInBounds_toArray, List.set_cons_zero, List.set_cons_succ, i64_w, i32_w]
    rfl
  refine pure_ (i := 2) (N := some 12) (v := ?_) (a' := ?_) #[true, true, true, false, false, false, false, false, false, false, false, false, false, false, false, false, false, false, false, false, false, false, false, false, false, false] rfl rfl (by kernel_rfl) (fun _ _ _ h => h) (Or.inl ⟨by rfl, ?_⟩) ?_ ?_
  rotate_left
  · intro w'
    go_simp
    with_reducible rfl
  rotate_left
  · simp only [Act.put, List.setIfInBounds_toArray, List.set_cons_zero, List.set_cons_succ, i64_w, i32_w]
    rfl
  refine pure_ (i := 3) (N := some 13) (v := ?_) (a' := ?_) #[true, true, true, true, false, false, false, false, false, false, false, false, false, false, false, false, false, false, false, false, false, false, false, false, false, false] rfl rfl (by kernel_rfl) (fun _ _ _ h => h) (Or.inl ⟨by rfl, ?_⟩) ?_ ?_
  rotate_left
  · intro w'
    go_simp
    with_reducible rfl
  rotate_left
  · simp only [Act.put, List.setIfInBounds_toArray, List.set_cons_zero, List.set_cons_succ, i64_w, i32_w]
    rfl
  refine pure_ (i := 5) (N := some 15) (v := ?_) (a' := ?_) #[true, true, true, true, false, true, false, false, false, false, false, false, false, false, false, false, false, false, false, false, false, false, false, false, false, false] rfl rfl (by kernel_rfl) (fun _ _ _ h => h) (Or.inl ⟨by rfl, ?_⟩) ?_ ?_
  rotate_left
  · intro w'
    go_simp
    with_reducible rfl
  rotate_left
  · simp only [Act.put, List.setIfInBounds_toArray, List.set_cons_zero, List.set_cons_succ, i64_w, i32_w]
    rfl
  refine pure_ (i := 6) (N := some 16) (v := ?_) (a' := ?_) #[true, true, true, true, false, true, true, false, false, false, false, false, false, false, false, false, false, false, false, false, false, false, false, false, false, false] rfl rfl (by kernel_rfl) (fun _ _ _ h => h) (Or.inl ⟨by rfl, ?_⟩) ?_ ?_
  rotate_left
  · intro w'
    go_simp
    with_reducible rfl
  rotate_left
  · simp only [Act.put, List.setIfInBounds_toArray, List.set_cons_zero, List.set_cons_succ, i64_w, i32_w]
    rfl
  refine pure_ (i := 7) (N := some 17) (v := ?_) (a' := ?_) #[true, true, true, true, false, true, true, true, false, false, false, false, false, false, false, false, false, false, false, false, false, false, false, false, false, false] rfl rfl (by kernel_rfl) (fun _ _ _ h => h) (Or.inl ⟨by rfl, ?_⟩) ?_ ?_
  rotate_left
  · intro w'
    go_simp
    with_reducible rfl
  rotate_left
  · simp only [Act.put, List.setIfInBounds_toArray, List.set_cons_zero, List.set_cons_succ, i64_w, i32_w]
    rfl
  refine pure_ (i := 8) (N := some 18) (v := ?_) (a' := ?_) #[true, true, true, true, false, true, true, true, true, false, false, false, false, false, false, false, false, false, false, false, false, false, false, false, false, false] rfl rfl (by kernel_rfl) (fun _ _ _ h => h) (Or.inl ⟨by rfl, ?_⟩) ?_ ?_
  rotate_left
  · intro w'
    go_simp
    with_reducible rfl
  rotate_left
  · simp only [Act.put, List.setIfInBounds_toArray, List.set_cons_zero, List.set_cons_succ, i64_w, i32_w]
    rfl
  refine pure_ (i := 9) (N := some 19) (v := ?_) (a' := ?_) #[true, true, true, true, false, true, true, true, true, true, false, false, false, false, false, false, false, false, false, false, false, false, false, false, false, false] rfl rfl (by kernel_rfl) (fun _ _ _ h => h) (Or.inl ⟨by rfl, ?_⟩) ?_ ?_
  rotate_left
  · intro w'
    go_simp
    with_reducible rfl
  rotate_left
  · simp only [Act.put, List.setIfInBounds_toArray, List.set_cons_zero, List.set_cons_succ, i64_w, i32_w]
    rfl
  refine pure_ (i := 10) (N := some 20) (v := ?_) (a' := ?_) #[true, true, true, true, false, true, true, true, true, true, true, false, false, false, false, false, false, false, false, false, false, false, false, false, false, false] rfl rfl (by kernel_rfl) (fun _ _ _ h => h) (Or.inl ⟨by rfl, ?_⟩) ?_ ?_
  rotate_left
  · intro w'
    go_simp
    with_reducible rfl
  rotate_left
  · simp only [Act.put, List.setIfInBounds_toArray, List.set_cons_zero, List.set_cons_succ, i64_w, i32_w]
    rfl
  refine pure_ (i := 12) (N := some 22) (v := ?_) (a' := ?_) #[true, true, true, true, false, true, true, true, true, true, true, false, true, false, false, false, false, false, false, false, false, false, false, false, false, false] rfl rfl (by kernel_rfl) (fun _ _ _ h => h) (Or.inl ⟨by rfl, ?_⟩) ?_ ?_
  rotate_left
  · intro w'
    go_simp
    with_reducible rfl
  rotate_left
  · simp only [Act.put, List.setIfInBounds_toArray, List.set_cons_zero, List.set_cons_succ, i64_w, i32_w]
    rfl
  refine pure_ (i := 13) (N := some 23) (v := ?_) (a' := ?_) #[true, true, true, true, false, true, true, true, true, true, true, false, true, true, false, false, false, false, false, false, false, false, false, false, false, false] rfl rfl (by kernel_rfl) (fun _ _ _ h => h) (Or.inl ⟨by rfl, ?_⟩) ?_ ?_
  rotate_left
  · intro w'
    go_simp
    with_reducible rfl
  rotate_left
  · simp only [Act.put, List.setIfInBounds_toArray, List.set_cons_zero, List.set_cons_succ, i64_w, i32_w]
    rfl
  refine pure_ (i := 14) (N := some 24) (v := ?_) (a' := ?_) #[true, true, true, true, false, true, true, true, true, true, true, false, true, true, true, false, false, false, false, false, false, false, false, false, false, false] rfl rfl (by kernel_rfl) (fun _ _ _ h => h) (Or.inl ⟨by rfl, ?_⟩) ?_ ?_
  rotate_left
  · intro w'
    go_simp
    with_reducible rfl
  rotate_left
  · simp only [Act.put, List.setIfInBounds_toArray, List.set_cons_zero, List.set_cons_succ, i64_w, i32_w]
    rfl
  refine pure_ (i := 16) (N := some 26) (v := ?_) (a' := ?_) #[true, true, true, true, false, true, true, true, true, true, true, false, true, true, true, false, true, false, false, false, false, false, false, false, false, false] rfl rfl (by kernel_rfl) (fun _ _ _ h => h) (Or.inl ⟨by rfl, ?_⟩) ?_ ?_
  rotate_left
  · intro w'
    go_simp
    with_reducible rfl
  rotate_left
  · simp only [Act.put, List.setIfInBounds_toArray, List.set_cons_zero, List.set_cons_succ, i64_w, i32_w]
    rfl
  refine pure_ (i := 17) (N := some 27) (v := ?_) (a' := ?_) #[true, true, true, true, false, true, true, true, true, true, true, false, true, true, true, false, true, true, false, false, false, false, false, false, false, false] rfl rfl (by kernel_rfl) (fun _ _ _ h => h) (Or.inl ⟨by rfl, ?_⟩) ?_ ?_
  rotate_left
  · intro w'
    go_simp
    with_reducible rfl
  rotate_left
  · simp only [Act.put, List.setIfInBounds_toArray, List.set_cons_zero, List.set_cons_succ, i64_w, i32_w]
    rfl
  refine pure_ (i := 18) (N := some 28) (v := ?_) (a' := ?_) #[true, true, true, true, false, true, true, true, true, true, true, false, true, true, true, false, true, true, true, false, false, false, false, false, false, false] rfl rfl (by kernel_rfl) (fun _ _ _ h => h) (Or.inl ⟨by rfl, ?_⟩) ?_ ?_
  rotate_left
  · intro w'
    go_simp
    with_reducible rfl
  rotate_left
  · simp only [Act.put, List.setIfInBounds_toArray, List.set_cons_zero, List.set_cons_succ, i64_w, i32_w]
    rfl
  refine take_ (i := 4) (N := some 14) (v := ?_) (a' := ?_) #[true, true, true, true, true, true, true, true, true, true, true, false, true, true, true, false, true, true, true, false, false, false, false, false, false, false] rfl rfl (by kernel_rfl) (fun _ _ _ h => h) (Or.inl ⟨by rfl, ?_⟩) hHeld ?_ ?_
  rotate_left
  · rintro w' ⟨s0, s1, s2, s3⟩
    go_simp
    with_reducible rfl
  rotate_left
  · simp only [Act.put, List.setIfInBounds_toArray, List.set_cons_zero, List.set_cons_succ, i64_w, i32_w]
    rfl
  refine take_ (i := 11) (N := some 21) (v := ?_) (a' := ?_) #[true, true, true, true, true, true, true, true, true, true, true, true, true, true, true, false, true, true, true, false, false, false, false, false, false, false] rfl rfl (by kernel_rfl) (fun _ _ _ h => h) (Or.inl ⟨by rfl, ?_⟩) hHeld ?_ ?_
  rotate_left
  · rintro w' ⟨s0, s1, s2, s3⟩
    go_simp
    with_reducible rfl
  rotate_left
  · simp only [Act.put, List.setIfInBounds_toArray, List.set_cons_zero, List.set_cons_succ, i64_w, i32_w]
    rfl
  refine take_ (i := 15) (N := some 25) (v := ?_) (a' := ?_) #[true, true, true, true, true, true, true, true, true, true, true, true, true, true, true, true, true, true, true, false, false, false, false, false, false, false] rfl rfl (by kernel_rfl) (fun _ _ _ h => h) (Or.inl ⟨by rfl, ?_⟩) hHeld ?_ ?_
  rotate_left
  · rintro w' ⟨s0, s1, s2, s3⟩
    go_simp
    with_reducible rfl
  rotate_left
  · simp only [Act.put, List.setIfInBounds_toArray, List.set_cons_zero, List.set_cons_succ, i64_w, i32_w]
    rfl
  refine take_ (i := 19) (N := some 29) (v := ?_) (a' := ?_) #[true, true, true, true, true, true, true, true, true, true, true, true, true, true, true, true, true, true, true, true, false, false, false, false, false, false] rfl rfl (by kernel_rfl) (fun _ _ _ h => h) (Or.inl ⟨by rfl, ?_⟩) hHeld ?_ ?_
  rotate_left
  · rintro w' ⟨s0, s1, s2, s3⟩
    go_simp
    with_reducible rfl
  rotate_left
  · simp only [Act.put, List.setIfInBounds_toArray, List.set_cons_zero, List.set_cons_succ, i64_w, i32_w]
    rfl
  refine pure_ (i := 20) (N := some 30) (v := ?_) (a' := ?_) #[true, true, true, true, true, true, true, true, true, true, true, true, true, true, true, true, true, true, true, true, true, false, false, false, false, false] rfl rfl (by kernel_rfl) (fun _ _ _ h => h) (Or.inl ⟨by rfl, ?_⟩) ?_ ?_
  rotate_left
  · intro w'
    go_simp
    with_reducible rfl
  rotate_left
  · simp only [Act.put, List.setIfInBounds_toArray, List.set_cons_zero, List.set_cons_succ, i64_w, i32_w]
    rfl
  refine one_ (i := 21) (N := some 31) #[true, true, true, true, true, true, true, true, true, true, true, true, true, true, true, true, true, true, true, true, true, true, false, false, false, false] rfl rfl (by kernel_rfl) (by decide) (fun K hK => ?_)
  refine value_ (w1 := ?_) (v := ?_) (by rfl) rfl ?_ ?_
  rotate_left 2
  · go_simp
    constructor
    · rfl
    · rfl
  refine hK.out _ _ ⟨(hab.cell (p := ⟨b, 1, none⟩) hbw).trans g1, (hab.cell (p := ⟨b, 2, none⟩) hbw).trans g2, (hab.cell (p := ⟨b, 3, none⟩) hbw).trans g3, (hab.cell (p := ⟨b, 4, none⟩) hbw).trans g4⟩ (fun hHeld => ?_)
  clear hK K
  refine norm_ (a' := ?_) ?_ ?_
  rotate_left
  · show Act.put _ (some 31) _ = _
    simp only [Act.put, List.setIfInBounds_toArray, List.set_cons_zero, List.set_cons_succ, i64_w, i32_w]
    rfl
  refine one_ (i := 22) (N := some 32) #[true, true, true, true, true, true, true, true, true, true, true, true, true, true, true, true, true, true, true, true, true, true, true, false, false, false] rfl rfl (by kernel_rfl) (by decide) (fun K hK => ?_)
  refine Kd.R_append_step k35 (w0 := w0) w0.heap.size (by rfl) (.tmp 14) (.tmp 31) 27 35 tok0 56 rfl Tryd.underlying27 info35 rfl (by decide) (by decide) (.slice Ao out.length co) out ⟨kd, T, nu, a, l, c⟩ _ (fun k => k ≠ b) (fun _ => False) rfl rfl (k35_mkM w.drew w0.heap.size (fun _ => False) ⟨kd, T, nu, a, l, c⟩) (fun _ h => h.elim) (fun k hk => by omega) O.out B.out hbz (by omega) ?_
  intro x1 wA hR6 hB6 hg6 hat6
  obtain ⟨A1, co1, eX, hco1, hro1⟩ := Kd.R_reads hR6
  rw [show (out ++ [S35.mk kd T nu a l c]).length = out.length + 1 by simp] at eX
  subst eX
  clear hro1 hco1
  have S6 := Lib.hid (S.out.grown hg6 (fun e => O.out.1 b e.symm rfl)); have q1 := S6.out.cell 1; have q2 := S6.out.cell 2; have q3 := S6.out.cell 3; have q4 := S6.out.cell 4; have f4 := S6.out.thaw 4
  simp only [List.getElem?_toArray, List.getElem?_cons_succ, List.getElem?_cons_zero] at q1 q2 q3 q4
  refine hK.out _ _ ⟨q1, q2, q3, q4⟩ (fun hHeld => ?_)
  clear hK K
  refine norm_ (a' := ?_) ?_ ?_
  rotate_left
  · show Act.put _ (some 32) _ = _
    simp only [Act.put, List.setIfInBounds_toArray, List.set_cons_zero, List.set_cons_succ, i64_w, i32_w]
    rfl
  refine pure_ (i := 23) (N := some 33) (v := ?_) (a' := ?_) #[true, true, true, true, true, true, true, true, true, true, true, true, true, true, true, true, true, true, true, true, true, true, true, true, false, false] rfl rfl (by kernel_rfl) (fun _ _ _ h => h) (Or.inl ⟨by rfl, ?_⟩) ?_ ?_
  rotate_left
  · intro w'
    go_simp
    with_reducible rfl
  rotate_left
  · simp only [Act.put, List.setIfInBounds_toArray, List.set_cons_zero, List.set_cons_succ, i64_w, i32_w]
    rfl
  refine pure_ (i := 24) (N := some 34) (v := ?_) (a' := ?_) #[true, true, true, true, true, true, true, true, true, true, true, true, true, true, true, true, true, true, true, true, true, true, true, true, true, false] rfl rfl (by kernel_rfl) (fun _ _ _ h => h) (Or.inl ⟨by rfl, ?_⟩) ?_ ?_
  rotate_left
  · intro w'
    go_simp
    with_reducible rfl
  rotate_left
  · simp only [Act.put, List.setIfInBounds_toArray, List.set_cons_zero, List.set_cons_succ, i64_w, i32_w]
    rfl
  refine last_ (i := 25) (N := none) #[true, true, true, true, true, true, true, true, true, true, true, true, true, true, true, true, true, true, true, true, true, true, true, true, true, true] rfl rfl (by kernel_rfl) (by decide) (fun K hK => ?_)
  refine skip_ (w1 := ?_) (by rfl) rfl ?_ ?_
  rotate_left
  · go_simp
    rfl
  refine hK.out _ _ ?_
  clear hK K
  refine done_ (by kernel_rfl) ?_
  go_wp2_with fail
  refine nm_w fun E hE => ?_
  have hU : Upd b wA E := by rw [hE]; exact (Upd.of_below (Below.refl _ wA) (Nat.le_of_lt S6.out.lt)).set 4 _
  have S7 := Lib.hid (show Ls E b s a l c (.slice A1 (out.length + 1) co1) cd bd by rw [hE]; exact S6.out.set 4 _)
  have O7 := Lib.hid (Kd.R_step hR6 (fun i ho hlt => hU.2.2 i hlt ho)); have B7 := Lib.hid (hB6.trans (hU.1.mono hbb))
  obtain ⟨V1, hV1⟩ : ∃ V1, (Value.slice A1 (out.length + 1) co1) = V1 := ⟨_, rfl⟩
  rw [hV1] at S7 O7
  have hlo : (out ++ [S35.mk kd T nu a l c]).length = out.length + 1 := by simp
  obtain ⟨out2, ho2⟩ : ∃ out2, out ++ [S35.mk kd T nu a l c] = out2 := ⟨_, rfl⟩
  rw [ho2] at O7
  have HO2 := Lib.hid ho2
  clear S O B hU hE hR6 hB6 hg6 hat6 S6 q1 q2 q3 q4 f4 g1 g2 g3 g4 hbw hbz hab hV1 hlo ho2
  go_loopw [42] (fun _ wr => ∃ (n : Nat) (x y z : Int), Pos s m x y z ∧ s.size < n + x.toNat ∧ Ls wr b s x y z V1 cd bd ∧ k35.R 35 wr w0.heap.size (fun k => k ≠ b) V1 out2 ∧ Below w0.heap.size w0 wr ∧ upTo s e n x y z = R) (fun _ wr => s.size - posOf b wr)
  case atStart => exact ⟨n, a, l, c, P.out, hn, S7.out, O7.out, B7.out, HR.out⟩
  case round =>
    clear S7 O7 B7 HR P hn
    obtain ⟨n, x, y, z, hP, hn, hS, hO, hB, hR⟩ := hrel
    have S := Lib.hid hS; have O := Lib.hid hO; have B := Lib.hid hB; have HR := Lib.hid hR; have pos0 := Lib.hid (posOf_ls hS); have P := Lib.hid hP
    obtain ⟨k, rfl⟩ : ∃ k, n = k + 1 := ⟨n - 1, by have := hP.a1; omega⟩
    clear hS hO hB hR
    have g1 := S.out.cell 1
    simp only [List.getElem?_toArray, List.getElem?_cons_succ, List.getElem?_cons_zero] at g1
    by_cases hlt : x < e
    · have q9 := decide_eq_true hlt
      have hx0 := hP.a0; have hl := hP.l; have hc := hP.c
      have hxs : x < (s.size : Int) := by omega
      have HF := Lib.hid ((show upTo s e (k + 1) x y z = upTo s e k (x + nI s x) (lin s x y) (col s x z) by rw [upTo, if_pos hlt]).symm.trans HR.out)
      have hr := rI_range s x hx0 hxs
      go_wp2_with fail
      refine (overC b s x y z V1 cd bd _ S.out hx0 hxs (by omega) ⟨hl.1, by omega⟩ ⟨hc.1, by omega⟩).mono ?_
      rintro e9 w9 ⟨rfl, hS9, hU9⟩
      have S2 := Lib.hid hS9; have O2 := Lib.hid (Kd.R_step O.out (fun i ho hlt => hU9.2.2 i hlt ho)); have B2 := Lib.hid (B.out.trans (hU9.1.mono hbb))
      clear g1
      go_wp2_with fail
      go_roundw
      case measure => rw [posOf_ls S2.out, pos0.out]; omega
      case rel => exact ⟨k, _, _, _, P.out.step hm.1 hxs, by omega, S2.out, O2.out, B2.out, HF.out⟩
    · have q9 := decide_eq_false hlt
      have HF := Lib.hid ((show upTo s e (k + 1) x y z = (x, y, z) by rw [upTo, if_neg hlt]).symm.trans HR.out)
      go_wp2_with fail
      go_end0
      rw [← HF.out]
      exact ⟨rfl, V1, S.out, by rw [HO2.out]; exact O.out, B.out⟩
end Go.Proofs.YtgiaogocdihhhaaDoor.Tex
