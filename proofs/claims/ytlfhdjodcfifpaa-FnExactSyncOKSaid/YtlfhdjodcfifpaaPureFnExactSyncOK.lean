/- The law FnExactSyncOK answers true of every plan. No condition. -/
import Derived.Test.YtlfhdjodcfifpaaPFnExactSyncOKx4
namespace Go.Proofs.Ytlfhdjodcfifpaa.PureSyncOK
open Go.RowKit Go.Proofs.Ytlfhdjodcfifpaa.PFnExactSyncOK Go.Proofs.YtlfhdjodcfifpaaW.PrintWords

theorem getD_at {α : Type} (l : List α) (n : Nat) (z : α) (h : n < l.length) : l.getD (n : Int).toNat z = l[n] := by
  rw [List.getD_eq_getElem?_getD, Int.toNat_natCast, List.getElem?_eq_getElem h]; rfl
theorem wrap_succ (n : Nat) (h : n ≤ 1048576) : wrap64 ((n : Int) + 1) = ((n + 1 : Nat) : Int) := by unfold wrap64; omega

/-- A loop that fills a made row. -/
theorem fill {α β : Type} (l : List α) (z : β) (cv : α → β) (F : Nat → List β → Int → Option (List β)) (hend : ∀ acc, Ev (fun k => F k acc (l.length : Int)) acc)
    (hstep : ∀ n (h : n < l.length) (acc : List β) r, acc.length = l.length → Ev (fun k => F k (acc.set n (cv l[n])) ((n + 1 : Nat) : Int)) r → Ev (fun k => F k acc (n : Int)) r) :
    Ev (fun k => F k (List.replicate l.length z) 0) (l.map cv) := by
  have key : ∀ d n, n + d = l.length → Ev (fun k => F k ((l.take n).map cv ++ List.replicate d z) (n : Int)) (l.map cv) := by
    intro d
    induction d with
    | zero =>
      intro n hn
      have e : (l.take n).map cv ++ List.replicate 0 z = l.map cv := by simp [List.take_of_length_le (show l.length ≤ n by omega)]
      rw [e, show n = l.length by omega]
      exact hend _
    | succ d ih =>
      intro n hn
      have hlt : n < l.length := by omega
      refine hstep n hlt _ _ (by simp; omega) ?_
      have e : ((l.take n).map cv ++ List.replicate (d + 1) z).set n (cv l[n]) = (l.take (n + 1)).map cv ++ List.replicate d z := by
        rw [List.take_succ_eq_append_getElem hlt]
        apply List.ext_getElem?
        intro i
        simp only [List.replicate_succ, List.map_append, List.map_cons, List.map_nil, List.append_assoc, List.cons_append, List.nil_append]
        rw [List.getElem?_set]
        have hln : ((l.take n).map cv).length = n := by simp; omega
        by_cases hi : n = i
        · subst hi
          rw [if_pos rfl, List.getElem?_append_right (by omega), hln]
          simp
          omega
        · rw [if_neg hi]
          by_cases h2 : i < n
          · rw [List.getElem?_append_left (by omega), List.getElem?_append_left (by omega)]
          · rw [List.getElem?_append_right (by omega), List.getElem?_append_right (by omega), hln]
            obtain ⟨j, hj⟩ : ∃ j, i - n = j + 1 := ⟨i - n - 1, by omega⟩
            rw [hj]; rfl
      rw [e]
      exact ih (n + 1) (by omega)
  have := key l.length 0 (by omega)
  simpa using this

/-- A loop over the places of a row: what it answers from each place on. -/
theorem scan {γ : Type} (len : Nat) (F : Nat → Int → Option γ) (R : Nat → γ) (hend : Ev (fun k => F k (len : Int)) (R len))
    (hstep : ∀ n, n < len → Ev (fun k => F k ((n + 1 : Nat) : Int)) (R (n + 1)) → Ev (fun k => F k (n : Int)) (R n)) : ∀ n, n ≤ len → Ev (fun k => F k (n : Int)) (R n) := by
  have key : ∀ d n, n + d = len → Ev (fun k => F k (n : Int)) (R n) := by
    intro d
    induction d with
    | zero => intro n hn; rw [show n = len by omega]; exact hend
    | succ d ih => intro n hn; exact hstep n (by omega) (ih (n + 1) (by omega))
  intro n hn
  exact key (len - n) n (by omega)

def cv (c : S120) : S56 := ⟨c.f0, c.f1, c.f2⟩

theorem toInts (l : List Int) (hl : l.length ≤ 1048576) : Ev (fun k => laws_toIntS.f k l) l := by
  have h := fill l 0 id (fun k acc n => laws_toIntS.l0 k l acc n)
    (fun acc => Ev.step (f := fun _ => some acc) (fun k => by simp only [laws_toIntS.l0]; rw [if_neg (by omega)]) (Ev.now _))
    (fun n h acc r ha hr => Ev.step (f := fun k => laws_toIntS.l0 k l (acc.set n (id l[n])) ((n + 1 : Nat) : Int)) (fun k => by
      simp only [laws_toIntS.l0]
      rw [if_pos (by omega), if_pos (by omega), if_pos (by omega), wrap_succ n (by omega)]
      rw [show rd l (n : Int) = l[n] from getD_at l n 0 h]; rfl) hr)
  refine Ev.congr (fun k => ?_) (by simpa using h)
  unfold laws_toIntS.f
  rw [if_pos (by omega), if_pos (by omega), Int.toNat_natCast]

theorem toOps (l : List S120) (hl : l.length ≤ 1048576) : Ev (fun k => laws_toSyncS.f k l) (l.map cv) := by
  have h := fill l z56 cv (fun k acc n => laws_toSyncS.l0 k l acc n)
    (fun acc => Ev.step (f := fun _ => some acc) (fun k => by simp only [laws_toSyncS.l0]; rw [if_neg (by omega)]) (Ev.now _))
    (fun n h acc r ha hr => Ev.step (f := fun k => laws_toSyncS.l0 k l (acc.set n (cv l[n])) ((n + 1 : Nat) : Int)) (fun k => by
      simp only [laws_toSyncS.l0]
      rw [if_pos (by omega), if_pos (by omega)]
      simp only [laws_toSync.f, Option.bind_some]
      rw [if_pos (by omega), wrap_succ n (by omega), show rd_T120 l (n : Int) = l[n] from getD_at l n _ h]; rfl) hr)
  refine Ev.congr (fun k => ?_) h
  unfold laws_toSyncS.f
  rw [if_pos (by omega), if_pos (by omega), Int.toNat_natCast]

theorem toTxs (l : List (List S120)) (hl : l.length ≤ 1048576) (hi : ∀ x ∈ l, x.length ≤ 1048576) : Ev (fun k => laws_toSyncSS.f k l) (l.map (·.map cv)) := by
  have h := fill l [] (·.map cv) (fun k acc n => laws_toSyncSS.l0 k l acc n)
    (fun acc => Ev.step (f := fun _ => some acc) (fun k => by simp only [laws_toSyncSS.l0]; rw [if_neg (by omega)]) (Ev.now _))
    (fun n h acc r ha hr => Ev.step (f := fun k => (laws_toSyncS.f k l[n]).bind fun t => laws_toSyncSS.l0 k l (acc.set n t) ((n + 1 : Nat) : Int)) (fun k => by
      simp only [laws_toSyncSS.l0]
      rw [if_pos (by omega), if_pos (by omega), show rd_L2 l (n : Int) = l[n] from getD_at l n _ h, wrap_succ n (by omega)]
      have hb : (n : Int) < (acc.length : Int) := by omega
      simp only [hb, if_true, Int.toNat_natCast]) (Ev.bind (toOps _ (hi _ (List.getElem_mem h))) hr))
  refine Ev.congr (fun k => ?_) h
  unfold laws_toSyncSS.f
  rw [if_pos (by omega), if_pos (by omega), Int.toNat_natCast]

theorem eqInts (l : List Int) (hl : l.length ≤ 1048576) : Ev (fun k => laws_eqIntS.f k l l) true := by
  have h := scan l.length (fun k n => laws_eqIntS.l0 k l l n) (fun _ => true)
    (Ev.step (f := fun _ => some true) (fun k => by simp only [laws_eqIntS.l0]; rw [if_neg (by omega)]) (Ev.now _))
    (fun n h hr => Ev.step (fun k => by simp only [laws_eqIntS.l0]; rw [if_pos (by omega), if_pos (by omega), if_pos (by omega), if_pos trivial, wrap_succ n (by omega)]) hr) 0 (by omega)
  exact Ev.congr (fun k => by unfold laws_eqIntS.f; rw [if_pos rfl]; rfl) h
theorem eqOp (c : S56) : laws_eqSync.f c.f0 c.f1 c.f2 c.f0 c.f1 c.f2 = some true := by unfold laws_eqSync.f; simp
theorem eqOps (l : List S56) (hl : l.length ≤ 1048576) : Ev (fun k => laws_eqSyncS.f k l l) true := by
  have h := scan l.length (fun k n => laws_eqSyncS.l0 k l l n) (fun _ => true)
    (Ev.step (f := fun _ => some true) (fun k => by simp only [laws_eqSyncS.l0]; rw [if_neg (by omega)]) (Ev.now _))
    (fun n h hr => Ev.step (fun k => by simp only [laws_eqSyncS.l0]; rw [if_pos (by omega), if_pos (by omega), if_pos (by omega), eqOp]; simp only [Option.bind_some, if_true]; rw [wrap_succ n (by omega)]) hr) 0 (by omega)
  exact Ev.congr (fun k => by unfold laws_eqSyncS.f; rw [if_pos rfl]; rfl) h
theorem eqTxs (l : List (List S56)) (hl : l.length ≤ 1048576) (hi : ∀ x ∈ l, x.length ≤ 1048576) : Ev (fun k => laws_eqSyncSS.f k l l) true := by
  have h := scan l.length (fun k n => laws_eqSyncSS.l0 k l l n) (fun _ => true)
    (Ev.step (f := fun _ => some true) (fun k => by simp only [laws_eqSyncSS.l0]; rw [if_neg (by omega)]) (Ev.now _))
    (fun n h hr => Ev.step (f := fun k => (laws_eqSyncS.f k l[n] l[n]).bind fun t => if t = true then laws_eqSyncSS.l0 k l l ((n + 1 : Nat) : Int) else some false) (fun k => by
      simp only [laws_eqSyncSS.l0]
      rw [if_pos (by omega), if_pos (by omega), if_pos (by omega), show rd_L4 l (n : Int) = l[n] from getD_at l n _ h, wrap_succ n (by omega)]) (Ev.bind (eqOps _ (hi _ (List.getElem_mem h))) (by simpa using hr))) 0 (by omega)
  exact Ev.congr (fun k => by unfold laws_eqSyncSS.f; rw [if_pos rfl]; rfl) h
/-! the size -/
theorem szOps (l : List S120) (a : Int) (ha : 0 ≤ a) (ha2 : a ≤ 1048576) (hl : l.length ≤ 9223372036854775807) : ∃ r, laws_szSyncS.f l a = some r ∧ r ≤ 1048576 ∧ (0 ≤ r → l.length ≤ 1048576) := by
  unfold laws_szSyncS.f
  have hw : wrap64 (a - (l.length : Int)) = a - (l.length : Int) := by unfold wrap64; omega
  rw [hw]
  by_cases h : a - (l.length : Int) < 0
  · rw [if_pos h]; exact ⟨-1, rfl, by omega, by omega⟩
  · rw [if_neg h]; exact ⟨_, rfl, by omega, by omega⟩
theorem szInts (l : List Int) (a : Int) (ha : 0 ≤ a) (ha2 : a ≤ 1048576) (hl : l.length ≤ 9223372036854775807) : ∃ r, laws_szIntS.f l a = some r ∧ r ≤ 1048576 ∧ (0 ≤ r → l.length ≤ 1048576) := by
  unfold laws_szIntS.f
  have hw : wrap64 (a - (l.length : Int)) = a - (l.length : Int) := by unfold wrap64; omega
  rw [hw]
  by_cases h : a - (l.length : Int) < 0
  · rw [if_pos h]; exact ⟨-1, rfl, by omega, by omega⟩
  · rw [if_neg h]; exact ⟨_, rfl, by omega, by omega⟩

theorem szTxs (l : List (List S120)) (a : Int) (ha : 0 ≤ a) (ha2 : a ≤ 1048576) (hl : l.length ≤ 9223372036854775807) (hi : ∀ x ∈ l, x.length ≤ 9223372036854775807) :
    ∃ r, Ev (fun k => laws_szSyncSS.f k l a) r ∧ r ≤ 1048576 ∧ (0 ≤ r → l.length ≤ 1048576 ∧ ∀ x ∈ l, x.length ≤ 1048576) := by
  have hw : wrap64 (a - (l.length : Int)) = a - (l.length : Int) := by unfold wrap64; omega
  by_cases h : a - (l.length : Int) < 0
  · refine ⟨-1, Ev.congr (fun k => by unfold laws_szSyncSS.f; rw [hw, if_pos h]) (Ev.now _), by omega, by omega⟩
  · have key : ∀ d n (b : Int), n + d = l.length → 0 ≤ b → b ≤ 1048576 → ∃ r, Ev (fun k => laws_szSyncSS.l0 k l b (n : Int)) r ∧ r ≤ 1048576 ∧ (0 ≤ r → ∀ x ∈ l.drop n, x.length ≤ 1048576) := by
      intro d
      induction d with
      | zero =>
        intro n b hn hb hb2
        exact ⟨b, Ev.step (f := fun _ => some b) (fun k => by simp only [laws_szSyncSS.l0]; rw [if_neg (by omega)]) (Ev.now _), hb2, fun _ => by rw [List.drop_eq_nil_of_le (by omega)]; simp⟩
      | succ d ih =>
        intro n b hn hb hb2
        have hlt : n < l.length := by omega
        obtain ⟨r1, h1, h1b, h1c⟩ := szOps l[n] b hb hb2 (hi _ (List.getElem_mem hlt))
        have st : ∀ k, laws_szSyncSS.l0 (k + 1) l b (n : Int) = if r1 < 0 then some (-1) else laws_szSyncSS.l0 k l r1 ((n + 1 : Nat) : Int) := fun k => by
          simp only [laws_szSyncSS.l0]
          rw [if_pos (by omega), if_pos (by omega), show rd_L2 l (n : Int) = l[n] from getD_at l n _ hlt, h1, wrap_succ n (by omega)]
          rfl
        by_cases hr : r1 < 0
        · exact ⟨-1, Ev.step (f := fun _ => some (-1)) (fun k => by rw [st, if_pos hr]) (Ev.now _), by omega, by omega⟩
        · obtain ⟨r, hE, hr2, hr3⟩ := ih (n + 1) r1 (by omega) (by omega) h1b
          refine ⟨r, Ev.step (fun k => by rw [st, if_neg hr]) hE, hr2, fun h0 => ?_⟩
          rw [List.drop_eq_getElem_cons hlt]
          intro x hx
          rcases List.mem_cons.1 hx with rfl | hx
          · exact h1c (by omega)
          · exact hr3 h0 x hx
    obtain ⟨r, hE, h2, h3⟩ := key l.length 0 (a - (l.length : Int)) (by omega) (by omega) (by omega)
    exact ⟨r, Ev.congr (fun k => by unfold laws_szSyncSS.f; rw [hw, if_neg h]; rfl) hE, h2, fun h0 => ⟨by omega, by simpa using h3 h0⟩⟩


theorem FnExactSyncOK (a b : Int) (C D E : List Int) (T : List (List S120)) (hC : C.length ≤ 9223372036854775807) (hD : D.length ≤ 9223372036854775807) (hE : E.length ≤ 9223372036854775807) (hT : T.length ≤ 9223372036854775807)
    (hx : ∀ x ∈ T, x.length ≤ 9223372036854775807) : ∃ k, laws_FnExactSyncOK.f k a b C D E T = some true := by
  apply Ev.rounds
  obtain ⟨s1, hs1, hs1b, hs1c⟩ := szInts C 1048576 (by omega) (by omega) hC
  by_cases h1 : s1 < 0
  · refine Ev.congr (f := fun _ => some true) (fun k => ?_) (Ev.now true)
    unfold laws_FnExactSyncOK.f laws_szSyncProg.f
    rw [hs1]
    simp [h1]
  obtain ⟨s2, hs2, hs2b, hs2c⟩ := szInts D s1 (by omega) (by omega) hD
  by_cases h2 : s2 < 0
  · refine Ev.congr (f := fun _ => some true) (fun k => ?_) (Ev.now true)
    unfold laws_FnExactSyncOK.f laws_szSyncProg.f
    rw [hs1]
    simp only [Option.bind_some]
    rw [if_neg h1, hs2]
    simp [h2]
  obtain ⟨s3, hs3, hs3b, hs3c⟩ := szInts E s2 (by omega) (by omega) hE
  by_cases h3 : s3 < 0
  · refine Ev.congr (f := fun _ => some true) (fun k => ?_) (Ev.now true)
    unfold laws_FnExactSyncOK.f laws_szSyncProg.f
    rw [hs1]
    simp only [Option.bind_some]
    rw [if_neg h1, hs2]
    simp only [Option.bind_some]
    rw [if_neg h2, hs3]
    simp [h3]
  obtain ⟨s4, hs4, hs4b, hs4c⟩ := szTxs T s3 (by omega) hs3b hT hx
  have hsz : Ev (fun k => laws_szSyncProg.f k a b C D E T 1048576) (if s4 < 0 then -1 else s4) := by
    refine Ev.congr (f := fun k => (laws_szSyncSS.f k T s3).bind fun t => if t < 0 then some (-1) else some t) (fun k => ?_) (Ev.bind hs4 (by split <;> exact Ev.now _))
    unfold laws_szSyncProg.f
    rw [hs1]
    simp only [Option.bind_some]
    rw [if_neg h1, hs2]
    simp only [Option.bind_some]
    rw [if_neg h2, hs3]
    simp only [Option.bind_some]
    rw [if_neg h3]
  by_cases h4 : s4 < 0
  · rw [if_pos h4] at hsz
    unfold laws_FnExactSyncOK.f
    exact Ev.bind hsz (by simpa using Ev.now true)
  rw [if_neg h4] at hsz
  have hCl := hs1c (by omega)
  have hDl := hs2c (by omega)
  have hEl := hs3c (by omega)
  obtain ⟨hTl, hTx⟩ := hs4c (by omega)
  have hto : Ev (fun k => laws_toSyncProg.f k a b C D E T) (a, b, C, D, E, T.map (·.map cv)) := by
    unfold laws_toSyncProg.f
    exact Ev.bind (toInts C hCl) (Ev.bind (toInts D hDl) (Ev.bind (toInts E hEl) (Ev.bind (toTxs T hTl hTx) (Ev.now _))))
  have hT' : (T.map (·.map cv)).length ≤ 1048576 := by simpa using hTl
  have hx' : ∀ x ∈ T.map (·.map cv), x.length ≤ 1048576 := by
    intro x hx
    obtain ⟨x0, h0, rfl⟩ := List.mem_map.1 hx
    simpa using hTx x0 h0
  have heq : Ev (fun k => laws_eqSyncProg.f k a b C D E (T.map (·.map cv)) a b C D E (T.map (·.map cv))) true := by
    unfold laws_eqSyncProg.f
    simp only [if_true]
    refine Ev.bind (eqInts C hCl) ?_
    simp only [if_true]
    refine Ev.bind (eqInts D hDl) ?_
    simp only [if_true]
    refine Ev.bind (eqInts E hEl) ?_
    simp only [if_true]
    refine Ev.bind (eqTxs _ hT' hx') ?_
    simpa using Ev.now true
  unfold laws_FnExactSyncOK.f
  refine Ev.bind hsz ?_
  simp only [if_neg h4]
  refine Ev.bind hto ?_
  refine Ev.congr (f := fun k => (some (syncB a b C D E (T.map (·.map cv)))).bind fun t179 => ((laws_toSyncProg.f k a b C D E T).bind fun bt180 => ((impl_SyncOK.f bt180.1 bt180.2.1 bt180.2.2.1 bt180.2.2.2.1 bt180.2.2.2.2.1 bt180.2.2.2.2.2).bind fun t195 => (if (t195 != t179) = true then (some false) else ((laws_toSyncProg.f k a b C D E T).bind fun bt196 => ((laws_eqSyncProg.f k bt180.1 bt180.2.1 bt180.2.2.1 bt180.2.2.2.1 bt180.2.2.2.2.1 bt180.2.2.2.2.2 bt196.1 bt196.2.1 bt196.2.2.1 bt196.2.2.2.1 bt196.2.2.2.2.1 bt196.2.2.2.2.2).bind fun t210 => (if t210 = true then (some true) else (some false)))))))) (fun k => rfl) ?_
  simp only [Option.bind_some]
  refine Ev.bind hto ?_
  refine Ev.congr (f := fun k => (laws_toSyncProg.f k a b C D E T).bind fun bt196 => ((laws_eqSyncProg.f k a b C D E (T.map (·.map cv)) bt196.1 bt196.2.1 bt196.2.2.1 bt196.2.2.2.1 bt196.2.2.2.2.1 bt196.2.2.2.2.2).bind fun t210 => (if t210 = true then (some true) else (some false)))) (fun k => by simp [impl_SyncOK.f]) ?_
  refine Ev.bind hto ?_
  refine Ev.bind heq ?_
  simpa using Ev.now true
end Go.Proofs.Ytlfhdjodcfifpaa.PureSyncOK
