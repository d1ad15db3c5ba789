/- FnFairWork: the law, walked: it answers true. -/
import Derived.Test.YtonhmkllfbagmaaRtx
import Derived.Test.YtonhmkllfbagmaaRunK
namespace Go.Proofs.Ytonhmkllfbagmaa.Tx
open Go.RowKit Go.Proofs.YtonhmkllfbagmaaW.PrintWords Go.Proofs.YtonhmkllfbagmaaW.PrintLast Go.Proofs.YtonhmkllfbagmaaW.PrintMore Go.Proofs.Ytonhmkllfbagmaa.PFnExactTxFair Go.Proofs.Ytonhmkllfbagmaa.Src
set_option linter.unusedVariables false
set_option linter.unusedSimpArgs false
theorem sameEv (l : List Int) (hl : l.length ≤ 1048576) : Ev (fun k => laws_sameInts.f k l l) true := by
  have h := PureTxFair.scan l.length (fun k n => laws_sameInts.l0 k l l n) (fun _ => true)
    (Ev.step (f := fun _ => some true) (fun k => by simp only [laws_sameInts.l0]; rw [if_neg (by omega)]) (Ev.now _))
    (fun n h hr => Ev.step (fun k => by simp only [laws_sameInts.l0]; rw [if_pos (by omega), if_pos (by omega), if_pos (by omega), if_pos trivial, PureTxFair.wrap_succ n (by omega)]) hr) 0 (by omega)
  exact Ev.congr (fun k => by unfold laws_sameInts.f; rw [if_pos rfl]; rfl) h
theorem sameC {l : List Int} {v u : Value} {w : World} (hl : l.length ≤ 1048576) (hv : Rd ki w v l) (hu : Rd ki w u l) : Calls Try.prog 26 #[v, u] w fun e w' => e = .returned (.bool true) ∧ Below w.heap.size w w' := by
  obtain ⟨k, hk⟩ := Ev.rounds (sameEv l hl)
  obtain ⟨A, c, rfl, h1, h2⟩ := hv
  obtain ⟨B, d, rfl, h3, h4⟩ := hu
  refine (laws_sameInts.calls k A c l B d l true w h2 h1 h4 h3 hk).mono ?_
  rintro e w' ⟨he, n, rfl⟩
  exact ⟨he, pw_below_drewN (Below.refl _ _) n⟩
theorem rdC_ {α : Type} {d : Kd α} {w : World} {A : Option Addr} {n c : Nat} {xs : List α} (h : Rd d w (.slice A n c) xs) : d.C w A xs.length xs := by
  obtain ⟨A', c', e, h1, h2⟩ := h
  injection e with e1 e2 e3
  subst e1
  exact h2
theorem form_ {α : Type} {d : Kd α} {w : World} {v : Value} {xs : List α} (h : Rd d w v xs) : ∃ A c, v = .slice A xs.length c ∧ xs.length ≤ c := by
  obtain ⟨A, c, e, h1, -⟩ := h
  exact ⟨A, c, e, h1⟩
/-- A block as it was made. -/
def Blk (w : World) (b : Nat) (cs : Array Value) (t : TypeId) : Prop := w.heap[b]? = some (.cells cs t (0, 0))
theorem Blk.below {w w1 : World} {b : Nat} {cs : Array Value} {t : TypeId} (h : Blk w b cs t) (hB : Below w.heap.size w w1) : Blk w1 b cs t := (hB.block b (blk_lt h)).trans h
theorem Lie.rd {α : Type} {d : Kd α} {w : World} {lo hi : Nat} {v : Value} {xs : List α} (h : Lie d w lo hi v xs) : Rd d w v xs := h.2 w (Nat.le_refl _) (fun _ _ _ => rfl)
structure WF (C : List Int) (M : Int) (T : List (List (List S63))) (x : FS) : Prop where
  c1 : 0 < C.length
  c2 : C.length ≤ 8
  t1 : 0 < T.length
  t2 : T.length ≤ 4
  m : 1 ≤ M ∧ M ≤ 4
  so : ∃ k, spec_TxOK.f k C M T = some true
  io : ∃ k, impl_TxOK.f k C M T = some true
  ok : OpsOK T.length C.length T
  g0 : GoodF T.length T 200 ⟨st0 C, [], true⟩
  fair : IsFair M C.length T 200 (st0 C) x
  lo : x.out.length ≤ 200
  le : x.S.events.length ≤ 400
  lg : Lg T.length M C.length T (st0 C) x.out
  run : runN M C.length T (st0 C) x.out x.out.length = x.S
  rg0 : RG T.length T 0 (st0 C)
  good : Good T.length T x.S
  cx : CX T.length x.S.events x.S.tx
theorem wf (C : List Int) (M : Int) (T : List (List (List S63))) (hw : PureTxFair.workB C M T = true) (hs : PureTxFair.Small C T) : ∃ x, WF C M T x := by
  obtain ⟨c1, c2, t1, t2, m1, m2, hx⟩ := PureTxFair.work_all hw
  have hT : T.length ≤ 1048576 := by omega
  have hx' : ∀ x ∈ T, x.length ≤ 1048576 ∧ ∀ y ∈ x, y.length ≤ 1048576 := fun x h => ⟨by have := (hx x h).1; omega, fun y hy => by have := ((hx x h).2 y hy).1; omega⟩
  obtain ⟨k, hk⟩ := Ev.rounds (PureTxFair.spec_ok C M T hT hx')
  obtain ⟨j, hj⟩ := Ev.rounds (PureTxFair.impl_ok C M T hT hx')
  rw [hw] at hk hj
  have hok := PureTxFair.ops_ok hw hs
  have hG := PureTxFair.goodF0 (C := C) (M := M) (most := 200) (T := T) (by decide) hs
  obtain ⟨x, hF⟩ := IsFair.ex (man := M) hG hok (Int.le_refl 200)
  have hGx : GoodF T.length T 200 x := by
    obtain ⟨n, rfl, -⟩ := hF
    exact hG.rnd hok (Int.le_refl 200) n
  have b1 := hGx.len
  have b2 := hGx.ev
  obtain ⟨h1, h2⟩ := hF.told rfl
  have h0 : RG T.length T 0 (st0 C) := ⟨hG.g, fun c => Int.le_refl _, Nat.le_refl _, ⟨fun k h => absurd h (Nat.not_lt_zero k), fun t _ => rfl⟩⟩
  have hR := RG.run h0 hok h1 (by omega) x.out.length (Nat.le_refl _)
  rw [← h2] at hR
  exact ⟨x, by omega, by omega, by omega, by omega, ⟨m1, m2⟩, ⟨k, hk⟩, ⟨j, hj⟩, hok, hG, hF, by omega, by omega, h1, h2.symm, h0, hR.g, hR.cx⟩
end Go.Proofs.Ytonhmkllfbagmaa.Tx
