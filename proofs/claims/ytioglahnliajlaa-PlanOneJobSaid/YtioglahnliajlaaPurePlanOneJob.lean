import Derived.Test.YtioglahnliajlaaPr14
import Derived.Test.YtioglahnliajlaaKinds
import Derived.Test.YtioglahnliajlaaGMet
import Derived.Test.YtioglahnliajlaaGTh
set_option linter.unusedVariables false
set_option linter.unusedSimpArgs false
namespace Go.Proofs.Ytioglahnliajlaa.Pure
open Go.RowKit Go.Proofs.Ytioglahnliajlaa.Pr Go.Proofs.YtioglahnliajlaaW.PrintWords Go.Proofs.YtioglahnliajlaaW.PrintLast Go.Proofs.YtioglahnliajlaaW.PrintMore
open Go.Proofs.Ytioglahnliajlaa.FlowTheory Go.Proofs.Ytioglahnliajlaa.PlanTheory
theorem onejob_l0 (j : S38) (sup : List Int) (hv : validOk [j] sup) (n : Nat) (hn : j.f1 - j.f0 = n) (x : Bool) : ∀ (d i m : Nat), i + d = n →
    chargeparklaw27_PlanOneJob.l0 (d + (1 + m)) sup x (sumN i (fun t => mn j.f3 (rd sup (j.f0 + (t : Int))))) (j.f0 + (i : Int)) j.f0 j.f1 j.f2 j.f3 j.f4 =
      chargeparklaw27_PlanOneJob.l0 (1 + m) sup x (sumN n (fun t => mn j.f3 (rd sup (j.f0 + (t : Int))))) j.f1 j.f0 j.f1 j.f2 j.f3 j.f4 := by
  obtain ⟨⟨j1, j2⟩, j3, j4, j5, _⟩ := hv.2.2 j (by simp)
  have hS := hv.1.2
  have hmn : ∀ s : Nat, s < sup.length → 0 ≤ mn j.f3 (rd sup (s : Int)) ∧ mn j.f3 (rd sup (s : Int)) ≤ 1000 := fun s hs => by
    have := hv.2.1 _ (rd_memI sup s hs)
    unfold unitOk at this
    unfold mn
    split <;> omega
  have hb : ∀ i : Nat, i ≤ n → 0 ≤ sumN i (fun t => mn j.f3 (rd sup (j.f0 + (t : Int)))) ∧ sumN i (fun t => mn j.f3 (rd sup (j.f0 + (t : Int)))) ≤ 1000 * i := by
    intro i
    induction i with
    | zero => intro _; simp [sumN]
    | succ i ih =>
      intro hi
      have := ih (by omega)
      obtain ⟨s, hs⟩ := Int.eq_ofNat_of_zero_le (show 0 ≤ j.f0 + (i : Int) by omega)
      have := hmn s (by omega)
      rw [← hs] at this
      simp only [sumN]
      omega
  intro d
  induction d with
  | zero =>
    intro i m hi
    have hi' : i = n := by omega
    subst hi'
    rw [show j.f0 + (i : Int) = j.f1 by omega, Nat.zero_add]
  | succ d ih =>
    intro i m hi
    have h := ih (i + 1) m (by omega)
    rw [show d + 1 + (1 + m) = (d + (1 + m)) + 1 by omega]
    have hbi := hb i (by omega)
    have hbj := hb (i + 1) (by omega)
    simp only [sumN] at hbj h
    have e : chargeparklaw27_PlanOneJob.l0 ((d + (1 + m)) + 1) sup x (sumN i (fun t => mn j.f3 (rd sup (j.f0 + (t : Int))))) (j.f0 + (i : Int)) j.f0 j.f1 j.f2 j.f3 j.f4 =
        chargeparklaw27_PlanOneJob.l0 (d + (1 + m)) sup x (sumN i (fun t => mn j.f3 (rd sup (j.f0 + (t : Int)))) + mn j.f3 (rd sup (j.f0 + (i : Int)))) (j.f0 + ((i + 1 : Nat) : Int)) j.f0 j.f1 j.f2 j.f3 j.f4 := by
      conv => lhs; unfold chargeparklaw27_PlanOneJob.l0
      rw [if_pos (by omega), if_pos (by omega), if_pos (by omega), w64' (x := j.f0 + (i : Int) + 1) (by omega) (by omega), w64' (by omega) (by omega), show j.f0 + (i : Int) + 1 = j.f0 + ((i + 1 : Nat) : Int) by omega]
    exact e.trans h
theorem PlanOneJob (y0 : S38) (y1 : List (Int)) : good38 y0 → (y1.length ≤ maxLen ∧ ∀ y ∈ y1, Int64 .i64 y) → ∃ k, Ytioglahnliajlaa.Pr.chargeparklaw27_PlanOneJob.f k (y0.f0) (y0.f1) (y0.f2) (y0.f3) (y0.f4) (y1) = some true := by
  intro _ _
  refine ⟨2001, ?_⟩
  unfold chargeparklaw27_PlanOneJob.f
  rw [phead_f _ (by omega), rfew_f _ _ _ _ _ (by simp) _ (by simp), rvalid_f _ _ _ (by omega)]
  simp only [Option.bind_some]
  have rest : chargeparklaw27_PlanOneJob.j0 2001 y1 true false y0.f0 y0.f1 y0.f2 y0.f3 y0.f4 = some true := by simp [chargeparklaw27_PlanOneJob.j0]
  split
  · by_cases hv : validOk [y0] y1
    · have hv' : validOk [(⟨y0.f0, y0.f1, y0.f2, y0.f3, y0.f4⟩ : S38)] y1 := hv
      rw [decide_eq_true hv']
      simp only [chargeparklaw27_PlanOneJob.j0, if_true]
      obtain ⟨⟨j1, j2⟩, j3, j4, j5, _⟩ := hv.2.2 y0 (by simp)
      have hS := hv.1.2
      obtain ⟨n, hn⟩ := Int.eq_ofNat_of_zero_le (show 0 ≤ y0.f1 - y0.f0 by omega)
      have h := onejob_l0 y0 y1 hv n hn true n 0 (1999 - n) (by omega)
      rw [show n + (1 + (1999 - n)) = 2000 by omega] at h
      simp only [sumN, Int.ofNat_zero, Int.natCast_zero, Int.add_zero] at h
      rw [h, show 1 + (1999 - n) = (1999 - n) + 1 by omega]
      simp only [chargeparklaw27_PlanOneJob.l0]
      rw [if_neg (by omega)]
      obtain ⟨b, e, hb⟩ := met_f hv'
      rw [e]
      simp only [Option.bind_some, if_true]
      congr 1
      rw [beq_iff_eq]
      refine met_same hb (decide_eq_true_iff) ?_
      have ok := ok2_of hv
      have hjo := ok.job 0 (by simp)
      have one := one_job (j := toJb y0) (sup := y1) hjo (fun s hs => (ok.supply s hs).1)
      refine (show _ ↔ _ from one).trans ?_
      obtain ⟨a, ha⟩ := Int.eq_ofNat_of_zero_le j1
      have hw := sumN_window a (a + n) y1.length (fun s => mn y0.f3 (rd y1 (s : Int))) (by omega) (by omega)
      have e1 : sumN n (fun t => mn y0.f3 (rd y1 (y0.f0 + (t : Int)))) = sumN y1.length (fun s => if Win (toJb y0) s then min (toJb y0).ra (sp y1 s) else 0) := by
        rw [show a + n - a = n by omega] at hw
        rw [show (fun t : Nat => mn y0.f3 (rd y1 (y0.f0 + (t : Int)))) = (fun d : Nat => mn y0.f3 (rd y1 ((a + d : Nat) : Int))) from funext fun t => by rw [ha, Int.natCast_add], hw]
        refine sumN_congr fun s hs => ?_
        have hwin : (a ≤ s ∧ s < a + n) ↔ Win (toJb y0) s := by
          unfold Win toJb
          simp only
          omega
        have hmn : mn y0.f3 (rd y1 (s : Int)) = min (toJb y0).ra (sp y1 s) := by
          rw [sp_of]
          unfold mn toJb
          simp only
          split <;> omega
        simp only [hwin, hmn]
      rw [e1]
      exact Iff.rfl
    · have hv' : ¬ validOk [(⟨y0.f0, y0.f1, y0.f2, y0.f3, y0.f4⟩ : S38)] y1 := hv
      rw [decide_eq_false hv']
      exact rest
  · exact rest
end Go.Proofs.Ytioglahnliajlaa.Pure
