import Derived.Test.YtioglahnliajlaaPr16
import Derived.Test.YtioglahnliajlaaKinds
import Derived.Test.YtioglahnliajlaaGMet
set_option linter.unusedVariables false
set_option linter.unusedSimpArgs false
namespace Go.Proofs.Ytioglahnliajlaa.Pure
open Go.RowKit Go.Proofs.Ytioglahnliajlaa.Pr Go.Proofs.YtioglahnliajlaaW.PrintWords Go.Proofs.YtioglahnliajlaaW.PrintLast Go.Proofs.YtioglahnliajlaaW.PrintMore
theorem PlanNotBoth (y0 : List (S38)) (y1 : List (Int)) (y2 : List (List (Int))) (y3 : S26) : (y0.length ≤ maxLen ∧ ∀ y ∈ y0, good38 y) → (y1.length ≤ maxLen ∧ ∀ y ∈ y1, Int64 .i64 y) → (y2.length ≤ maxLen ∧ ∀ y ∈ y2, (y.length ≤ maxLen ∧ ∀ z ∈ y, Int64 .i64 z)) → good26 y3 → ∃ k, Ytioglahnliajlaa.Pr.chargeparklaw27_PlanNotBoth.f k (y0) (y1) (y2) (y3.f0) (y3.f1) = some true := by
  intro _ _ h2 _
  have hl : y2.length ≤ 9223372036854775807 := by have := h2.1; simp only [maxLen] at this; omega
  refine ⟨1000 + (y2.length + 1), ?_⟩
  unfold chargeparklaw27_PlanNotBoth.f
  rw [phead_f _ (by omega), rfew_f _ _ _ _ _ hl _ (by omega)]
  simp only [Option.bind_some]
  by_cases hf : fewOk y0.length y1.length y2 y3.f0.length y3.f1.length
  · rw [decide_eq_true hf, if_pos rfl]
    unfold plan_CheckPlan.f plan_CheckCut.f
    simp only [Option.bind_some]
    by_cases hv : validOk y0 y1
    · rcases sched_says hv with ⟨p, e, h⟩ | ⟨cj, cs, e, h⟩
      · rw [e]
        have hc : ckCut y0 y1 y3.f0 y3.f1 = false := by
          rw [Bool.eq_false_iff]
          intro hh
          exact cut_cannot hh (plan_can h)
        rw [hc]
        simp
      · rw [e]
        have hp : ckPlan y0 y1 y2 = false := by
          rw [Bool.eq_false_iff]
          intro hh
          exact cut_cannot h (plan_can hh)
        rw [hp]
        simp
    · have hp : ckPlan y0 y1 y2 = false := by
        rw [Bool.eq_false_iff]
        intro hh
        exact hv ((ckPlan_iff _ _ _).1 hh).1
      have hc : ckCut y0 y1 y3.f0 y3.f1 = false := by
        rw [Bool.eq_false_iff]
        intro hh
        exact hv ((ckCut_iff _ _ _ _).1 hh).1
      rw [sched_bad hv, hp, hc]
      simp
  · rw [decide_eq_false hf, if_neg (by decide)]
end Go.Proofs.Ytioglahnliajlaa.Pure
