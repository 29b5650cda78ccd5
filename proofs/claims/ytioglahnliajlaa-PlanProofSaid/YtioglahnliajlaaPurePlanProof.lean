import Derived.Test.YtioglahnliajlaaPr12
import Derived.Test.YtioglahnliajlaaKinds
import Derived.Test.YtioglahnliajlaaGMet
import Derived.Test.YtioglahnliajlaaPlanRefC
set_option linter.unusedVariables false
set_option linter.unusedSimpArgs false
namespace Go.Proofs.Ytioglahnliajlaa.Pure
open Go.RowKit Go.Proofs.Ytioglahnliajlaa.Pr Go.Proofs.YtioglahnliajlaaW.PrintWords Go.Proofs.YtioglahnliajlaaW.PrintLast Go.Proofs.YtioglahnliajlaaW.PrintMore
theorem PlanProof (y0 : List (S38)) (y1 : List (Int)) : (y0.length ≤ maxLen ∧ ∀ y ∈ y0, good38 y) → (y1.length ≤ maxLen ∧ ∀ y ∈ y1, Int64 .i64 y) → ∃ k, Ytioglahnliajlaa.Pr.chargeparklaw27_PlanProof.f k (y0) (y1) = some true := by
  intro _ _
  refine ⟨3001, ?_⟩
  unfold chargeparklaw27_PlanProof.f
  rw [phead_f _ (by omega), rfew_f _ _ _ _ _ (by simp) _ (by simp), rvalid_f _ _ _ (by omega)]
  simp only [Option.bind_some]
  have rest : chargeparklaw27_PlanProof.j0 3001 y0 y1 true false = some true := by simp [chargeparklaw27_PlanProof.j0]
  split
  · by_cases hv : validOk y0 y1
    · rw [decide_eq_true hv]
      simp only [chargeparklaw27_PlanProof.j0, if_true]
      rcases sched_says hv with ⟨p, e, h⟩ | ⟨cj, cs, e, h⟩
      · rw [e]
        simp only [Option.bind_some, if_true]
        rw [rcp_true h 3000 (by omega)]
        rfl
      · rw [e]
        simp only [Option.bind_some]
        rw [if_neg (by decide), if_pos trivial, rcc_true h 3000 (by omega)]
        rfl
    · rw [decide_eq_false hv]
      exact rest
  · exact rest
end Go.Proofs.Ytioglahnliajlaa.Pure
