import Derived.Test.YtfjbbmgnfpeogaaPr9
import Derived.Test.YtfjbbmgnfpeogaaKinds
import Derived.Test.YtfjbbmgnfpeogaaFlowHead
namespace Go.Proofs.Ytfjbbmgnfpeogaa.Pure
open Go.RowKit Go.Proofs.Ytfjbbmgnfpeogaa.Pr Go.Proofs.YtfjbbmgnfpeogaaW.PrintWords Go.Proofs.YtfjbbmgnfpeogaaW.PrintLast Go.Proofs.YtfjbbmgnfpeogaaW.PrintMore
theorem FlowProof (y0 : S24) (a1 : Int) (a2 : Int) : good24 y0 → Int64 .i64 a1 → Int64 .i64 a2 → ∃ k, Ytfjbbmgnfpeogaa.Pr.chargeparklaw21_FlowProof.f k (y0.f0) (y0.f1) (a1) (a2) = some true := by
  intro _ _ _
  refine ⟨2000, ?_⟩
  obtain ⟨n, l⟩ := y0
  simp only
  unfold chargeparklaw21_FlowProof.f
  rw [head_f 2000 (by omega), rends_f n l a1 a2 2000 (by omega)]
  simp only [Option.bind_some]
  by_cases h : endsOk n l a1 a2
  · rw [if_pos (by simpa using h)]
    obtain ⟨a, f, S, e, P, g⟩ := most_proves h
    have hg := h.1
    rw [e]
    simp only [Option.bind_some]
    rw [flow_f h f 2000 (by omega), cut_f h S]
    simp only [Option.bind_some, P.flow, P.cut, decide_true, if_true, chargeparklaw21_FlowProof.j0, Bool.not_true]
    rw [if_neg (by decide), amount_f n l a1 f hg.1.2.2 P.flow.1 (flowOk_cells P.flow (fun e he => (hg.2 e he).2.2.2)) 1999 (by omega)]
    simp only [Option.bind_some]
    rw [if_pos P.amount.symm, cap_f hg S P.cut.1 1999 (by omega)]
    simp only [Option.bind_some]
    rw [if_pos P.cap.symm, check_f n l a1 a2 f S 1999 (by omega)]
    simp [h, P.flow, P.cut, P.amount, P.cap]
  · rw [if_neg (by simpa using h)]
end Go.Proofs.Ytfjbbmgnfpeogaa.Pure
