import Derived.Test.YtfjbbmgnfpeogaaPr10
import Derived.Test.YtfjbbmgnfpeogaaKinds
import Derived.Test.YtfjbbmgnfpeogaaFlowMin
namespace Go.Proofs.Ytfjbbmgnfpeogaa.Pure
open Go.RowKit Go.Proofs.Ytfjbbmgnfpeogaa.Pr Go.Proofs.YtfjbbmgnfpeogaaW.PrintWords Go.Proofs.YtfjbbmgnfpeogaaW.PrintLast Go.Proofs.YtfjbbmgnfpeogaaW.PrintMore
theorem FlowDuality (y0 : S24) (a1 : Int) (a2 : Int) (y3 : List (Int)) (y4 : List (Bool)) : good24 y0 → Int64 .i64 a1 → Int64 .i64 a2 → (y3.length ≤ maxLen ∧ ∀ y ∈ y3, Int64 .i64 y) → (y4.length ≤ maxLen ∧ ∀ y ∈ y4, True) → ∃ k, Ytfjbbmgnfpeogaa.Pr.chargeparklaw21_FlowDuality.f k (y0.f0) (y0.f1) (a1) (a2) (y3) (y4) = some true := by
  intro _ _ _ _ _
  refine ⟨2000, ?_⟩
  obtain ⟨n, l⟩ := y0
  simp only
  unfold chargeparklaw21_FlowDuality.f
  rw [head_f 2000 (by omega), rends_f n l a1 a2 2000 (by omega)]
  simp only [Option.bind_some]
  by_cases h : endsOk n l a1 a2
  · rw [if_pos (by simpa using h)]
    obtain ⟨a, f, S, e, P, L⟩ := most_least h
    have hg := h.1
    rw [e]
    simp only [Option.bind_some]
    rw [flow_f h y3 2000 (by omega), cut_f h y4]
    simp only [Option.bind_some, if_true]
    have hflow : flowOk n.toNat l a1 a2 y3 → tnet l y3 l.length a1 ≤ a := fun hf => by rw [← P.cap]; exact weak_f h hf P.cut
    have hcut : cutOk n.toNat a1 a2 y4 → a ≤ tcap l y4 l.length := fun hc => by rw [← P.amount]; exact weak_f h P.flow hc
    have hj : ∀ b : Bool, b = true → chargeparklaw21_FlowDuality.j0 2000 a1 a2 y3 y4 b a (@decide (flowOk n.toNat l a1 a2 y3) (Classical.propDecidable _)) (decide (cutOk n.toNat a1 a2 y4)) n l = some true := by
      intro b hb
      subst hb
      simp only [chargeparklaw21_FlowDuality.j0]
      rw [check_f n l a1 a2 y3 y4 1999 (by omega)]
      by_cases hc : cutOk n.toNat a1 a2 y4
      · rw [if_pos (by simpa using hc), if_pos trivial, cap_f hg y4 hc.1 1999 (by omega)]
        simp only [Option.bind_some]
        rw [if_pos (hcut hc)]
        by_cases hq : flowOk n.toNat l a1 a2 y3 ∧ tnet l y3 l.length a1 = tcap l y4 l.length
        · have e1 := hflow hq.1
          have e2 := hcut hc
          have e3 := hq.2
          rw [if_pos (by simp [h, hc, hq.1, hq.2]), if_pos (by simp [hq.1]), amount_f n l a1 y3 hg.1.2.2 hq.1.1 (flowOk_cells hq.1 (fun e he => (hg.2 e he).2.2.2)) 1999 (by omega)]
          simp only [Option.bind_some]
          rw [if_pos (by omega)]
          have : tcap l y4 l.length = a := by omega
          simp [this]
        · rw [if_neg (by simp only [decide_eq_true_iff]; exact fun hh => hq ⟨hh.2.1, hh.2.2.2⟩)]
      · rw [if_neg (by simpa using hc)]
        simp only [Option.bind_some, if_true]
        rw [if_neg (by simp only [decide_eq_true_iff]; exact fun hh => hc hh.2.2.1)]
    by_cases hf : flowOk n.toNat l a1 a2 y3
    · rw [if_pos (by simpa using hf), amount_f n l a1 y3 hg.1.2.2 hf.1 (flowOk_cells hf (fun e he => (hg.2 e he).2.2.2)) 2000 (by omega)]
      simp only [Option.bind_some]
      exact hj _ (by simpa using hflow hf)
    · rw [if_neg (by simpa using hf)]
      exact hj _ rfl
  · rw [if_neg (by simpa using h)]
end Go.Proofs.Ytfjbbmgnfpeogaa.Pure
