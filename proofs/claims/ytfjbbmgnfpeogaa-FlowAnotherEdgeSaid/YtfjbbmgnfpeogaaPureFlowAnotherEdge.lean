import Derived.Test.YtfjbbmgnfpeogaaPa1
import Derived.Test.YtfjbbmgnfpeogaaKinds
import Derived.Test.YtfjbbmgnfpeogaaFlowMin
namespace Go.Proofs.Ytfjbbmgnfpeogaa.Pure
open Go.RowKit Go.Proofs.Ytfjbbmgnfpeogaa.Pr Go.Proofs.YtfjbbmgnfpeogaaW.PrintWords Go.Proofs.YtfjbbmgnfpeogaaW.PrintLast Go.Proofs.YtfjbbmgnfpeogaaW.PrintMore

theorem capL_one {n : Nat} {s t : Int} {S : List Bool} (h : cutOk n s t S) (c : Int) : capL S [(⟨s, t, c⟩ : S39)] = c := by
  simp [capL, sumI, capE, h.2.1, h.2.2]
theorem capL_idle {n : Nat} {s t : Int} {S : List Bool} (h : cutOk n s t S) (a b c : Int) : capL S [(⟨a, s, c⟩ : S39), ⟨t, b, c⟩] = 0 := by
  simp [capL, sumI, capE, h.2.1, h.2.2]

theorem FlowAnotherEdge (y0 : S24) (a1 : Int) (a2 : Int) (a3 : Int) (a4 : Int) (a5 : Int) : good24 y0 → Int64 .i64 a1 → Int64 .i64 a2 → Int64 .i64 a3 → Int64 .i64 a4 → Int64 .i64 a5 → ∃ k, Ytfjbbmgnfpeogaa.Pr.chargeparklaw21_FlowAnotherEdge.f k (y0.f0) (y0.f1) (a1) (a2) (a3) (a4) (a5) = some true := by
  intro _ _ _ _ _ _
  refine ⟨2000, ?_⟩
  obtain ⟨n, l⟩ := y0
  simp only
  unfold chargeparklaw21_FlowAnotherEdge.f
  rw [head_f 2000 (by omega), rends_f n l a1 a2 2000 (by omega)]
  simp only [Option.bind_some]
  have out : chargeparklaw21_FlowAnotherEdge.j0 2000 a1 a2 a3 a4 a5 true true n l = some true := by simp only [chargeparklaw21_FlowAnotherEdge.j0, if_true]
  by_cases h : endsOk n l a1 a2
  · rw [if_pos (by simpa using h)]
    by_cases c0 : (l.length : Int) > 509
    · rw [if_pos c0]; exact out
    · rw [if_neg c0]
      by_cases c1 : a3 < 0
      · rw [if_pos c1]; exact out
      · rw [if_neg c1]
        by_cases c2 : a3 > 1000000
        · rw [if_pos c2]; exact out
        · rw [if_neg c2]
          by_cases c3 : a4 < 0
          · rw [if_pos c3]; exact out
          · rw [if_neg c3]
            by_cases c4 : a5 < 0
            · rw [if_pos c4]; exact out
            · rw [if_neg c4]
              by_cases c5 : a4 ≥ n
              · rw [if_pos c5]; exact out
              · rw [if_neg c5]
                by_cases c6 : a5 ≥ n
                · rw [decide_eq_true c6]; exact out
                · rw [decide_eq_false c6]
                  have hl := h.1.1.2.2
                  simp only [chargeparklaw21_FlowAnotherEdge.j0, Option.bind_some, List.length_nil, List.nil_append, Nat.zero_add, List.length_cons]
                  rw [if_neg (by decide), if_pos (by omega), if_pos (by omega), if_pos (by omega), if_pos (by omega), if_pos (by omega)]
                  obtain ⟨a, f, S, e, P, L⟩ := most_least h
                  obtain ⟨⟨⟨n1, n2, _⟩, hg⟩, ⟨s0, s1⟩, ⟨t0, t1⟩, hst⟩ := h
                  have h1 : endsOk n (l ++ [(⟨a1, a2, a3⟩ : S39)]) a1 a2 := ⟨⟨⟨n1, n2, by simp; omega⟩, fun x hx => by
                    rcases List.mem_append.1 hx with hx | hx
                    · exact hg x hx
                    · rw [List.mem_singleton.1 hx]; exact ⟨⟨s0, s1⟩, ⟨t0, t1⟩, by simp only; omega, by simp only; omega⟩⟩, ⟨s0, s1⟩, ⟨t0, t1⟩, hst⟩
                  have h2 : endsOk n (l ++ [(⟨a4, a1, a3⟩ : S39), ⟨a2, a5, a3⟩]) a1 a2 := ⟨⟨⟨n1, n2, by simp; omega⟩, fun x hx => by
                    rcases List.mem_append.1 hx with hx | hx
                    · exact hg x hx
                    · rcases List.mem_cons.1 hx with rfl | hx
                      · exact ⟨⟨by simp only; omega, by simp only; omega⟩, ⟨s0, s1⟩, by simp only; omega, by simp only; omega⟩
                      · rw [List.mem_singleton.1 hx]; exact ⟨⟨t0, t1⟩, ⟨by simp only; omega, by simp only; omega⟩, by simp only; omega, by simp only; omega⟩⟩, ⟨s0, s1⟩, ⟨t0, t1⟩, hst⟩
                  obtain ⟨b, f1, S1, e1, P1, L1⟩ := most_least h1
                  obtain ⟨c, f2, S2, e2, P2, L2⟩ := most_least h2
                  rw [e, e1, e2]
                  simp only [Option.bind_some, if_true]
                  have hb1 : b ≤ a + a3 := by
                    obtain ⟨Sc, hcc, he⟩ := L.cut
                    have i1 := L1.le Sc hcc
                    rw [capL_append, capL_one hcc] at i1
                    omega
                  have hb2 : a + a3 ≤ b := by
                    obtain ⟨Sc, hcc, he⟩ := L1.cut
                    have i1 := L.le Sc hcc
                    rw [capL_append, capL_one hcc] at he
                    omega
                  have hc : a = c := L.eq L2 (fun S hS => by rw [capL_append, capL_idle hS]; omega)
                  have hbd := tcap_bound l S (fun j hj => (hg _ (rd_mem l j hj)).2.2) l.length (Nat.le_refl _)
                  rw [P.cap] at hbd
                  rw [w64 (x := a + a3) (by omega) (by omega), if_pos (show b = a + a3 by omega)]
                  simp [chargeparklaw21_FlowAnotherEdge.j1, hc]
  · rw [if_neg (by simpa using h)]; exact out
end Go.Proofs.Ytfjbbmgnfpeogaa.Pure
