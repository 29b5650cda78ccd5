import Derived.Test.YtfjbbmgnfpeogaaPr1
import Derived.Test.YtfjbbmgnfpeogaaThFlowPush
import Derived.Test.YtfjbbmgnfpeogaaFlowAlong
/-! What the program takes for a graph with two ends; Most as a plain function. -/
namespace Go.Proofs.Ytfjbbmgnfpeogaa.Pr
open Go.RowKit Go.Proofs.YtfjbbmgnfpeogaaW.PrintWords Go.Proofs.YtfjbbmgnfpeogaaW.PrintLast Go.Proofs.YtfjbbmgnfpeogaaW.PrintMore
open Go.Proofs.Ytfjbbmgnfpeogaa.FlowTheory

def edgeOk (n : Int) (e : S39) : Prop := (0 ≤ e.f0 ∧ e.f0 < n) ∧ (0 ≤ e.f1 ∧ e.f1 < n) ∧ 0 ≤ e.f2 ∧ e.f2 ≤ 1000000
instance (n : Int) (e : S39) : Decidable (edgeOk n e) := by unfold edgeOk; infer_instance
def graphOk (n : Int) (l : List S39) : Prop := (1 ≤ n ∧ n ≤ 64 ∧ l.length ≤ 512) ∧ ∀ e ∈ l, edgeOk n e
instance (n : Int) (l : List S39) : Decidable (graphOk n l) := by unfold graphOk; infer_instance
def endsOk (n : Int) (l : List S39) (s t : Int) : Prop := graphOk n l ∧ (0 ≤ s ∧ s < n) ∧ (0 ≤ t ∧ t < n) ∧ s ≠ t
instance (n : Int) (l : List S39) (s t : Int) : Decidable (endsOk n l s t) := by unfold endsOk; infer_instance

theorem isNode_f (n : Int) (l : List S39) (v : Int) : flow_isNode.f n l v = some (decide (0 ≤ v ∧ v < n)) := by
  unfold flow_isNode.f
  by_cases h : v ≥ 0
  · rw [if_pos h]; congr 1; simp; omega
  · rw [if_neg h]; congr 1; simp; omega

theorem rd_drop (l : List S39) (i : Nat) (h : i < l.length) : l.drop i = rd_T39 l (i : Int) :: l.drop (i + 1) := by
  rw [List.drop_eq_getElem_cons h]
  simp [rd_T39, List.getD_eq_getElem?_getD, h]

theorem valid_loop (n : Int) (l : List S39) (hl : l.length ≤ 512) : ∀ (d i k : Nat), i + d = l.length → d + 1 ≤ k →
    flow_Valid.l0 k l (l.length : Int) (i : Int) n l = some (decide (∀ e ∈ l.drop i, edgeOk n e)) := by
  intro d
  induction d with
  | zero =>
    intro i k hi hk
    obtain ⟨k, rfl⟩ : ∃ m, k = m + 1 := ⟨k - 1, by omega⟩
    simp only [flow_Valid.l0]
    rw [if_neg (by omega), List.drop_of_length_le (by omega)]
    simp
  | succ d ih =>
    intro i k hi hk
    obtain ⟨k, rfl⟩ : ∃ m, k = m + 1 := ⟨k - 1, by omega⟩
    simp only [flow_Valid.l0]
    rw [if_pos (by omega), if_pos (by omega), if_pos (by omega), isNode_f, isNode_f, rd_drop l i (by omega)]
    have hw : wrap64 ((i : Int) + 1) = ((i + 1 : Nat) : Int) := by unfold wrap64; omega
    rw [hw]
    have h := ih (i + 1) k (by omega) (by omega)
    generalize hx : rd_T39 l (i : Int) = x at *
    simp only [Option.bind_some]
    by_cases c1 : 0 ≤ x.f0 ∧ x.f0 < n
    · rw [if_pos (by simpa using c1)]
      by_cases c2 : 0 ≤ x.f1 ∧ x.f1 < n
      · rw [if_pos (by simpa using c2)]
        by_cases c3 : x.f2 < 0
        · rw [if_pos c3]; congr 1; symm; rw [decide_eq_false_iff_not]
          intro h; have := (h x (by simp)).2.2.1; omega
        · rw [if_neg c3]
          by_cases c4 : x.f2 > 1000000
          · rw [if_pos c4]; congr 1; symm; rw [decide_eq_false_iff_not]
            intro h; have := (h x (by simp)).2.2.2; omega
          · rw [if_neg c4, h]
            congr 1
            have : edgeOk n x := ⟨c1, c2, by omega, by omega⟩
            simp [this]
      · rw [if_neg (by simpa using c2)]; congr 1; symm; rw [decide_eq_false_iff_not]
        intro h; exact c2 (h x (by simp)).2.1
    · rw [if_neg (by simpa using c1)]; congr 1; symm; rw [decide_eq_false_iff_not]
      intro h; exact c1 (h x (by simp)).1

theorem valid_f (n : Int) (l : List S39) (k : Nat) (hk : 600 ≤ k) : flow_Valid.f k n l = some (decide (graphOk n l)) := by
  obtain ⟨k, rfl⟩ : ∃ m, k = m + 1 := ⟨k - 1, by omega⟩
  unfold flow_Valid.f
  by_cases c1 : n < 1
  · rw [if_pos c1]; simp only [flow_Valid.j0, if_true]
    congr 1; symm; rw [decide_eq_false_iff_not]; intro h; have := h.1.1; omega
  · rw [if_neg c1]
    by_cases c2 : n > 64
    · rw [if_pos c2]; simp only [flow_Valid.j0, if_true]
      congr 1; symm; rw [decide_eq_false_iff_not]; intro h; have := h.1.2.1; omega
    · rw [if_neg c2]
      simp only [flow_Valid.j0]
      by_cases c3 : (l.length : Int) > 512
      · rw [if_pos (by simpa using c3)]
        congr 1; symm; rw [decide_eq_false_iff_not]; intro h; have := h.1.2.2; omega
      · rw [if_neg (by simpa using c3)]
        have h := valid_loop n l (by omega) l.length 0 k (by omega) (by omega)
        rw [List.drop_zero] at h
        rw [show ((0 : Nat) : Int) = 0 from rfl] at h
        rw [h]
        congr 1
        have : 1 ≤ n ∧ n ≤ 64 ∧ l.length ≤ 512 := by omega
        simp [graphOk, this]

theorem areEnds_f (n : Int) (l : List S39) (s t : Int) (k : Nat) (hk : 600 ≤ k) : flow_areEnds.f k n l s t = some (decide (endsOk n l s t)) := by
  unfold flow_areEnds.f
  rw [valid_f n l k hk, isNode_f, isNode_f]
  simp only [Option.bind_some]
  by_cases c1 : graphOk n l
  · rw [if_pos (by simpa using c1)]
    by_cases c2 : 0 ≤ s ∧ s < n
    · rw [if_pos (by simpa using c2)]
      by_cases c3 : 0 ≤ t ∧ t < n
      · rw [if_pos (by simpa using c3)]
        congr 1
        by_cases e : s = t <;> simp [endsOk, c1, c2, c3, e]
      · rw [if_neg (by simpa using c3)]; congr 1; symm; rw [decide_eq_false_iff_not]; intro h; exact c3 h.2.2.1
    · rw [if_neg (by simpa using c2)]; congr 1; symm; rw [decide_eq_false_iff_not]; intro h; exact c2 h.2.1
  · rw [if_neg (by simpa using c1)]; congr 1; symm; rw [decide_eq_false_iff_not]; intro h; exact c1 h.1

/-- Most, as a plain function. -/
def flow_Most.f (a0_0 : Int) (l0_1 : List S39) (a1 a2 : Int) : Option (Int × List Int × List Bool × Int) :=
  if endsOk a0_0 l0_1 a1 a2 then
    (FlowM.most a0_0.toNat (esOf l0_1) a1 a2 (FlowM.fuel (esOf l0_1)) (List.replicate l0_1.length 0) 0).map fun r => (r.1, r.2.1, r.2.2, 0)
  else some (0, [], [], 1)

theorem frF_of (l : List S39) (i : Nat) (h : i < l.length) : FlowM.frF (esOf l) i = (rd_T39 l (i : Int)).f0 ∧ FlowM.toF (esOf l) i = (rd_T39 l (i : Int)).f1 ∧ FlowM.capF (esOf l) i = (rd_T39 l (i : Int)).f2 := by
  unfold FlowM.frF FlowM.toF FlowM.capF rd_T39 esOf
  simp [List.getD_eq_getElem?_getD, h, eOf]

theorem rd_mem (l : List S39) (i : Nat) (h : i < l.length) : rd_T39 l (i : Int) ∈ l := by
  unfold rd_T39
  simp [List.getD_eq_getElem?_getD, h]

theorem ok_of {n : Int} {l : List S39} (h : graphOk n l) : FlowM.Ok n.toNat (esOf l) := by
  have hlen : (esOf l).length = l.length := by simp [esOf]
  have hn := h.1.1
  refine ⟨fun i hi => ?_, fun i hi => ?_⟩
  · rw [hlen] at hi
    obtain ⟨e1, e2, _⟩ := frF_of l i hi
    have := h.2 _ (rd_mem l i hi)
    rw [e1, e2]
    obtain ⟨⟨a, b⟩, ⟨c, d⟩, _⟩ := this
    omega
  · rw [hlen] at hi
    obtain ⟨_, _, e3⟩ := frF_of l i hi
    have := h.2 _ (rd_mem l i hi)
    rw [e3]
    exact ⟨this.2.2.1, this.2.2.2⟩

/-- What Most gives: a result that proves itself. -/
theorem most_good {n : Int} {l : List S39} {s t : Int} (h : endsOk n l s t) : ∃ a f S, flow_Most.f n l s t = some (a, f, S, 0) ∧ FlowM.Good n.toNat (esOf l) s t a f S := by
  have hn := h.1.1.1
  obtain ⟨a, f, S, e, g⟩ := FlowM.whole (ok_of h.1) (source := s) (sink := t) h.2.1.1 (by have := h.2.1.2; omega) h.2.2.1.1 (by have := h.2.2.1.2; omega) h.2.2.2
  have hlen : (esOf l).length = l.length := by simp [esOf]
  rw [hlen] at e
  exact ⟨a, f, S, by unfold flow_Most.f; rw [if_pos h, e]; rfl, g⟩

theorem most_bad {n : Int} {l : List S39} {s t : Int} (h : ¬ endsOk n l s t) : flow_Most.f n l s t = some (0, [], [], 1) := by
  unfold flow_Most.f; rw [if_neg h]
end Go.Proofs.Ytfjbbmgnfpeogaa.Pr
