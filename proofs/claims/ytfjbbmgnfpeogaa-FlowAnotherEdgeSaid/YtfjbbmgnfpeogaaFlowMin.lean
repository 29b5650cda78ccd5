import Derived.Test.YtfjbbmgnfpeogaaFlowHead
/-! Most's amount is the least capacity of a cut. -/
namespace Go.Proofs.Ytfjbbmgnfpeogaa.Pr
open Go.RowKit Go.Proofs.YtfjbbmgnfpeogaaW.PrintWords Go.Proofs.YtfjbbmgnfpeogaaW.PrintLast Go.Proofs.YtfjbbmgnfpeogaaW.PrintMore
open Go.Proofs.Ytfjbbmgnfpeogaa.FlowTheory

/-- What an edge adds to a side's capacity. -/
def capE (S : List Bool) (e : S39) : Int := if FlowM.sees S e.f0 = true ∧ FlowM.sees S e.f1 = false then e.f2 else 0
def sumI : List Int → Int
  | [] => 0
  | x :: l => x + sumI l
theorem sumI_append (a b : List Int) : sumI (a ++ b) = sumI a + sumI b := by
  induction a with
  | nil => simp [sumI]
  | cons x a ih => simp only [List.cons_append, sumI, ih]; omega
theorem sumI_perm {a b : List Int} (h : a.Perm b) : sumI a = sumI b := by
  induction h with
  | nil => rfl
  | cons x _ ih => simp only [sumI, ih]
  | swap x y l => simp only [sumI]; omega
  | trans _ _ h1 h2 => exact h1.trans h2
def capL (S : List Bool) (l : List S39) : Int := sumI (l.map (capE S))
theorem capL_append (S : List Bool) (a b : List S39) : capL S (a ++ b) = capL S a + capL S b := by simp [capL, sumI_append]
theorem capL_cons (S : List Bool) (x : S39) (b : List S39) : capL S (x :: b) = capE S x + capL S b := rfl

theorem tcap_take (l : List S39) (S : List Bool) : ∀ i : Nat, i ≤ l.length → tcap l S i = capL S (l.take i)
  | 0, _ => by simp [tcap, capOf, sumN, capL, sumI]
  | i + 1, h => by
    have h1 : l.take (i + 1) = l.take i ++ [rd_T39 l (i : Int)] := by
      rw [List.take_add_one, List.getElem?_eq_getElem (by omega)]
      simp [rd_T39, List.getD_eq_getElem?_getD, show i < l.length by omega]
    rw [tcap_succ l S i (by omega), tcap_take l S i (by omega), h1, capL_append]
    simp [capL, sumI, capE]
theorem tcap_all (l : List S39) (S : List Bool) : tcap l S l.length = capL S l := by rw [tcap_take l S _ (Nat.le_refl _), List.take_length]

/-- An amount is the least capacity. -/
structure Least (n : Nat) (l : List S39) (s t a : Int) : Prop where
  cut : ∃ S, cutOk n s t S ∧ capL S l = a
  le : ∀ S, cutOk n s t S → a ≤ capL S l

theorem weak_f {n : Int} {l : List S39} {s t : Int} (h : endsOk n l s t) {fl : List Int} {S : List Bool} (hf : flowOk n.toNat l s t fl) (hc : cutOk n.toNat s t S) : tnet l fl l.length s ≤ tcap l S l.length := by
  have hlen : (esOf l).length = l.length := by simp [esOf]
  have hn := h.1.1.1
  have w := weak (ok_of h.1).ends (flow_of.1 hf).2 (S := FlowM.sees S) ⟨hc.2.1, hc.2.2⟩ h.2.1.1 (by have := h.2.1.2; omega)
  rw [hlen] at w
  exact w

theorem most_least {n : Int} {l : List S39} {s t : Int} (h : endsOk n l s t) : ∃ a f S, flow_Most.f n l s t = some (a, f, S, 0) ∧ Proves n.toNat l s t a f S ∧ Least n.toNat l s t a := by
  obtain ⟨a, f, S, e, P, _⟩ := most_proves h
  refine ⟨a, f, S, e, P, ⟨S, P.cut, by rw [← tcap_all, P.cap]⟩, fun S' hS' => ?_⟩
  rw [← tcap_all, ← P.amount]
  exact weak_f h P.flow hS'

theorem Least.eq {n : Nat} {l l' : List S39} {s t a a' : Int} (h : Least n l s t a) (h' : Least n l' s t a') (e : ∀ S, cutOk n s t S → capL S l = capL S l') : a = a' := by
  obtain ⟨S, hS, hc⟩ := h.cut
  obtain ⟨S', hS', hc'⟩ := h'.cut
  have h1 := h.le S' hS'
  have h2 := h'.le S hS
  rw [e S' hS'] at h1
  rw [← e S hS] at h2
  omega
end Go.Proofs.Ytfjbbmgnfpeogaa.Pr
