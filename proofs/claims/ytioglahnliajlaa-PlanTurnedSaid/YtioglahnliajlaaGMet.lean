import Derived.Test.YtioglahnliajlaaPr7
import Derived.Test.YtioglahnliajlaaPr8
import Derived.Test.YtioglahnliajlaaGLaw
import Derived.Test.YtioglahnliajlaaPr5
import Derived.Test.YtioglahnliajlaaPr6
set_option linter.unusedVariables false
set_option linter.unusedSimpArgs false

/-! The reference's check of jobs and a supply; Few. -/
namespace Go.Proofs.Ytioglahnliajlaa.Pr
open Go.RowKit Go.Proofs.YtioglahnliajlaaW.PrintWords Go.Proofs.YtioglahnliajlaaW.PrintLast Go.Proofs.YtioglahnliajlaaW.PrintMore
open Go.Proofs.Ytioglahnliajlaa.FlowTheory Go.Proofs.Ytioglahnliajlaa.PlanTheory

theorem w64' {x : Int} (h0 : -9223372036854775808 ≤ x) (h1 : x ≤ 9223372036854775807) : wrap64 x = x := by unfold wrap64; omega

theorem rjob_f (n : Nat) (j : S38) : chargeparkref27_Job.f j.f0 j.f1 j.f2 j.f3 j.f4 (n : Int) = some (decide (jobOk n j)) := by
  unfold chargeparkref27_Job.f
  have no : ¬ jobOk n j → (some false : Option Bool) = some (decide (jobOk n j)) := fun h => by rw [decide_eq_false h]
  split
  · split
    · split
      · split
        · split
          · split
            · split
              · split
                · congr 1
                  rw [decide_eq_decide]
                  unfold jobOk
                  omega
                · exact no (by unfold jobOk; omega)
              · exact no (by unfold jobOk; omega)
            · exact no (by unfold jobOk; omega)
          · exact no (by unfold jobOk; omega)
        · exact no (by unfold jobOk; omega)
      · exact no (by unfold jobOk; omega)
    · exact no (by unfold jobOk; omega)
  · exact no (by unfold jobOk; omega)

theorem rvalid_l1 (jobs : List S38) (sup : List Int) (hj : jobs.length ≤ 12) : ∀ (d i k : Nat), i + d = jobs.length → d + 1 ≤ k →
    chargeparkref27_Valid.l1 k jobs sup (i : Int) = some (decide (∀ j ∈ jobs.drop i, jobOk sup.length j)) := by
  intro d
  induction d with
  | zero =>
    intro i k hi hk
    obtain ⟨k, rfl⟩ : ∃ m, k = m + 1 := ⟨k - 1, by omega⟩
    simp only [chargeparkref27_Valid.l1]
    rw [if_neg (by omega), List.drop_of_length_le (by omega)]
    simp
  | succ d ih =>
    intro i k hi hk
    obtain ⟨k, rfl⟩ : ∃ m, k = m + 1 := ⟨k - 1, by omega⟩
    simp only [chargeparkref27_Valid.l1]
    rw [if_pos (by omega), if_pos (by omega), rjob_f, w64' (x := (i : Int) + 1) (by omega) (by omega), rd_dropJ jobs i (by omega)]
    have h := ih (i + 1) k (by omega) (by omega)
    rw [show ((i + 1 : Nat) : Int) = (i : Int) + 1 by omega] at h
    simp only [Option.bind_some]
    by_cases c : jobOk sup.length (rd_T38 jobs (i : Int))
    · rw [if_pos (decide_eq_true c), h]
      congr 1
      simp [c]
    · rw [if_neg (by simpa using c)]
      congr 1
      symm
      rw [decide_eq_false_iff_not]
      intro hh
      exact c (hh _ (by simp))

theorem rvalid_l0 (jobs : List S38) (sup : List Int) (hj : jobs.length ≤ 12) (hs : sup.length ≤ 24) : ∀ (d i k : Nat), i + d = sup.length → d + 20 ≤ k →
    chargeparkref27_Valid.l0 k jobs sup (i : Int) = some (decide ((∀ x ∈ sup.drop i, unitOk x) ∧ ∀ j ∈ jobs, jobOk sup.length j)) := by
  intro d
  induction d with
  | zero =>
    intro i k hi hk
    obtain ⟨k, rfl⟩ : ∃ m, k = m + 1 := ⟨k - 1, by omega⟩
    simp only [chargeparkref27_Valid.l0]
    have h := rvalid_l1 jobs sup hj jobs.length 0 k (by omega) (by omega)
    rw [if_neg (by omega), List.drop_of_length_le (show sup.length ≤ i by omega)]
    refine h.trans ?_
    congr 1
    simp
  | succ d ih =>
    intro i k hi hk
    obtain ⟨k, rfl⟩ : ∃ m, k = m + 1 := ⟨k - 1, by omega⟩
    simp only [chargeparkref27_Valid.l0]
    rw [if_pos (by omega), if_pos (by omega), w64' (x := (i : Int) + 1) (by omega) (by omega), rd_dropI sup i (by omega)]
    have h := ih (i + 1) k (by omega) (by omega)
    rw [show ((i + 1 : Nat) : Int) = (i : Int) + 1 by omega] at h
    have no : ¬ unitOk (rd sup (i : Int)) → ∀ inst : Decidable ((∀ x ∈ rd sup (i : Int) :: sup.drop (i + 1), unitOk x) ∧ ∀ j ∈ jobs, jobOk sup.length j), (some false : Option Bool) = some (@decide _ inst) := fun hn inst => by
      congr 1; symm; rw [decide_eq_false_iff_not]; intro hh; exact hn (hh.1 _ (by simp))
    split
    · exact no (fun hh => by unfold unitOk at hh; omega) _
    · split
      · exact no (fun hh => by unfold unitOk at hh; omega) _
      · rw [h]
        have : unitOk (rd sup (i : Int)) := by unfold unitOk; omega
        congr 1
        simp [this]

theorem rvalid_f (jobs : List S38) (sup : List Int) (k : Nat) (hk : 100 ≤ k) : chargeparkref27_Valid.f k jobs sup = some (decide (validOk jobs sup)) := by
  obtain ⟨k, rfl⟩ : ∃ m, k = m + 1 := ⟨k - 1, by omega⟩
  unfold chargeparkref27_Valid.f
  have no : ¬ (jobs.length ≤ 12 ∧ sup.length ≤ 24) → chargeparkref27_Valid.j0 (k + 1) jobs sup true = some (decide (validOk jobs sup)) := fun h => by
    simp only [chargeparkref27_Valid.j0, if_true]
    congr 1; symm; rw [decide_eq_false_iff_not]; intro hh; exact h hh.1
  by_cases c1 : (jobs.length : Int) > 12
  · rw [if_pos c1]; exact no (by omega)
  · rw [if_neg c1]
    by_cases c2 : (sup.length : Int) > 24
    · rw [decide_eq_true c2]; exact no (by omega)
    · rw [decide_eq_false c2]
      have h := rvalid_l0 jobs sup (by omega) (by omega) sup.length 0 k (by omega) (by omega)
      rw [List.drop_zero] at h
      simp only [chargeparkref27_Valid.j0, Bool.false_eq_true, if_false]
      refine h.trans ?_
      congr 1
      rw [decide_eq_decide]
      unfold validOk
      constructor
      · rintro ⟨a, b⟩; exact ⟨by omega, a, b⟩
      · rintro ⟨_, a, b⟩; exact ⟨a, b⟩

def fewOk (a b : Nat) (p : List (List Int)) (c d : Nat) : Prop := (∀ r ∈ p, r.length ≤ 50) ∧ a ≤ 30 ∧ b ≤ 50 ∧ p.length ≤ 30 ∧ c ≤ 50 ∧ d ≤ 50
instance (a b : Nat) (p : List (List Int)) (c d : Nat) : Decidable (fewOk a b p c d) := by unfold fewOk; infer_instance
theorem rfew_l0 (jobs : List S38) (sup : List Int) (p : List (List Int)) (c d : List Int) (hp : p.length ≤ 9223372036854775807) : ∀ (n i k : Nat), i + n = p.length → n + 1 ≤ k →
    chargeparkref27_Few.l0 k jobs sup p (i : Int) c d = some (decide ((∀ r ∈ p.drop i, r.length ≤ 50) ∧ jobs.length ≤ 30 ∧ sup.length ≤ 50 ∧ p.length ≤ 30 ∧ c.length ≤ 50 ∧ d.length ≤ 50)) := by
  intro n
  induction n with
  | zero =>
    intro i k hi hk
    obtain ⟨k, rfl⟩ : ∃ m, k = m + 1 := ⟨k - 1, by omega⟩
    simp only [chargeparkref27_Few.l0]
    rw [if_neg (by omega), List.drop_of_length_le (show p.length ≤ i by omega)]
    have no : ¬ (jobs.length ≤ 30 ∧ sup.length ≤ 50 ∧ p.length ≤ 30 ∧ c.length ≤ 50 ∧ d.length ≤ 50) → (some false : Option Bool) = some (decide ((∀ r ∈ ([] : List (List Int)), r.length ≤ 50) ∧ jobs.length ≤ 30 ∧ sup.length ≤ 50 ∧ p.length ≤ 30 ∧ c.length ≤ 50 ∧ d.length ≤ 50)) := fun h => by
      congr 1; symm; rw [decide_eq_false_iff_not]; exact fun hh => h hh.2
    split
    · split
      · split
        · split
          · congr 1
            rw [decide_eq_decide]
            constructor
            · intro h; exact ⟨by simp, by omega, by omega, by omega, by omega, by omega⟩
            · intro h; omega
          · exact no (by omega)
        · exact no (by omega)
      · exact no (by omega)
    · exact no (by omega)
  | succ n ih =>
    intro i k hi hk
    obtain ⟨k, rfl⟩ : ∃ m, k = m + 1 := ⟨k - 1, by omega⟩
    simp only [chargeparkref27_Few.l0]
    have hd : p.drop i = rd_L5 p (i : Int) :: p.drop (i + 1) := by
      rw [List.drop_eq_getElem_cons (show i < p.length by omega)]
      simp [rd_L5, List.getD_eq_getElem?_getD, show i < p.length by omega]
    rw [if_pos (by omega), if_pos (by omega), w64' (x := (i : Int) + 1) (by omega) (by omega)]
    have h := ih (i + 1) k (by omega) (by omega)
    rw [show ((i + 1 : Nat) : Int) = (i : Int) + 1 by omega] at h
    rw [hd]
    by_cases c1 : ((rd_L5 p (i : Int)).length : Int) > 50
    · rw [if_pos c1]
      congr 1; symm; rw [decide_eq_false_iff_not]; intro hh
      have := hh.1 (rd_L5 p (i : Int)) (by simp)
      omega
    · rw [if_neg c1, h]
      congr 1
      rw [decide_eq_decide]
      simp only [List.mem_cons, forall_eq_or_imp]
      constructor
      · rintro ⟨a, b⟩; exact ⟨⟨by omega, a⟩, b⟩
      · rintro ⟨⟨_, a⟩, b⟩; exact ⟨a, b⟩
theorem rfew_f (jobs : List S38) (sup : List Int) (p : List (List Int)) (c d : List Int) (hp : p.length ≤ 9223372036854775807) (k : Nat) (hk : p.length + 1 ≤ k) : chargeparkref27_Few.f k jobs sup p c d = some (decide (fewOk jobs.length sup.length p c.length d.length)) := by
  have := rfew_l0 jobs sup p c d hp p.length 0 k (by omega) hk
  rw [List.drop_zero] at this
  exact this
end Go.Proofs.Ytioglahnliajlaa.Pr

/-! What the laws ask of Schedule. -/
namespace Go.Proofs.Ytioglahnliajlaa.Pr
open Go.RowKit Go.Proofs.YtioglahnliajlaaW.PrintWords Go.Proofs.YtioglahnliajlaaW.PrintLast Go.Proofs.YtioglahnliajlaaW.PrintMore
open Go.Proofs.Ytioglahnliajlaa.FlowTheory Go.Proofs.Ytioglahnliajlaa.PlanTheory

theorem met_f {jobs : List S38} {sup : List Int} (hv : validOk jobs sup) : ∃ b, chargeparklaw27_met.f jobs sup = some (b, true) ∧ (b = true ↔ Can jobs sup) := by
  unfold chargeparklaw27_met.f
  rcases sched_says hv with ⟨p, e, h⟩ | ⟨cj, cs, e, h⟩
  · rw [e]
    refine ⟨true, ?_, by simp [plan_can h]⟩
    simp only [Option.bind_some, if_true]
    unfold plan_CheckPlan.f
    rw [h]
    rfl
  · rw [e]
    refine ⟨false, ?_, by simp [cut_cannot h]⟩
    simp only [Option.bind_some]
    rw [if_neg (by decide), if_pos trivial]
    unfold plan_CheckCut.f
    rw [h]
    rfl
/-- Two answers agree if both can or neither can. -/
theorem met_same {a b : Bool} {P Q : Prop} (h1 : a = true ↔ P) (h2 : b = true ↔ Q) (h : P ↔ Q) : a = b := by
  cases a <;> cases b <;> simp_all
end Go.Proofs.Ytioglahnliajlaa.Pr

/-! What all the laws begin with (its proof: fixhead27.py). -/
