import Derived.Test.YthoimnockinfbaaShValid
import Derived.Test.YthoimnockinfbaaShBs
import Derived.Test.YthoimnockinfbaaPr4
import Derived.Test.YthoimnockinfbaaPr5
set_option linter.unusedVariables false
set_option linter.unusedSimpArgs false
/-! The reference's validity and equality, told. -/
namespace Go.Proofs.Ythoimnockinfbaa.Pr
open Go.RowKit Go.Proofs.YthoimnockinfbaaW.PrintWords Go.Proofs.YthoimnockinfbaaW.PrintLast Go.Proofs.YthoimnockinfbaaW.PrintMore

theorem w_up (i : Nat) (h : i ≤ 1000) : wrap64 ((i : Int) + 1) = ((i + 1 : Nat) : Int) := by unfold wrap64; omega
theorem w_dn (i : Nat) (h : i ≤ 1000) (h0 : 0 < i) : wrap64 ((i : Int) - 1) = ((i - 1 : Nat) : Int) := by unfold wrap64; omega

theorem rval_l1 (h n : Int) (out : List S27) (inn : List Int) (hl : inn.length ≤ 100) : ∀ (d i k : Nat) (last : Int), i + d = inn.length → 2 * d + 1 ≤ k → 0 ≤ last → (i = 0 → last = 0) → (0 < i → last = rd inn ((i - 1 : Nat) : Int) ∧ 1 ≤ last) →
    chargeparkref20_Valid.l1 k (i : Int) h n out inn = some (incB 1000000 last (inn.drop i)) := by
  intro d
  induction d with
  | zero =>
    intro i k last hi hk _ _ _
    obtain ⟨k, rfl⟩ : ∃ m, k = m + 1 := ⟨k - 1, by omega⟩
    simp only [chargeparkref20_Valid.l1]
    rw [if_neg (by omega), List.drop_of_length_le (by omega)]
    rfl
  | succ d ih =>
    intro i k last hi hk h0 hz hp
    obtain ⟨k, rfl⟩ : ∃ m, k = m + 2 := ⟨k - 2, by omega⟩
    have hf : ∀ b : Bool, chargeparkref20_Valid.j4 (k + 1) (i : Int) b h n out inn = if b = true then some false else chargeparkref20_Valid.l1 k ((i + 1 : Nat) : Int) h n out inn := fun b => by
      simp only [chargeparkref20_Valid.j4]; rw [w_up i (by omega)]
    simp only [chargeparkref20_Valid.l1]
    rw [rd_dropI inn i (by omega), if_pos (by omega), if_pos (by omega)]
    have hih := ih (i + 1) k (rd inn (i : Int)) (by omega) (by omega)
    generalize hx : rd inn (i : Int) = x at *
    simp only [incB]
    by_cases c1 : x < 1
    · rw [if_pos c1, hf, if_pos rfl, if_pos (by omega)]
    · rw [if_neg c1]
      by_cases c2 : x > 1000000
      · rw [if_pos c2, hf, if_pos rfl]
        by_cases c3 : x ≤ last
        · rw [if_pos c3]
        · rw [if_neg c3, if_pos c2]
      · rw [if_neg c2]
        have hgo := hih (by omega) (fun e => by omega) (fun _ => ⟨by rw [Nat.add_sub_cancel]; exact hx.symm, by omega⟩)
        rcases Nat.eq_zero_or_pos i with hi0 | hi0
        · have := hz hi0
          rw [if_neg (by omega), hf, if_neg (by decide), hgo, if_neg (by omega), if_neg c2]
        · obtain ⟨hp1, hp2⟩ := hp hi0
          rw [if_pos (by omega), w_dn i (by omega) hi0, if_pos (by omega), if_pos (by omega), hf, ← hp1]
          by_cases c3 : x ≤ last
          · rw [if_pos (by simpa using c3), if_pos c3]
          · rw [if_neg (by simpa using c3), hgo, if_neg c3, if_neg c2]

theorem rTransfer_f (a b : Int) : chargeparkref20_Transfer.f a b = some (decide (trOk ⟨a, b⟩)) := by
  unfold chargeparkref20_Transfer.f
  by_cases h1 : a ≥ 1
  · rw [if_pos h1]
    by_cases h2 : a ≤ 1000000
    · rw [if_pos h2]
      by_cases h3 : b ≥ 1
      · rw [if_pos h3]; congr 1; rw [decide_eq_decide]; show b ≤ 1000 ↔ (1 ≤ a ∧ a ≤ 1000000) ∧ 1 ≤ b ∧ b ≤ 1000; omega
      · rw [if_neg h3]; congr 1; symm; rw [decide_eq_false_iff_not]; intro h; have := h.2.1; simp at this; omega
    · rw [if_neg h2]; congr 1; symm; rw [decide_eq_false_iff_not]; intro h; have := h.1.2; simp at this; omega
  · rw [if_neg h1]; congr 1; symm; rw [decide_eq_false_iff_not]; intro h; have := h.1.1; simp at this; omega

/-- Numbers that increase, of right transfers. -/
def trsB (most : Int) : Int → List S27 → Bool
  | _, [] => true
  | last, t :: l => if ¬ trOk t then false else if t.f0 ≤ last then false else if t.f0 > most then false else trsB most t.f0 l
theorem trsB_eq (most : Int) : ∀ (l : List S27) (last : Int), trsB most last l = if incB most last (l.map (·.f0)) = true then !l.any notTr else false
  | [], last => by simp [trsB, incB]
  | t :: l, last => by
    simp only [trsB, List.map_cons, incB, List.any_cons]
    by_cases c1 : t.f0 ≤ last
    · simp [c1]
    · by_cases c2 : t.f0 > most
      · have : ¬ t.f0 ≤ most := by omega
        simp [c1, this]
      · by_cases c3 : trOk t
        · rw [if_neg (by simpa using c3), if_neg c1, if_neg c2, if_neg c1, if_neg c2, trsB_eq most l t.f0]
          simp [notTr, c3]
        · rw [if_pos c3, if_neg c1, if_neg c2]
          simp [notTr, c3]

theorem rval_l0 (h n : Int) (out : List S27) (inn : List Int) (ho : out.length ≤ 100) (hl : inn.length ≤ 100) : ∀ (d i k : Nat) (last : Int), i + d = out.length → 2 * d + 2 * inn.length + 2 ≤ k → 0 ≤ last → (i = 0 → last = 0) → (0 < i → last = (rd_T27 out ((i - 1 : Nat) : Int)).f0) →
    chargeparkref20_Valid.l0 k (i : Int) h n out inn = some (if trsB (n - 1) last (out.drop i) = true then incB 1000000 0 inn else false) := by
  intro d
  induction d with
  | zero =>
    intro i k last hi hk _ _ _
    obtain ⟨k, rfl⟩ : ∃ m, k = m + 1 := ⟨k - 1, by omega⟩
    simp only [chargeparkref20_Valid.l0]
    rw [if_neg (by omega), List.drop_of_length_le (by omega)]
    have := rval_l1 h n out inn hl inn.length 0 k 0 (by omega) (by omega) (by omega) (fun _ => rfl) (fun h => absurd h (by omega))
    rw [List.drop_zero] at this
    simpa [trsB] using this
  | succ d ih =>
    intro i k last hi hk h0 hz hp
    obtain ⟨k, rfl⟩ : ∃ m, k = m + 2 := ⟨k - 2, by omega⟩
    have hf : ∀ b : Bool, chargeparkref20_Valid.j2 (k + 1) (i : Int) b h n out inn = if b = true then some false else chargeparkref20_Valid.l0 k ((i + 1 : Nat) : Int) h n out inn := fun b => by
      simp only [chargeparkref20_Valid.j2]; rw [w_up i (by omega)]
    simp only [chargeparkref20_Valid.l0]
    rw [rd_dropT out i (by omega), if_pos (by omega), if_pos (by omega), rTransfer_f]
    have hih := ih (i + 1) k (rd_T27 out (i : Int)).f0 (by omega) (by omega)
    generalize hx : rd_T27 out (i : Int) = x at *
    simp only [Option.bind_some]
    by_cases c1 : trOk x
    · have c1' := c1.1.1
      have e1 : trsB (n - 1) last (x :: out.drop (i + 1)) = if x.f0 ≤ last then false else if x.f0 > n - 1 then false else trsB (n - 1) x.f0 (out.drop (i + 1)) := by
        simp only [trsB]; rw [if_neg (by simpa using c1)]
      rw [e1, if_pos (by simpa using c1)]
      by_cases c2 : x.f0 ≥ n
      · have c2' : x.f0 > n - 1 := by omega
        rw [if_pos c2, hf, if_pos rfl]
        by_cases c3 : x.f0 ≤ last
        · simp [c3]
        · rw [if_neg c3, if_pos c2']; simp
      · have c2' : ¬ x.f0 > n - 1 := by omega
        rw [if_neg c2]
        have hgo := hih (by omega) (fun e => by omega) (fun _ => by rw [Nat.add_sub_cancel, hx])
        rcases Nat.eq_zero_or_pos i with hi0 | hi0
        · have := hz hi0
          have c3 : ¬ x.f0 ≤ last := by omega
          rw [if_neg (by omega), hf, if_neg (by decide), hgo, if_neg c3, if_neg c2']
        · have hp1 := hp hi0
          rw [if_pos (by omega), w_dn i (by omega) hi0, if_pos (by omega), if_pos (by omega), hf, ← hp1]
          by_cases c3 : x.f0 ≤ last
          · rw [if_pos (by simpa using c3), if_pos c3]; simp
          · rw [if_neg (by simpa using c3), hgo, if_neg c3, if_neg c2']
    · have e1 : trsB (n - 1) last (x :: out.drop (i + 1)) = false := by
        simp only [trsB]; rw [if_pos c1]
      rw [e1, if_neg (by simpa using c1), hf, if_pos rfl]; simp

theorem rValid_f (h n : Int) (out : List S27) (inn : List Int) (ho : out.length ≤ 80) (hl : inn.length ≤ 80) (k : Nat) (hk : 400 ≤ k) : chargeparkref20_Valid.f k h n out inn = some (shOk h n out inn) := by
  obtain ⟨k, rfl⟩ : ∃ m, k = m + 1 := ⟨k - 1, by omega⟩
  unfold chargeparkref20_Valid.f
  have hj : ∀ b : Bool, chargeparkref20_Valid.j0 (k + 1) b h n out inn = if b = true then some false else chargeparkref20_Valid.l0 k 0 h n out inn := fun b => by simp only [chargeparkref20_Valid.j0]
  rw [hj, hj, if_pos rfl]
  have h0 := rval_l0 h n out inn (by omega) (by omega) out.length 0 k 0 (by omega) (by omega) (by omega) (fun _ => rfl) (fun h => absurd h (by omega))
  rw [List.drop_zero, show ((0 : Nat) : Int) = 0 from rfl] at h0
  rw [h0, trsB_eq]
  unfold shOk ordB
  by_cases c1 : h < 0
  · rw [if_pos c1, if_neg (by omega)]
  · rw [if_neg c1]
    by_cases c2 : h > 1000
    · rw [if_pos c2, if_neg (by omega)]
    · rw [if_neg c2]
      by_cases c3 : n < 1
      · rw [if_pos c3, if_neg (by omega)]
      · rw [if_neg c3]
        by_cases c4 : n > 1000001
        · rw [if_pos c4, if_neg (by omega)]
        · have hb : (0 ≤ h ∧ h ≤ 1000) ∧ 1 ≤ n ∧ n ≤ 1000001 := by omega
          rw [if_neg c4, if_pos hb]
          by_cases c5 : (out.length : Int) > 64
          · have : ¬ out.length ≤ 64 := by omega
            rw [if_pos c5]; simp [this]
          · have h5 : out.length ≤ 64 := by omega
            rw [if_neg c5]
            by_cases c6 : (inn.length : Int) > 64
            · have : ¬ inn.length ≤ 64 := by omega
              rw [if_pos (by simpa using c6)]; simp [this]
            · have h6 : inn.length ≤ 64 := by omega
              rw [if_neg (by simpa using c6)]
              congr 1
              cases incB (n - 1) 0 (out.map (·.f0)) <;> cases incB 1000000 0 inn <;> cases out.any notTr <;> simp [h5, h6]

theorem rSame_l1 (a b a' b' : Int) (l2 m2 : List S27) (l3 : List Int) (hl : l3.length ≤ 1000) : ∀ (d i k : Nat), i + d = l3.length → d + 1 ≤ k → chargeparkref20_Same.l1 k (i : Int) a b l2 l3 a' b' m2 l3 = some true := by
  intro d
  induction d with
  | zero =>
    intro i k hi hk
    obtain ⟨k, rfl⟩ : ∃ m, k = m + 1 := ⟨k - 1, by omega⟩
    simp only [chargeparkref20_Same.l1]
    rw [if_neg (by omega)]
  | succ d ih =>
    intro i k hi hk
    obtain ⟨k, rfl⟩ : ∃ m, k = m + 1 := ⟨k - 1, by omega⟩
    simp only [chargeparkref20_Same.l1]
    rw [if_pos (by omega), if_pos (by omega), if_pos (by omega), w_up i (by omega), if_true]
    exact ih (i + 1) k (by omega) (by omega)
theorem rSame_l0 (a b a' b' : Int) (l2 : List S27) (l3 : List Int) (hl2 : l2.length ≤ 1000) (hl : l3.length ≤ 1000) : ∀ (d i k : Nat), i + d = l2.length → d + l3.length + 2 ≤ k → chargeparkref20_Same.l0 k (i : Int) a b l2 l3 a' b' l2 l3 = some true := by
  intro d
  induction d with
  | zero =>
    intro i k hi hk
    obtain ⟨k, rfl⟩ : ∃ m, k = m + 1 := ⟨k - 1, by omega⟩
    simp only [chargeparkref20_Same.l0]
    rw [if_neg (by omega)]
    exact rSame_l1 a b a' b' l2 l2 l3 hl l3.length 0 k (by omega) (by omega)
  | succ d ih =>
    intro i k hi hk
    obtain ⟨k, rfl⟩ : ∃ m, k = m + 1 := ⟨k - 1, by omega⟩
    simp only [chargeparkref20_Same.l0]
    rw [if_pos (by omega), if_pos (by omega), if_pos (by omega), if_neg (by simp), w_up i (by omega)]
    exact ih (i + 1) k (by omega) (by omega)
/-- A share is the same as itself. -/
theorem rSame_f (a b : Int) (l2 : List S27) (l3 : List Int) (hl2 : l2.length ≤ 1000) (hl : l3.length ≤ 1000) (k : Nat) (hk : l2.length + l3.length + 3 ≤ k) : chargeparkref20_Same.f k a b l2 l3 a b l2 l3 = some true := by
  obtain ⟨k, rfl⟩ : ∃ m, k = m + 1 := ⟨k - 1, by omega⟩
  unfold chargeparkref20_Same.f
  rw [if_pos rfl, if_pos rfl, if_pos rfl]
  simp only [chargeparkref20_Same.j0]
  rw [if_neg (by simp)]
  exact rSame_l0 a b a b l2 l3 hl2 hl l2.length 0 k (by omega) (by omega)
theorem few_f (a b : Int) (l2 : List S27) (l3 : List Int) : chargeparkref20_Few.f a b l2 l3 = some (decide (l2.length ≤ 80 ∧ l3.length ≤ 80)) := by
  unfold chargeparkref20_Few.f
  by_cases h : (l2.length : Int) ≤ 80
  · rw [if_pos h]; congr 1; rw [decide_eq_decide]; omega
  · rw [if_neg h]; congr 1; symm; rw [decide_eq_false_iff_not]; omega
end Go.Proofs.Ythoimnockinfbaa.Pr
