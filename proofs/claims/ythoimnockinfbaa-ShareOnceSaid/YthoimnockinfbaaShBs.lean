import Derived.Test.YthoimnockinfbaaShOrd
set_option linter.unusedVariables false
set_option linter.unusedSimpArgs false
/-! slices.BinarySearch over increasing numbers. -/
namespace Go.Proofs.Ythoimnockinfbaa.Pr
open Go.RowKit Go.Proofs.YthoimnockinfbaaW.PrintWords Go.Proofs.YthoimnockinfbaaW.PrintLast Go.Proofs.YthoimnockinfbaaW.PrintMore

/-- Strictly increasing. -/
def Inc (l : List Int) : Prop := ∀ i j : Nat, i < j → j < l.length → rd l (i : Int) < rd l (j : Int)

theorem less_f (a b : Int) : cmp_Less_int.f a b = some (decide (a < b)) := by
  unfold cmp_Less_int.f cmp_isNaN_int.f
  simp

theorem u64_half (x y : Int) (hx : 0 ≤ x) (hy : 0 ≤ y) (hx2 : x ≤ 1000000) (hy2 : y ≤ 1000000) : wrap64 ((IntKind.u64.wrap (wrap64 (x + y))) / 2) = (x + y) / 2 := by
  have h1 : wrap64 (x + y) = x + y := by unfold wrap64; omega
  have h2 : IntKind.u64.wrap (x + y) = x + y := by simp [IntKind.wrap, IntKind.bits, IntKind.signed]; omega
  rw [h1, h2]
  unfold wrap64
  omega

theorem bs_loop (l : List Int) (a : Int) (hl : l.length ≤ 1000) (hinc : Inc l) : ∀ (d lo hi k : Nat), hi - lo ≤ d → d < k → lo ≤ hi → hi ≤ l.length → (∀ i : Nat, i < lo → rd l (i : Int) < a) → (∀ i : Nat, hi ≤ i → i < l.length → a ≤ rd l (i : Int)) →
    ∃ p : Nat, p ≤ l.length ∧ (∀ i : Nat, i < p → rd l (i : Int) < a) ∧ (∀ i : Nat, p ≤ i → i < l.length → a ≤ rd l (i : Int)) ∧
      slices_BinarySearch_int_int.l0 k l a (l.length : Int) (lo : Int) (hi : Int) = some ((p : Int), decide (p < l.length ∧ rd l (p : Int) = a)) := by
  intro d
  induction d with
  | zero =>
    intro lo hi k hd hk h1 h2 hlo hhi
    obtain ⟨k, rfl⟩ : ∃ m, k = m + 1 := ⟨k - 1, by omega⟩
    have : lo = hi := by omega
    subst this
    refine ⟨lo, h2, hlo, hhi, ?_⟩
    simp only [slices_BinarySearch_int_int.l0]
    rw [if_neg (by omega)]
    by_cases hlt : lo < l.length
    · rw [if_pos (by omega), if_pos (by omega), if_pos (by omega)]
      by_cases he : rd l (lo : Int) = a
      · rw [if_pos he]; simp [hlt, he]
      · rw [if_neg he]; simp [slices_isNaN_int.f, he]
    · rw [if_neg (by omega)]; simp [hlt]
  | succ d ih =>
    intro lo hi k hd hk h1 h2 hlo hhi
    obtain ⟨k, rfl⟩ : ∃ m, k = m + 1 := ⟨k - 1, by omega⟩
    by_cases hlt : lo < hi
    · simp only [slices_BinarySearch_int_int.l0]
      rw [if_pos (by omega), u64_half _ _ (by omega) (by omega) (by omega) (by omega)]
      obtain ⟨m, hm⟩ : ∃ m : Nat, (lo + hi) / 2 = m := ⟨_, rfl⟩
      have hm1 : ((lo : Int) + (hi : Int)) / 2 = (m : Int) := by omega
      rw [hm1, if_pos (by omega), if_pos (by omega), less_f]
      simp only [Option.bind_some]
      have g1 : lo ≤ m := by omega
      have g2 : m < hi := by omega
      have g3 : hi - (m + 1) ≤ d := by omega
      have g4 : m - lo ≤ d := by omega
      have g5 : d < k := by omega
      have g6 : m ≤ l.length := by omega
      have g7 : m < l.length := by omega
      clear hm hm1
      by_cases hc : rd l (m : Int) < a
      · rw [if_pos (by simpa using hc)]
        have hw : wrap64 ((m : Int) + 1) = ((m + 1 : Nat) : Int) := by unfold wrap64; omega
        rw [hw]
        clear hw
        refine ih (m + 1) hi k g3 g5 g2 h2 (fun i hi' => ?_) hhi
        rcases Nat.lt_or_ge i m with h | h
        · have := hinc i m h g7; omega
        · obtain rfl : i = m := by omega
          exact hc
      · rw [if_neg (by simpa using hc)]
        refine ih lo m k g4 g5 g1 g6 hlo (fun i hi' hil => ?_)
        rcases Nat.lt_or_ge m i with h | h
        · have := hinc m i h hil; omega
        · obtain rfl : i = m := by omega
          omega
    · exact (by
        have : lo = hi := by omega
        subst this
        refine ⟨lo, h2, hlo, hhi, ?_⟩
        simp only [slices_BinarySearch_int_int.l0]
        rw [if_neg (by omega)]
        by_cases hlt : lo < l.length
        · rw [if_pos (by omega), if_pos (by omega), if_pos (by omega)]
          by_cases he : rd l (lo : Int) = a
          · rw [if_pos he]; simp [hlt, he]
          · rw [if_neg he]; simp [slices_isNaN_int.f, he]
        · rw [if_neg (by omega)]; simp [hlt])

/-- The place of a number: how many are less. -/
def posOf (l : List Int) (a : Int) : Nat := (l.takeWhile (fun x => decide (x < a))).length
theorem posOf_eq (a : Int) : ∀ (l : List Int) (p : Nat), p ≤ l.length → (∀ i : Nat, i < p → rd l (i : Int) < a) → (∀ i : Nat, p ≤ i → i < l.length → a ≤ rd l (i : Int)) → posOf l a = p
  | [], p, h, _, _ => by simp at h; subst h; rfl
  | x :: l, 0, _, _, h2 => by
    have := h2 0 (by omega) (by simp)
    simp [rd] at this
    simp [posOf, List.takeWhile_cons]; omega
  | x :: l, p + 1, h, h1, h2 => by
    have h0 := h1 0 (by omega)
    simp [rd] at h0
    have e : ∀ i : Nat, rd (x :: l) ((i + 1 : Nat) : Int) = rd l (i : Int) := fun i => by simp [rd]
    have := posOf_eq a l p (by simpa using h) (fun i hi => by rw [← e]; exact h1 (i + 1) (by omega)) (fun i hi hil => by rw [← e]; exact h2 (i + 1) (by omega) (by simpa using hil))
    unfold posOf at this ⊢
    simp [List.takeWhile_cons, h0, this]

theorem inc_of_incB (most : Int) : ∀ (l : List Int) (last : Int), incB most last l = true → (∀ i : Nat, i < l.length → last < rd l (i : Int) ∧ rd l (i : Int) ≤ most) ∧ Inc l
  | [], _, _ => ⟨fun i h => by simp at h, fun i j _ h => by simp at h⟩
  | x :: l, last, h => by
    simp only [incB] at h
    by_cases c1 : x ≤ last
    · rw [if_pos c1] at h; cases h
    · rw [if_neg c1] at h
      by_cases c2 : x > most
      · rw [if_pos c2] at h; cases h
      · rw [if_neg c2] at h
        obtain ⟨h1, h2⟩ := inc_of_incB most l x h
        have e : ∀ i : Nat, rd (x :: l) ((i + 1 : Nat) : Int) = rd l (i : Int) := fun i => by simp [rd]
        have e0 : rd (x :: l) ((0 : Nat) : Int) = x := by simp [rd]
        refine ⟨fun i hi => ?_, fun i j hij hj => ?_⟩
        · cases i with
          | zero => rw [e0]; omega
          | succ i => rw [e]; have := h1 i (by simpa using hi); omega
        · cases j with
          | zero => omega
          | succ j =>
            rw [e]
            cases i with
            | zero => rw [e0]; exact (h1 j (by simpa using hj)).1
            | succ i => rw [e]; exact h2 i j (by omega) (by simpa using hj)

/-- BinarySearch, told. -/
theorem bs_f (l : List Int) (a : Int) (hl : l.length ≤ 1000) (hinc : Inc l) :
    slices_BinarySearch_int_int.f (l.length + 1) l a = some ((posOf l a : Int), decide (a ∈ l)) ∧ posOf l a ≤ l.length := by
  obtain ⟨p, h1, h2, h3, h4⟩ := bs_loop l a hl hinc l.length 0 l.length (l.length + 1) (by omega) (by omega) (by omega) (Nat.le_refl _) (fun i h => by omega) (fun i h1 h2 => by omega)
  have hp := posOf_eq a l p h1 h2 h3
  refine ⟨?_, by rw [hp]; exact h1⟩
  unfold slices_BinarySearch_int_int.f
  rw [show ((0 : Nat) : Int) = 0 from rfl] at h4
  rw [h4, hp]
  congr 2
  rw [decide_eq_decide]
  constructor
  · rintro ⟨h5, h6⟩
    rw [← h6]
    simp [rd, List.getD_eq_getElem?_getD, h5]
  · intro hm
    obtain ⟨i, hi, he⟩ := List.getElem_of_mem hm
    have hr : rd l (i : Int) = a := by simp [rd, List.getD_eq_getElem?_getD, hi, he]
    have hpi : p ≤ i := by
      rcases Nat.lt_or_ge i p with h | h
      · have := h2 i h; omega
      · exact h
    rcases Nat.lt_or_ge p i with h | h
    · have := hinc p i h hi; have := h3 p (Nat.le_refl _) (by omega); omega
    · obtain rfl : i = p := by omega
      exact ⟨hi, hr⟩
end Go.Proofs.Ythoimnockinfbaa.Pr
