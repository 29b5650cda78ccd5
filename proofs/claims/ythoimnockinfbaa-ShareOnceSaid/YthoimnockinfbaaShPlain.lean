import Derived.Test.YthoimnockinfbaaShAcked
set_option linter.unusedVariables false
set_option linter.unusedSimpArgs false
/-! What the functions of share do, in plain words. -/
namespace Go.Proofs.Ythoimnockinfbaa.Pr
open Go.RowKit Go.Proofs.YthoimnockinfbaaW.PrintWords Go.Proofs.YthoimnockinfbaaW.PrintLast Go.Proofs.YthoimnockinfbaaW.PrintMore

theorem incB_cons {m last x : Int} {l : List Int} : incB m last (x :: l) = true ↔ last < x ∧ x ≤ m ∧ incB m x l = true := by
  simp only [incB]
  by_cases c1 : x ≤ last
  · rw [if_pos c1]; constructor
    · intro h; cases h
    · intro h; omega
  · rw [if_neg c1]
    by_cases c2 : x > m
    · rw [if_pos c2]; constructor
      · intro h; cases h
      · intro h; omega
    · rw [if_neg c2]; constructor
      · intro h; exact ⟨by omega, by omega, h⟩
      · intro h; exact h.2.2
theorem incB_weaken {m : Int} : ∀ {l : List Int} {last last' : Int}, last' ≤ last → incB m last l = true → incB m last' l = true
  | [], _, _, _, _ => rfl
  | x :: l, last, last', h, hi => by
    rw [incB_cons] at hi ⊢
    exact ⟨by omega, hi.2.1, hi.2.2⟩
theorem incB_above {m : Int} : ∀ {l : List Int} {last : Int}, incB m last l = true → ∀ x ∈ l, last < x ∧ x ≤ m
  | [], _, _, x, hx => by cases hx
  | y :: l, last, h, x, hx => by
    rw [incB_cons] at h
    rcases List.mem_cons.1 hx with rfl | hx
    · exact ⟨h.1, h.2.1⟩
    · have := incB_above h.2.2 x hx; omega
theorem incB_filter {m : Int} (q : S27 → Bool) : ∀ {l : List S27} {last : Int}, incB m last (l.map (·.f0)) = true → incB m last ((l.filter q).map (·.f0)) = true
  | [], _, _ => rfl
  | x :: l, last, h => by
    rw [List.map_cons, incB_cons] at h
    have ih := incB_filter q h.2.2
    by_cases hq : q x = true
    · rw [List.filter_cons_of_pos hq, List.map_cons, incB_cons]
      exact ⟨h.1, h.2.1, ih⟩
    · rw [List.filter_cons_of_neg hq]
      exact incB_weaken (by omega) ih
theorem incB_append {m : Int} : ∀ {l : List Int} {last x : Int}, incB m last l = true → last < x → (∀ y ∈ l, y < x) → x ≤ m → incB m last (l ++ [x]) = true
  | [], last, x, _, h1, _, h3 => by
    rw [List.nil_append, incB_cons]
    exact ⟨h1, h3, rfl⟩
  | y :: l, last, x, h, h1, h2, h3 => by
    rw [incB_cons] at h
    rw [List.cons_append, incB_cons]
    exact ⟨h.1, h.2.1, incB_append h.2.2 (h2 y (by simp)) (fun z hz => h2 z (by simp [hz])) h3⟩
theorem incB_most {m m' : Int} : ∀ {l : List Int} {last : Int}, m ≤ m' → incB m last l = true → incB m' last l = true
  | [], _, _, _ => rfl
  | x :: l, last, h, hi => by
    rw [incB_cons] at hi ⊢
    exact ⟨hi.1, by omega, incB_most h hi.2.2⟩

theorem ordB_iff {m : Int} {l : List Int} : ordB m l = true ↔ incB m 0 l = true ∧ l.length ≤ 64 := by
  unfold ordB
  by_cases h : incB m 0 l = true
  · rw [if_pos h]; simp [h]
  · rw [if_neg h]; simp [h]
/-- What a share is, as a proposition. -/
theorem shOk_iff {a0 a1 : Int} {l2 : List S27} {l3 : List Int} : shOk a0 a1 l2 l3 = true ↔ ((0 ≤ a0 ∧ a0 ≤ 1000) ∧ (1 ≤ a1 ∧ a1 ≤ 1000001)) ∧ (incB (a1 - 1) 0 (l2.map (·.f0)) = true ∧ l2.length ≤ 64) ∧ (incB 1000000 0 l3 = true ∧ l3.length ≤ 64) ∧ ∀ t ∈ l2, trOk t := by
  constructor
  · intro h
    obtain ⟨h1, h2, h3, h4⟩ := shOk_bounds h
    rw [ordB_iff] at h2 h3
    refine ⟨h1, ⟨h2.1, by simpa using h2.2⟩, h3, fun t ht => ?_⟩
    have := List.any_eq_false.1 h4 t ht
    simpa [notTr] using this
  · rintro ⟨h1, h2, h3, h4⟩
    unfold shOk
    rw [if_pos h1, if_pos (ordB_iff.2 ⟨h2.1, by simpa using h2.2⟩), if_pos (ordB_iff.2 h3)]
    have : l2.any notTr = false := List.any_eq_false.2 (fun t ht => by simp [notTr, h4 t ht])
    rw [this]; rfl

theorem idxFrom_none {α : Type} (p : α → Bool) : ∀ (l : List α) (i : Nat), idxFrom p i l < 0 ↔ ∀ x ∈ l, p x = false
  | [], i => by simp [idxFrom]
  | x :: l, i => by
    simp only [idxFrom]
    by_cases h : p x = true
    · rw [if_pos h]
      constructor
      · intro hh; omega
      · intro hh; have := hh x (by simp); rw [this] at h; cases h
    · rw [if_neg h, idxFrom_none p l (i + 1)]
      constructor
      · intro hh y hy
        rcases List.mem_cons.1 hy with rfl | hy
        · simpa using h
        · exact hh y hy
      · intro hh y hy; exact hh y (by simp [hy])
theorem idxFrom_shift {α : Type} (p : α → Bool) : ∀ (l : List α) (i : Nat), ¬ idxFrom p i l < 0 → idxFrom p (i + 1) l = idxFrom p i l + 1
  | [], i, h => by simp [idxFrom] at h
  | x :: l, i, h => by
    simp only [idxFrom] at h ⊢
    by_cases hp : p x = true
    · rw [if_pos hp, if_pos hp]; omega
    · rw [if_neg hp] at h
      rw [if_neg hp, if_neg hp]
      exact idxFrom_shift p l (i + 1) h
theorem idxFrom_neg {α : Type} (p : α → Bool) : ∀ (l : List α) (i j : Nat), idxFrom p i l < 0 ↔ idxFrom p j l < 0 := fun l i j => by rw [idxFrom_none, idxFrom_none]
theorem filter_all {α : Type} (q : α → Bool) (l : List α) : (l.filter q).length = l.length ↔ ∀ x ∈ l, q x = true := by
  rw [List.length_filter_eq_length_iff]

/-- The transfer with a number is left out. -/
theorem erase_filter (m n : Int) : ∀ (l : List S27) (last : Int), incB m last (l.map (·.f0)) = true → ¬ idxFrom (isNum n) 0 l < 0 → l.eraseIdx (idxFrom (isNum n) 0 l).toNat = l.filter (fun t => !isNum n t)
  | [], _, _, h => by simp [idxFrom] at h
  | x :: l, last, hi, h => by
    rw [List.map_cons, incB_cons] at hi
    simp only [idxFrom] at h ⊢
    by_cases hp : isNum n x = true
    · rw [if_pos hp]
      have hx : x.f0 = n := by simpa [isNum] using hp
      rw [List.filter_cons_of_neg (by simp [hp])]
      simp only [Int.toNat_natCast, List.eraseIdx_cons_zero]
      symm
      rw [List.filter_eq_self]
      intro t ht
      have := (incB_above hi.2.2 t.f0 (List.mem_map_of_mem ht)).1
      simp only [isNum, Bool.not_eq_true', beq_eq_false_iff_ne]
      omega
    · rw [if_neg hp] at h ⊢
      have h0 : ¬ idxFrom (isNum n) 0 l < 0 := by rw [idxFrom_neg _ l 0 1]; exact h
      rw [idxFrom_shift _ _ _ h0, List.filter_cons_of_pos (by simpa using hp), ← erase_filter m n l x.f0 hi.2.2 h0]
      rw [show (idxFrom (isNum n) 0 l + 1).toNat = (idxFrom (isNum n) 0 l).toNat + 1 by omega, List.eraseIdx_cons_succ]

theorem shOk_filter {a0 a1 : Int} {l2 : List S27} {l3 : List Int} (q : S27 → Bool) (h : shOk a0 a1 l2 l3 = true) : shOk a0 a1 (l2.filter q) l3 = true := by
  rw [shOk_iff] at h ⊢
  obtain ⟨h1, h2, h3, h4⟩ := h
  exact ⟨h1, ⟨incB_filter q h2.1, Nat.le_trans (List.length_filter_le _ _) h2.2⟩, h3, fun t ht => h4 t ((List.mem_filter.1 ht).1)⟩
/-- What Acked gives of a share. -/
theorem acked_says {a0 a1 : Int} {l2 : List S27} {l3 : List Int} (n : Int) (h : shOk a0 a1 l2 l3 = true) :
    share_Acked.f a0 a1 l2 l3 n = some (if ∀ t ∈ l2, isNum n t = false then (0, 0, [], [], 4) else (a0, a1, l2.filter (fun t => !isNum n t), l3, 0)) := by
  unfold share_Acked.f ackE
  rw [if_pos h]
  by_cases hn : idxFrom (isNum n) 0 l2 < 0
  · rw [if_pos hn, if_neg (by decide), if_pos ((idxFrom_none _ _ _).1 hn)]
  · rw [if_neg hn, if_pos rfl, if_neg (fun hh => hn ((idxFrom_none _ _ _).2 hh))]
    rw [erase_filter _ n l2 0 (shOk_iff.1 h).2.1.1 hn]
end Go.Proofs.Ythoimnockinfbaa.Pr
