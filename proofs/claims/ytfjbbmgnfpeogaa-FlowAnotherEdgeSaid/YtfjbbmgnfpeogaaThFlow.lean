/-! Sums, flows and cuts: plain facts, no program in sight. -/
namespace Go.Proofs.Ytfjbbmgnfpeogaa.FlowTheory

def sumN : Nat → (Nat → Int) → Int
  | 0, _ => 0
  | n + 1, g => sumN n g + g n

theorem sumN_congr {n : Nat} {f g : Nat → Int} (h : ∀ i, i < n → f i = g i) : sumN n f = sumN n g := by
  induction n with
  | zero => rfl
  | succ n ih => simp only [sumN]; rw [ih (fun i hi => h i (by omega)), h n (by omega)]

theorem sumN_le {n : Nat} {f g : Nat → Int} (h : ∀ i, i < n → f i ≤ g i) : sumN n f ≤ sumN n g := by
  induction n with
  | zero => exact Int.le_refl _
  | succ n ih => simp only [sumN]; have := ih (fun i hi => h i (by omega)); have := h n (by omega); omega

theorem sumN_add (n : Nat) (f g : Nat → Int) : sumN n (fun i => f i + g i) = sumN n f + sumN n g := by
  induction n with
  | zero => rfl
  | succ n ih => simp only [sumN]; omega

theorem sumN_sub (n : Nat) (f g : Nat → Int) : sumN n (fun i => f i - g i) = sumN n f - sumN n g := by
  induction n with
  | zero => rfl
  | succ n ih => simp only [sumN]; omega

theorem sumN_neg (n : Nat) (f : Nat → Int) : sumN n (fun i => - f i) = - sumN n f := by
  induction n with
  | zero => rfl
  | succ n ih => simp only [sumN]; omega

theorem sumN_zero {n : Nat} {f : Nat → Int} (h : ∀ i, i < n → f i = 0) : sumN n f = 0 := by
  induction n with
  | zero => rfl
  | succ n ih => simp only [sumN]; rw [ih (fun i hi => h i (by omega)), h n (by omega)]; rfl

theorem sumN_mul (n : Nat) (c : Int) (f : Nat → Int) : sumN n (fun i => c * f i) = c * sumN n f := by
  induction n with
  | zero => simp [sumN]
  | succ n ih => simp only [sumN]; rw [ih, Int.mul_add]

theorem sumN_nonneg {n : Nat} {f : Nat → Int} (h : ∀ i, i < n → 0 ≤ f i) : 0 ≤ sumN n f := by
  have := sumN_le (n := n) (f := fun _ => 0) (g := f) h
  rw [sumN_zero (fun _ _ => rfl)] at this
  exact this

theorem sumN_ite (n : Nat) (p : Prop) [Decidable p] (f : Nat → Int) : (if p then sumN n f else 0) = sumN n (fun i => if p then f i else 0) := by
  by_cases h : p
  · simp [h]
  · simp only [h, if_false]; exact (sumN_zero (fun _ _ => rfl)).symm

theorem sumN_comm (n m : Nat) (F : Nat → Nat → Int) : sumN n (fun i => sumN m (fun j => F i j)) = sumN m (fun j => sumN n (fun i => F i j)) := by
  induction n with
  | zero => simp only [sumN]; exact (sumN_zero (fun _ _ => rfl)).symm
  | succ n ih => simp only [sumN]; rw [ih, sumN_add]

theorem sumN_single {n : Nat} {a : Nat} (ha : a < n) (c : Int) : sumN n (fun v => if v = a then c else 0) = c := by
  induction n with
  | zero => omega
  | succ n ih =>
    simp only [sumN]
    by_cases h : n = a
    · subst h
      rw [sumN_zero (fun i hi => by simp [show i ≠ n by omega])]; simp
    · rw [ih (by omega)]; simp [h]

/-- What leaves node v, less what comes in. -/
def net (m : Nat) (fr to f : Nat → Int) (v : Int) : Int :=
  sumN m (fun i => (if fr i = v then f i else 0) - (if to i = v then f i else 0))

/-- What crosses from a side, less what comes back. -/
def cross (m : Nat) (fr to f : Nat → Int) (S : Int → Bool) : Int :=
  sumN m (fun i => (if S (fr i) = true then f i else 0) - (if S (to i) = true then f i else 0))

def capOf (m : Nat) (fr to cap : Nat → Int) (S : Int → Bool) : Int :=
  sumN m (fun i => if S (fr i) = true ∧ S (to i) = false then cap i else 0)

/-- Ends in range. -/
def Ends (m N : Nat) (fr to : Nat → Int) : Prop := ∀ i, i < m → 0 ≤ fr i ∧ fr i < N ∧ 0 ≤ to i ∧ to i < N

structure IsFlow (m N : Nat) (fr to cap : Nat → Int) (s t : Int) (f : Nat → Int) : Prop where
  lo : ∀ i, i < m → 0 ≤ f i
  hi : ∀ i, i < m → f i ≤ cap i
  keep : ∀ v : Int, 0 ≤ v → v < N → v ≠ s → v ≠ t → net m fr to f v = 0

structure IsCut (s t : Int) (S : Int → Bool) : Prop where
  src : S s = true
  snk : S t = false

theorem pick {N : Nat} (S : Int → Bool) (a c : Int) (h0 : 0 ≤ a) (h1 : a < N) :
    sumN N (fun v => if S (v : Int) = true then (if a = (v : Int) then c else 0) else 0) = if S a = true then c else 0 := by
  obtain ⟨k, rfl⟩ := Int.eq_ofNat_of_zero_le h0
  rw [← sumN_single (n := N) (a := k) (by omega) (if S (k : Int) = true then c else 0)]
  refine sumN_congr fun v _ => ?_
  by_cases e : v = k
  · subst e; simp
  · have : ¬ ((k : Int) = (v : Int)) := by omega
    simp [e, this]

theorem net_sum {m N : Nat} {fr to : Nat → Int} (he : Ends m N fr to) (f : Nat → Int) (S : Int → Bool) :
    sumN N (fun v => if S (v : Int) = true then net m fr to f v else 0) = cross m fr to f S := by
  unfold net cross
  rw [sumN_congr (fun v _ => sumN_ite m (S (v : Int) = true) _), sumN_comm]
  refine sumN_congr fun i hi => ?_
  obtain ⟨a0, a1, b0, b1⟩ := he i hi
  rw [← pick S (fr i) (f i) a0 a1, ← pick S (to i) (f i) b0 b1, ← sumN_sub]
  refine sumN_congr fun v _ => ?_
  by_cases h : S (v : Int) = true <;> simp [h]

/-- The amount of a flow is what crosses any cut. -/
theorem amount_cross {m N : Nat} {fr to cap f : Nat → Int} {s t : Int} {S : Int → Bool} (he : Ends m N fr to)
    (hf : IsFlow m N fr to cap s t f) (hs : IsCut s t S) (s0 : 0 ≤ s) (s1 : s < N) : net m fr to f s = cross m fr to f S := by
  rw [← net_sum he]
  obtain ⟨k, rfl⟩ := Int.eq_ofNat_of_zero_le s0
  rw [← sumN_single (n := N) (a := k) (by omega) (net m fr to f k)]
  refine sumN_congr fun v hv => ?_
  by_cases e : v = k
  · subst e; simp [hs.src]
  · rw [if_neg e]
    by_cases hS : S (v : Int) = true
    · rw [if_pos hS, hf.keep v (by omega) (by omega) (by omega) ?_]
      rintro rfl
      rw [hs.snk] at hS; cases hS
    · rw [if_neg hS]

theorem cross_le {m : Nat} {fr to cap f : Nat → Int} {S : Int → Bool} (lo : ∀ i, i < m → 0 ≤ f i) (hi : ∀ i, i < m → f i ≤ cap i) :
    cross m fr to f S ≤ capOf m fr to cap S := by
  refine sumN_le fun i h => ?_
  have h0 := lo i h
  have h1 := hi i h
  cases S (fr i) <;> cases S (to i) <;> simp <;> omega

theorem weak {m N : Nat} {fr to cap f : Nat → Int} {s t : Int} {S : Int → Bool} (he : Ends m N fr to)
    (hf : IsFlow m N fr to cap s t f) (hs : IsCut s t S) (s0 : 0 ≤ s) (s1 : s < N) : net m fr to f s ≤ capOf m fr to cap S := by
  rw [amount_cross he hf hs s0 s1]; exact cross_le hf.lo hf.hi

/-- No step is left out of a side: the cut is full. -/
theorem full {m N : Nat} {fr to cap f : Nat → Int} {s t : Int} {S : Int → Bool} (he : Ends m N fr to)
    (hf : IsFlow m N fr to cap s t f) (hs : IsCut s t S) (s0 : 0 ≤ s) (s1 : s < N)
    (ho : ∀ i, i < m → S (fr i) = true → S (to i) = false → f i = cap i) (hb : ∀ i, i < m → S (to i) = true → S (fr i) = false → f i = 0) :
    net m fr to f s = capOf m fr to cap S := by
  rw [amount_cross he hf hs s0 s1]
  refine sumN_congr fun i h => ?_
  have h0 := ho i h
  have h1 := hb i h
  cases e1 : S (fr i) <;> cases e2 : S (to i) <;> simp [e1, e2] at h0 h1 ⊢ <;> omega

/-- What leaves all nodes together. -/
theorem net_all {m N : Nat} {fr to : Nat → Int} (he : Ends m N fr to) (f : Nat → Int) : sumN N (fun v => net m fr to f v) = 0 := by
  have h := net_sum he f (fun _ => true)
  simp only [if_true] at h
  rw [h]; unfold cross
  exact sumN_zero fun i _ => by simp

theorem net_ends {m N : Nat} {fr to cap f : Nat → Int} {s t : Int} (he : Ends m N fr to)
    (hf : IsFlow m N fr to cap s t f) (s0 : 0 ≤ s) (s1 : s < N) (t0 : 0 ≤ t) (t1 : t < N) (hst : s ≠ t) : net m fr to f t = - net m fr to f s := by
  have h := net_all he f
  obtain ⟨a, rfl⟩ := Int.eq_ofNat_of_zero_le s0
  obtain ⟨b, rfl⟩ := Int.eq_ofNat_of_zero_le t0
  have e : sumN N (fun v => net m fr to f v) = sumN N (fun v => (if v = a then net m fr to f a else 0) + (if v = b then net m fr to f b else 0)) := by
    refine sumN_congr fun v hv => ?_
    by_cases ea : v = a
    · subst ea
      have : ¬ v = b := by omega
      simp [this]
    · by_cases eb : v = b
      · subst eb; simp [ea]
      · simp only [ea, eb, if_false]
        exact hf.keep v (by omega) (by omega) (by omega) (by omega)
  rw [e, sumN_add, sumN_single (by omega), sumN_single (by omega)] at h
  omega

end Go.Proofs.Ytfjbbmgnfpeogaa.FlowTheory
