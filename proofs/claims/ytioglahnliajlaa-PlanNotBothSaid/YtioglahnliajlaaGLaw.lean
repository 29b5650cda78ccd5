import Derived.Test.YtioglahnliajlaaCkPlan
import Derived.Test.YtioglahnliajlaaGTh
import Derived.Test.YtioglahnliajlaaSchedF
import Derived.Test.YtioglahnliajlaaCkCut0
import Derived.Test.YtioglahnliajlaaSched
set_option linter.unusedVariables false
set_option linter.unusedSimpArgs false

/-! CheckPlan in plain words. -/
namespace Go.Proofs.Ytioglahnliajlaa.Pr
open Go.RowKit Go.Proofs.YtioglahnliajlaaW.PrintWords Go.Proofs.YtioglahnliajlaaW.PrintLast Go.Proofs.YtioglahnliajlaaW.PrintMore
open Go.Proofs.Ytioglahnliajlaa.FlowTheory Go.Proofs.Ytioglahnliajlaa.PlanTheory

theorem sumN_head (n : Nat) (f : Nat → Int) : sumN (n + 1) f = f 0 + sumN n (fun i => f (i + 1)) := by
  induction n with
  | zero => simp [sumN]
  | succ n ih =>
    rw [sumN, ih]
    simp only [sumN]
    omega

/-- One cell of a plan. -/
def Cell (j : S38) (row : List Int) (s : Nat) : Prop := 0 ≤ rd row (s : Int) ∧ rd row (s : Int) ≤ j.f3 ∧ (0 < rd row (s : Int) → j.f0 ≤ (s : Int) ∧ (s : Int) ≤ j.f1 - 1)

theorem rd_set_same (l : List Int) (s : Nat) (v : Int) (h : s < l.length) : rd (l.set s v) (s : Int) = v := by
  simp [rd, List.getD_eq_getElem?_getD, h]
theorem rd_set_ne (l : List Int) (s i : Nat) (v : Int) (h : s ≠ i) : rd (l.set s v) (i : Int) = rd l (i : Int) := by
  simp [rd, List.getD_eq_getElem?_getD, List.getElem?_set_ne h]

theorem ckRow_some (j : S38) (row : List Int) : ∀ (d s : Nat) (left : List Int), s + d = left.length → (∀ i, s ≤ i → i < left.length → Cell j row i ∧ rd row (i : Int) ≤ rd left (i : Int)) →
    ∃ l', ckRow j row d s left = some l' ∧ l'.length = left.length ∧ ∀ i : Nat, i < left.length → rd l' (i : Int) = if s ≤ i then rd left (i : Int) - rd row (i : Int) else rd left (i : Int) := by
  intro d
  induction d with
  | zero =>
    intro s left hs _
    exact ⟨left, rfl, rfl, fun i hi => by rw [if_neg (by omega)]⟩
  | succ d ih =>
    intro s left hs h
    obtain ⟨⟨h1, h2, h3⟩, h4⟩ := h s (Nat.le_refl _) (by omega)
    have hc : ¬ (rd row (s : Int) < 0 ∨ rd row (s : Int) > j.f3 ∨ (0 < rd row (s : Int) ∧ ¬ (j.f0 ≤ (s : Int) ∧ (s : Int) ≤ j.f1 - 1)) ∨ rd row (s : Int) > rd left (s : Int)) := by
      rintro (a | a | ⟨a, b⟩ | a)
      · omega
      · omega
      · exact b (h3 a)
      · omega
    obtain ⟨l', e, hl, hv⟩ := ih (s + 1) (left.set s (rd left (s : Int) - rd row (s : Int))) (by simp; omega) (fun i hi hi2 => by
      rw [List.length_set] at hi2
      rw [rd_set_ne _ _ _ _ (by omega)]
      exact h i (by omega) hi2)
    refine ⟨l', ?_, ?_, fun i hi => ?_⟩
    · simp only [ckRow]
      rw [if_neg hc, e]
    · rw [hl, List.length_set]
    · rw [hv i (by rw [List.length_set]; exact hi)]
      by_cases e1 : s = i
      · subst e1
        rw [if_neg (by omega), if_pos (by omega), rd_set_same _ _ _ hi]
      · rw [rd_set_ne _ _ _ _ e1]
        by_cases e2 : s + 1 ≤ i
        · rw [if_pos e2, if_pos (by omega)]
        · rw [if_neg e2, if_neg (by omega)]

theorem ckRow_cells (j : S38) (row : List Int) : ∀ (d s : Nat) (left l' : List Int), s + d = left.length → ckRow j row d s left = some l' → ∀ i : Nat, s ≤ i → i < left.length → Cell j row i ∧ rd row (i : Int) ≤ rd left (i : Int) := by
  intro d
  induction d with
  | zero => intro s left l' hs _ i h1 h2; omega
  | succ d ih =>
    intro s left l' hs h i h1 h2
    simp only [ckRow] at h
    split at h
    · cases h
    · rename_i hc
      rcases Nat.eq_or_lt_of_le h1 with e | e
      · subst e
        refine ⟨⟨by omega, by omega, fun hp => ?_⟩, by omega⟩
        rcases Classical.em (j.f0 ≤ (s : Int) ∧ (s : Int) ≤ j.f1 - 1) with h' | h'
        · exact h'
        · exact absurd (.inr (.inr (.inl ⟨hp, h'⟩))) hc
      · have := ih (s + 1) _ l' (by simp; omega) h i e (by rw [List.length_set]; exact h2)
        rwa [rd_set_ne _ _ _ _ (by omega)] at this

def RowOk (S : Nat) (j : S38) (row : List Int) : Prop := row.length = S ∧ wsum row = j.f2 ∧ ∀ s, s < S → Cell j row s

theorem ckFrom_true (jobs : List S38) (S : Nat) (p : List (List Int)) : ∀ (d i : Nat) (left : List Int), left.length = S →
    (ckFrom jobs S p d i left = true ↔ (∀ k, k < d → RowOk S (rd_T38 jobs ((i + k : Nat) : Int)) (rowAt p (i + k))) ∧ ∀ s, s < S → sumN d (fun k => rd (rowAt p (i + k)) (s : Int)) ≤ rd left (s : Int) ∨ d = 0) := by
  intro d
  induction d with
  | zero => intro i left hl; simp [ckFrom]
  | succ d ih =>
    intro i left hl
    simp only [ckFrom, ckStep]
    constructor
    · intro h
      split at h
      · cases h
      · rename_i hc
        have hr : (rowAt p i).length = S ∧ wsum (rowAt p i) = (rd_T38 jobs (i : Int)).f2 := by
          constructor
          · exact Classical.byContradiction fun e => hc (.inl e)
          · exact Classical.byContradiction fun e => hc (.inr e)
        cases hk : ckRow (rd_T38 jobs (i : Int)) (rowAt p i) S 0 left with
        | none => rw [hk] at h; cases h
        | some l' =>
          rw [hk] at h
          have hcell := ckRow_cells _ _ S 0 left l' (by omega) hk
          obtain ⟨l2, e2, hl2, hv2⟩ := ckRow_some _ _ S 0 left (by omega) hcell
          rw [hk] at e2
          cases e2
          obtain ⟨g1, g2⟩ := (ih (i + 1) l' (by omega)).1 h
          refine ⟨fun k hk => ?_, fun s hs => .inl ?_⟩
          · rcases Nat.eq_zero_or_pos k with e | e
            · subst e
              exact ⟨hr.1, hr.2, fun s hs => (hcell s (by omega) (by omega)).1⟩
            · have := g1 (k - 1) (by omega)
              rwa [show i + 1 + (k - 1) = i + k by omega] at this
          · rw [sumN_head]
            have e : sumN d (fun k => rd (rowAt p (i + (k + 1))) (s : Int)) = sumN d (fun k => rd (rowAt p (i + 1 + k)) (s : Int)) := sumN_congr fun k _ => by rw [show i + (k + 1) = i + 1 + k by omega]
            rw [e, Nat.add_zero]
            have hv := hv2 s (by omega)
            rw [if_pos (by omega)] at hv
            have := (hcell s (by omega) (by omega)).2
            rcases g2 s hs with h' | h'
            · omega
            · subst h'
              simp only [sumN]
              omega
    · rintro ⟨g1, g2⟩
      have hr := g1 0 (by omega)
      rw [Nat.add_zero] at hr
      have hs : ∀ s, s < S → rd (rowAt p i) (s : Int) + sumN d (fun k => rd (rowAt p (i + 1 + k)) (s : Int)) ≤ rd left (s : Int) := fun s hs => by
        rcases g2 s hs with h' | h'
        · rw [sumN_head] at h'
          have e : sumN d (fun k => rd (rowAt p (i + (k + 1))) (s : Int)) = sumN d (fun k => rd (rowAt p (i + 1 + k)) (s : Int)) := sumN_congr fun k _ => by rw [show i + (k + 1) = i + 1 + k by omega]
          rw [e, Nat.add_zero] at h'
          exact h'
        · omega
      have hn : ∀ s, s < S → 0 ≤ sumN d (fun k => rd (rowAt p (i + 1 + k)) (s : Int)) := fun s hs => sumN_nonneg fun k hk => by
        have := (g1 (k + 1) (by omega)).2.2 s hs
        rw [show i + 1 + k = i + (k + 1) by omega]
        exact this.1
      obtain ⟨l', e2, hl2, hv2⟩ := ckRow_some (rd_T38 jobs (i : Int)) (rowAt p i) S 0 left (by omega) (fun s _ hs' => ⟨hr.2.2 s (by omega), by
        have := hs s (by omega)
        have := hn s (by omega)
        omega⟩)
      rw [if_neg (by rintro (a | a); exact a hr.1; exact a hr.2.1), e2]
      refine (ih (i + 1) l' (by omega)).2 ⟨fun k hk => ?_, fun s hs' => .inl ?_⟩
      · have := g1 (k + 1) (by omega)
        rwa [show i + (k + 1) = i + 1 + k by omega] at this
      · rw [hv2 s (by omega), if_pos (by omega)]
        have := hs s hs'
        omega

theorem wsum_eq (l : List Int) (h : ∀ x ∈ l, 0 ≤ x ∧ x ≤ 1000) (hl : l.length ≤ 1000) : wsum l = sumI l := by
  have : ∀ (l : List Int) (a : Int), (∀ x ∈ l, 0 ≤ x ∧ x ≤ 1000) → 0 ≤ a → a + 1000 * (l.length : Int) ≤ 9000000 → l.foldl (fun a x => wrap64 (a + x)) a = a + sumI l := by
    intro l
    induction l with
    | nil => intro a _ _ _; simp [sumI]
    | cons x l ih =>
      intro a hx ha hb
      obtain ⟨x0, x1⟩ := hx x (by simp)
      simp only [List.length_cons] at hb
      simp only [List.foldl_cons, sumI]
      rw [show wrap64 (a + x) = a + x by unfold wrap64; omega, ih (a + x) (fun y hy => hx y (by simp [hy])) (by omega) (by omega)]
      omega
  have h2 := this l 0 h (by omega) (by omega)
  unfold wsum
  rw [h2, Int.zero_add]
theorem sumI_rd (l : List Int) : sumI l = sumN l.length (fun s => rd l (s : Int)) := by
  have := sumN_list (0 : Int) (fun x => x) l
  rw [List.map_id'] at this
  rw [← this]
  exact sumN_congr fun s _ => by simp [rd]
end Go.Proofs.Ytioglahnliajlaa.Pr

/-! CheckPlan and CheckCut tell plans and cuts. -/
namespace Go.Proofs.Ytioglahnliajlaa.Pr
open Go.RowKit Go.Proofs.YtioglahnliajlaaW.PrintWords Go.Proofs.YtioglahnliajlaaW.PrintLast Go.Proofs.YtioglahnliajlaaW.PrintMore
open Go.Proofs.Ytioglahnliajlaa.FlowTheory Go.Proofs.Ytioglahnliajlaa.PlanTheory

def pl (p : List (List Int)) (i s : Nat) : Int := rd (rowAt p i) (s : Int)

theorem row_wsum {jobs : List S38} {sup : List Int} (hv : validOk jobs sup) {row : List Int} {i : Nat} (hi : i < jobs.length) (hl : row.length = sup.length) (hc : ∀ s, s < sup.length → Cell (rd_T38 jobs (i : Int)) row s) : wsum row = sumN sup.length (fun s => rd row (s : Int)) := by
  have hj := hv.2.2 _ (rd_memJ jobs i hi)
  rw [wsum_eq row (fun x hx => ?_) (by have := hv.1.2; omega), sumI_rd, hl]
  obtain ⟨k, hk, rfl⟩ := List.getElem_of_mem hx
  have := hc k (by omega)
  unfold Cell at this
  have e : rd row (k : Int) = row[k] := by simp [rd, List.getD_eq_getElem?_getD, hk]
  rw [e] at this
  have := hj.2.2.2.1
  omega

theorem ckPlan_iff (jobs : List S38) (sup : List Int) (p : List (List Int)) :
    ckPlan jobs sup p = true ↔ validOk jobs sup ∧ p.length = jobs.length ∧ (∀ i, i < jobs.length → (rowAt p i).length = sup.length) ∧ Feas (jobs.map toJb) sup (pl p) := by
  unfold ckPlan
  constructor
  · intro h
    split at h
    · rename_i hv
      obtain ⟨g1, g2⟩ := (ckFrom_true jobs sup.length p jobs.length 0 sup rfl).1 h
      have g1' : ∀ k, k < jobs.length → RowOk sup.length (rd_T38 jobs (k : Int)) (rowAt p k) := fun k hk => by
        have := g1 k hk
        rwa [Nat.zero_add] at this
      refine ⟨hv.1, hv.2, fun i hi => (g1' i hi).1, ?_⟩
      refine ⟨fun i s hi hs => ?_, fun i s hi hs => ?_, fun i s hi hs => ?_, fun i hi => ?_, fun s hs => ?_⟩
      · rw [List.length_map] at hi
        exact ((g1' i hi).2.2 s hs).1
      · rw [List.length_map] at hi
        rw [jb_of _ _ hi]
        exact ((g1' i hi).2.2 s hs).2.1
      · rw [List.length_map] at hi
        rw [jb_of _ _ hi]
        intro h0
        have := ((g1' i hi).2.2 s hs).2.2 h0
        exact ⟨this.1, by show (s : Int) < (rd_T38 jobs (i : Int)).f1; omega⟩
      · rw [List.length_map] at hi
        rw [jb_of _ _ hi]
        have h3 := (g1' i hi).2.1
        rw [row_wsum hv.1 hi (g1' i hi).1 (g1' i hi).2.2] at h3
        exact h3
      · rw [List.length_map, sp_of]
        rcases g2 s hs with h' | h'
        · simpa [pl] using h'
        · rw [h']
          exact (hv.1.2.1 _ (rd_memI sup s hs)).1
    · cases h
  · rintro ⟨hv, hp, hr, hf⟩
    rw [if_pos ⟨hv, hp⟩]
    have hl : (jobs.map toJb).length = jobs.length := List.length_map ..
    have hrow : ∀ k, k < jobs.length → RowOk sup.length (rd_T38 jobs (k : Int)) (rowAt p k) := fun k hk => by
      have hcell : ∀ s, s < sup.length → Cell (rd_T38 jobs (k : Int)) (rowAt p k) s := fun s hs => by
        have a := hf.lo k s (by omega) hs
        have b := hf.hi k s (by omega) hs
        have c := hf.win k s (by omega) hs
        rw [jb_of _ _ hk] at b c
        refine ⟨a, b, fun h0 => ?_⟩
        have c' : (rd_T38 jobs (k : Int)).f0 ≤ (s : Int) ∧ (s : Int) < (rd_T38 jobs (k : Int)).f1 := c h0
        omega
      refine ⟨hr k hk, ?_, hcell⟩
      rw [row_wsum hv hk (hr k hk) hcell]
      have := hf.met k (by omega)
      rw [jb_of _ _ hk] at this
      exact this
    refine (ckFrom_true jobs sup.length p jobs.length 0 sup rfl).2 ⟨fun k hk => ?_, fun s hs => .inl ?_⟩
    · rw [Nat.zero_add]
      exact hrow k hk
    · have := hf.room s hs
      rw [hl, sp_of] at this
      simpa [pl] using this

/-! Choices. -/
theorem choice_lt (n : Nat) : ∀ (l : List Int) (last : Int), choiceFrom n last l → ∀ x ∈ l, last < x ∧ 0 ≤ x ∧ x < n
  | [], _, _, x, h => by cases h
  | y :: l, last, ⟨h1, h2⟩, x, h => by
    rcases List.mem_cons.1 h with e | e
    · subst e; exact h1
    · have := choice_lt n l y h2 x e
      omega
theorem choice_sum (n : Nat) (g : Nat → Int) : ∀ (l : List Int) (last : Int), choiceFrom n last l → sumI (l.map (fun x => g x.toNat)) = sumN n (fun i => if (i : Int) ∈ l then g i else 0)
  | [], _, _ => by simp [sumI]; exact (sumN_zero fun _ _ => rfl).symm
  | y :: l, last, ⟨h1, h2⟩ => by
    simp only [List.map_cons, sumI]
    rw [choice_sum n g l y h2]
    have hy : ¬ (y ∈ l) := fun h => by have := choice_lt n l y h2 y h; omega
    obtain ⟨k, rfl⟩ := Int.eq_ofNat_of_zero_le h1.2.1
    have e : sumN n (fun i => if (i : Int) ∈ (k : Int) :: l then g i else 0) = sumN n (fun i => (if i = k then g k else 0) + (if (i : Int) ∈ l then g i else 0)) := by
      refine sumN_congr fun i _ => ?_
      by_cases e1 : i = k
      · subst e1
        simp [hy]
      · have e2 : ¬ ((i : Int) = (k : Int)) := fun e => e1 (by omega)
        simp [e1, e2]
    rw [e, sumN_add, sumN_single (by omega)]
    simp

def inL (l : List Int) (i : Nat) : Bool := decide ((i : Int) ∈ l)
theorem inL_iff {l : List Int} {i : Nat} : inL l i = true ↔ (i : Int) ∈ l := by simp [inL]
theorem inL_not {l : List Int} {i : Nat} (h : ¬ (i : Int) ∈ l) : inL l i = false := by simp [inL, h]

theorem rd_at (l : List Int) (k : Nat) (h : k < l.length) : rd l (k : Int) = l[k] := by simp [rd, List.getD_eq_getElem?_getD, h]
theorem needOf_sum (jobs : List S38) (cj : List Int) : ∀ k, k ≤ cj.length → needOf jobs cj k = sumI ((cj.take k).map (fun x => (rd_T38 jobs x).f2)) := by
  intro k
  induction k with
  | zero => intro _; simp [needOf, sumI]
  | succ k ih =>
    intro hk
    simp only [needOf]
    rw [ih (by omega), List.take_add_one, List.getElem?_eq_getElem (show k < cj.length by omega), rd_at cj k (by omega), List.map_append, sumI_append]
    simp only [Option.toList_some, List.map_cons, List.map_nil, sumI]
    omega
theorem giveS_sum (sup cs : List Int) : ∀ k, k ≤ cs.length → giveS sup cs k = sumI ((cs.take k).map (fun x => rd sup x)) := by
  intro k
  induction k with
  | zero => intro _; simp [giveS, sumI]
  | succ k ih =>
    intro hk
    simp only [giveS]
    rw [ih (by omega), List.take_add_one, List.getElem?_eq_getElem (show k < cs.length by omega), rd_at cs k (by omega), List.map_append, sumI_append]
    simp only [Option.toList_some, List.map_cons, List.map_nil, sumI]
    omega

theorem need_eq {jobs : List S38} {cj : List Int} (h : choiceOk jobs.length cj) : needOf jobs cj cj.length = need (jobs.map toJb) (inL cj) := by
  rw [needOf_sum jobs cj _ (Nat.le_refl _), List.take_length]
  have h1 : cj.map (fun x => (rd_T38 jobs x).f2) = cj.map (fun x => (rd_T38 jobs ((x.toNat : Nat) : Int)).f2) := List.map_congr_left fun x hx => by
    have := choice_lt _ _ _ h x hx
    rw [Int.toNat_of_nonneg this.2.1]
  rw [h1, choice_sum jobs.length (fun i => (rd_T38 jobs (i : Int)).f2) cj (-1) h]
  unfold need
  rw [List.length_map]
  refine sumN_congr fun i hi => ?_
  rw [jb_of _ _ hi]
  simp only [inL, decide_eq_true_eq]
  rfl
theorem giveS_eq {sup cs : List Int} (h : choiceOk sup.length cs) : giveS sup cs cs.length = sumN sup.length (fun s => if inL cs s = true then sp sup s else 0) := by
  rw [giveS_sum sup cs _ (Nat.le_refl _), List.take_length]
  have h1 : cs.map (fun x => rd sup x) = cs.map (fun x => rd sup ((x.toNat : Nat) : Int)) := List.map_congr_left fun x hx => by
    have := choice_lt _ _ _ h x hx
    rw [Int.toNat_of_nonneg this.2.1]
  rw [h1, choice_sum sup.length (fun i => rd sup (i : Int)) cs (-1) h]
  refine sumN_congr fun i hi => ?_
  rw [sp_of]
  simp only [inL, decide_eq_true_eq]

theorem mark_at (S : Nat) (cs : List Int) (h : choiceOk S cs) : ∀ k, k ≤ cs.length → ∀ s, s < S → (rdOf false (markOf S cs k) (s : Int) = true ↔ (s : Int) ∈ cs.take k) := by
  intro k
  induction k with
  | zero => intro _ s hs; simp [markOf, rdOf, List.getD_eq_getElem?_getD, hs]
  | succ k ih =>
    intro hk s hs
    have hx := choice_lt _ _ _ h (cs[k]'(by omega)) (List.getElem_mem _)
    simp only [markOf]
    rw [List.take_add_one, List.getElem?_eq_getElem (show k < cs.length by omega), rd_at cs k (by omega)]
    have ih' := ih (by omega) s hs
    obtain ⟨m, hm⟩ := Int.eq_ofNat_of_zero_le hx.2.1
    rw [hm]
    simp only [Int.toNat_natCast, List.mem_append, Option.toList_some, List.mem_singleton]
    by_cases e : m = s
    · subst e
      simp [rdOf, List.getD_eq_getElem?_getD, markOf_length, hs]
    · have e2 : ¬ ((s : Int) = (m : Int)) := fun h => e (by omega)
      have e3 : rdOf false ((markOf S cs k).set m true) (s : Int) = rdOf false (markOf S cs k) (s : Int) := by
        simp [rdOf, List.getD_eq_getElem?_getD, List.getElem?_set_ne e]
      rw [e3]
      simp only [e2, or_false]
      exact ih'

theorem fold_sum (ra : Int) (mk : List Bool) : ∀ (l : List Int) (g : Int), l.foldl (giveStep ra mk) g = g + sumI (l.map (fun s => if rdOf false mk s = true then 0 else ra)) := by
  intro l
  induction l with
  | nil => intro g; simp [sumI]
  | cons x l ih =>
    intro g
    simp only [List.foldl_cons, List.map_cons, sumI]
    rw [ih]
    unfold giveStep
    split <;> omega
theorem slots_sum (j : Jb) (S : Nat) (hj : JobOk j S) (h : Int → Int) : sumI ((slotList j.fr (j.to - j.fr).toNat).map h) = sumN S (fun s => if Win j s then h (s : Int) else 0) := by
  obtain ⟨a0, a1, a2, _⟩ := hj
  obtain ⟨a, ha⟩ := Int.eq_ofNat_of_zero_le a0
  obtain ⟨b, hb⟩ := Int.eq_ofNat_of_zero_le (show 0 ≤ j.to by omega)
  have e : (j.to - j.fr).toNat = b - a := by omega
  unfold slotList
  rw [e, List.map_map, sumI_range]
  have := sumN_window a b S (fun s => h (s : Int)) (by omega) (by omega)
  have e1 : sumN (b - a) (h ∘ fun d : Nat => j.fr + (d : Int)) = sumN (b - a) (fun d => h (((a + d : Nat) : Int))) := sumN_congr fun d _ => by
    simp only [Function.comp_apply]
    congr 1
    omega
  rw [e1, this]
  refine sumN_congr fun s _ => ?_
  have : (a ≤ s ∧ s < b) ↔ Win j s := by unfold Win; omega
  simp only [this]

theorem giveJ_sum (jobs : List S38) (mk : List Bool) (cj : List Int) (g : Int) : ∀ k, k ≤ cj.length → giveJ jobs mk cj g k = g + sumI ((cj.take k).map (fun x => sumI ((slotList (rd_T38 jobs x).f0 ((rd_T38 jobs x).f1 - (rd_T38 jobs x).f0).toNat).map (fun s => if rdOf false mk s = true then 0 else (rd_T38 jobs x).f3)))) := by
  intro k
  induction k with
  | zero => intro _; simp [giveJ, sumI]
  | succ k ih =>
    intro hk
    simp only [giveJ]
    rw [fold_sum, ih (by omega), List.take_add_one, List.getElem?_eq_getElem (show k < cj.length by omega), rd_at cj k (by omega), List.map_append, sumI_append]
    simp only [Option.toList_some, List.map_cons, List.map_nil, sumI]
    omega

theorem give_eq {jobs : List S38} {sup cj cs : List Int} (hv : validOk jobs sup) (h1 : choiceOk jobs.length cj) (h2 : choiceOk sup.length cs) :
    giveJ jobs (markOf sup.length cs cs.length) cj (giveS sup cs cs.length) cj.length = give (jobs.map toJb) sup (inL cj) (inL cs) := by
  rw [giveJ_sum _ _ _ _ _ (Nat.le_refl _), List.take_length, giveS_eq h2]
  unfold give
  congr 1
  have e1 : ∀ F : Int → Int, cj.map F = cj.map (fun x => F ((x.toNat : Nat) : Int)) := fun F => List.map_congr_left fun x hx => by
    have := choice_lt _ _ _ h1 x hx
    rw [Int.toNat_of_nonneg this.2.1]
  rw [e1, choice_sum jobs.length (fun i => sumI ((slotList (rd_T38 jobs (i : Int)).f0 ((rd_T38 jobs (i : Int)).f1 - (rd_T38 jobs (i : Int)).f0).toNat).map (fun s => if rdOf false (markOf sup.length cs cs.length) s = true then 0 else (rd_T38 jobs (i : Int)).f3))) cj (-1) h1, List.length_map]
  have ok := ok2_of hv
  refine sumN_congr fun i hi => ?_
  have hj := ok.job i (by rw [List.length_map]; exact hi)
  rw [jb_of _ _ hi] at hj ⊢
  by_cases hin : (i : Int) ∈ cj
  · rw [if_pos hin, if_pos (inL_iff.2 hin)]
    have := slots_sum (toJb (rd_T38 jobs (i : Int))) sup.length hj (fun s => if rdOf false (markOf sup.length cs cs.length) s = true then 0 else (rd_T38 jobs (i : Int)).f3)
    refine (this.trans (sumN_congr fun s hs => ?_))
    have hm := mark_at sup.length cs h2 cs.length (Nat.le_refl _) s hs
    rw [List.take_length] at hm
    by_cases w : Win (toJb (rd_T38 jobs (i : Int))) s
    · rw [if_pos w]
      by_cases m : (s : Int) ∈ cs
      · rw [if_pos (hm.2 m), if_neg (fun h => by rw [inL_iff.2 m] at h; exact absurd h.2 (by decide))]
      · rw [if_neg (fun h => m (hm.1 h)), if_pos ⟨w, inL_not m⟩]
        rfl
    · rw [if_neg w, if_neg (fun h => w h.1)]
  · rw [if_neg hin, if_neg (fun h => hin (inL_iff.1 h))]

theorem ckCut_iff (jobs : List S38) (sup cj cs : List Int) :
    ckCut jobs sup cj cs = true ↔ validOk jobs sup ∧ choiceOk jobs.length cj ∧ choiceOk sup.length cs ∧ give (jobs.map toJb) sup (inL cj) (inL cs) < need (jobs.map toJb) (inL cj) := by
  unfold ckCut
  constructor
  · intro h
    split at h
    · rename_i hv
      rw [decide_eq_true_eq, need_eq hv.2.1, give_eq hv.1 hv.2.1 hv.2.2] at h
      exact ⟨hv.1, hv.2.1, hv.2.2, h⟩
    · cases h
  · rintro ⟨hv, h1, h2, h3⟩
    rw [if_pos ⟨hv, h1, h2⟩, decide_eq_true_eq, need_eq h1, give_eq hv h1 h2]
    exact h3

/-- A plan and a cut do not both pass. -/
theorem no_both {jobs : List S38} {sup cj cs : List Int} {p : Nat → Nat → Int} (h1 : Feas (jobs.map toJb) sup p) : ckCut jobs sup cj cs = false := by
  rw [Bool.eq_false_iff]
  intro h
  have := ((ckCut_iff _ _ _ _).1 h).2.2.2
  have := not_both h1 (inL cj) (inL cs)
  omega
end Go.Proofs.Ytioglahnliajlaa.Pr

/-! Schedule in plain words. -/
namespace Go.Proofs.Ytioglahnliajlaa.Pr
open Go.RowKit Go.Proofs.YtioglahnliajlaaW.PrintWords Go.Proofs.YtioglahnliajlaaW.PrintLast Go.Proofs.YtioglahnliajlaaW.PrintMore
open Go.Proofs.Ytioglahnliajlaa.FlowTheory Go.Proofs.Ytioglahnliajlaa.PlanTheory Go.Proofs.Ytioglahnliajlaa.FlowM

theorem esOf_at (es : List S49) (k : Nat) (h : k < es.length) : (esOf es).getD k (0, 0, 0) = eOf (rd_T49 es (k : Int)) := by
  simp [esOf, rd_T49, List.getD_eq_getElem?_getD, h]

theorem mat_sum {jobs : List S38} {sup : List Int} (hv : validOk jobs sup) (fl : List Int) (j s : Nat) (hj : j < jobs.length) (hs : s < sup.length) : ∀ m, m ≤ (esAll jobs sup).length →
    rd (matOf jobs.length sup.length (sinkOf jobs sup) (esAll jobs sup) fl m j) (s : Int) =
      sumN m (fun k => if frF (esOf (esAll jobs sup)) k = ((1 + j : Nat) : Int) ∧ toF (esOf (esAll jobs sup)) k = 1 + (jobs.length : Int) + (s : Int) then flF fl k else 0) := by
  intro m
  induction m with
  | zero => intro _; simp [matOf, sumN, rd, List.getD_eq_getElem?_getD, hs]
  | succ m ih =>
    intro hm
    have ih' := ih (by omega)
    rw [matOf_succ, sumN]
    have ef : frF (esOf (esAll jobs sup)) m = (rd_T49 (esAll jobs sup) (m : Int)).f0 := by unfold frF; rw [esOf_at _ _ (by omega)]; rfl
    have et : toF (esOf (esAll jobs sup)) m = (rd_T49 (esAll jobs sup) (m : Int)).f1 := by unfold toF; rw [esOf_at _ _ (by omega)]; rfl
    have efl : flF fl m = rd fl (m : Int) := by simp [flF, rd]
    rw [ef, et, efl]
    have hcls := es_in hv m (by omega)
    by_cases c : (rd_T49 (esAll jobs sup) (m : Int)).f0 = ((1 + j : Nat) : Int) ∧ (rd_T49 (esAll jobs sup) (m : Int)).f1 = 1 + (jobs.length : Int) + (s : Int)
    · rw [if_pos c, if_pos ⟨by omega, by unfold sinkOf; omega, by omega⟩]
      rw [c.2, show (1 + (jobs.length : Int) + (s : Int) - 1 - (jobs.length : Int)).toNat = s by omega, rd_set_same _ _ _ (by rw [matOf_length]; exact hs)]
      have : sumN m (fun k => if frF (esOf (esAll jobs sup)) k = ((1 + j : Nat) : Int) ∧ toF (esOf (esAll jobs sup)) k = 1 + (jobs.length : Int) + (s : Int) then flF fl k else 0) = 0 := by
        refine sumN_zero fun k hk => if_neg fun h => ?_
        have hl : (esOf (esAll jobs sup)).length = (esAll jobs sup).length := by simp [esOf]
        have hjl : (jobs.map toJb).length = jobs.length := List.length_map ..
        have := pair_one (ok2_of hv) j s (by omega) hs (k := k) (k' := m) (by rw [← es_edges]; omega) (by rw [← es_edges]; omega) (by rw [← es_edges, hjl]; exact h) (by rw [← es_edges, hjl, ef, et]; exact c)
        omega
      omega
    · rw [if_neg c, Int.add_zero]
      split
      · rename_i h
        obtain ⟨h1, h2, h3⟩ := h
        have := hcls h1 h2
        rw [rd_set_ne _ _ _ _ (fun e => c ⟨by omega, by omega⟩)]
        exact ih'
      · exact ih'

theorem feas_congr {js : List Jb} {sup : List Int} {p q : Nat → Nat → Int} (h : Feas js sup p) (he : ∀ i s, i < js.length → s < sup.length → q i s = p i s) : Feas js sup q :=
  ⟨fun i s hi hs => by rw [he i s hi hs]; exact h.lo i s hi hs, fun i s hi hs => by rw [he i s hi hs]; exact h.hi i s hi hs, fun i s hi hs => by rw [he i s hi hs]; exact h.win i s hi hs,
    fun i hi => by rw [← h.met i hi]; exact sumN_congr fun s hs => he i s hi hs, fun s hs => by rw [show sumN js.length (fun i => q i s) = sumN js.length (fun i => p i s) from sumN_congr fun i hi => he i s hi hs]; exact h.room s hs⟩
theorem need_congr {js : List Jb} {A A' : Nat → Bool} (h : ∀ i, i < js.length → A i = A' i) : need js A = need js A' := sumN_congr fun i hi => by rw [h i hi]
theorem give_congr {js : List Jb} {sup : List Int} {A A' B B' : Nat → Bool} (h : ∀ i, i < js.length → A i = A' i) (h2 : ∀ s, s < sup.length → B s = B' s) : give js sup A B = give js sup A' B' := by
  unfold give
  congr 1
  · exact sumN_congr fun s hs => by rw [h2 s hs]
  · refine sumN_congr fun i hi => ?_
    rw [h i hi]
    congr 1
    exact sumN_congr fun s hs => by simp only [h2 s hs]

theorem places_choice (n : Nat) : ∀ (l : List Bool) (i : Nat) (last : Int), last < i → i + l.length ≤ n → choiceFrom n last (placesFrom i l)
  | [], _, _, _, _ => trivial
  | b :: l, i, last, h1, h2 => by
    simp only [List.length_cons] at h2
    unfold placesFrom
    split
    · exact ⟨⟨h1, by omega, by omega⟩, places_choice n l (i + 1) i (by omega) (by omega)⟩
    · exact places_choice n l (i + 1) last (by omega) (by omega)
theorem places_mem (x : Nat) : ∀ (l : List Bool) (i : Nat), ((x : Int) ∈ placesFrom i l ↔ i ≤ x ∧ l.getD (x - i) false = true)
  | [], i => by simp [placesFrom]
  | b :: l, i => by
    have ih := places_mem x l (i + 1)
    have key : ((x : Int) ∈ placesFrom i (b :: l)) ↔ (b = true ∧ x = i) ∨ ((x : Int) ∈ placesFrom (i + 1) l) := by
      conv => lhs; unfold placesFrom
      split
      · rename_i hb
        simp only [List.mem_cons, hb, true_and]
        constructor
        · rintro (h | h)
          · exact .inl (by omega)
          · exact .inr h
        · rintro (h | h)
          · exact .inl (by omega)
          · exact .inr h
      · rename_i hb
        constructor
        · exact fun h => .inr h
        · rintro (h | h)
          · exact absurd h.1 hb
          · exact h
    rw [key, ih]
    rcases Nat.lt_trichotomy x i with h | h | h
    · constructor
      · rintro (⟨_, e⟩ | ⟨e, _⟩) <;> omega
      · rintro ⟨e, _⟩; omega
    · subst h
      simp
      intro h; omega
    · have e : x - i = (x - (i + 1)) + 1 := by omega
      rw [e, List.getD_cons_succ]
      constructor
      · rintro (⟨_, e⟩ | ⟨_, e⟩)
        · omega
        · exact ⟨by omega, e⟩
      · rintro ⟨_, e⟩
        exact .inr ⟨by omega, e⟩

theorem inL_places (S : List Bool) (lo len x : Nat) (h : x < len) (hl : lo + len ≤ S.length) : inL (placesFrom 0 ((S.take (lo + len)).drop lo)) x = sees S ((lo + x : Nat) : Int) := by
  have h1 : inL (placesFrom 0 ((S.take (lo + len)).drop lo)) x = true ↔ sees S ((lo + x : Nat) : Int) = true := by
    rw [inL_iff, places_mem]
    unfold sees
    simp only [Nat.zero_le, true_and, Nat.sub_zero, Int.toNat_natCast]
    have : ((S.take (lo + len)).drop lo).getD x false = S.getD (lo + x) false := by
      simp only [List.getD_eq_getElem?_getD, List.getElem?_drop]
      rw [List.getElem?_take_of_lt (by omega)]
    rw [this]
  cases e1 : inL (placesFrom 0 ((S.take (lo + len)).drop lo)) x <;> cases e2 : sees S ((lo + x : Nat) : Int) <;> rw [e1, e2] at h1 <;> simp at h1 <;> rfl

/-- A plan that meets every wish lies in the room. -/
def Can (jobs : List S38) (sup : List Int) : Prop := ∃ p, Feas (jobs.map toJb) sup p

theorem sched_says {jobs : List S38} {sup : List Int} (hv : validOk jobs sup) :
    (∃ p, plan_Schedule.f jobs sup = some (p, [], [], 0) ∧ ckPlan jobs sup p = true) ∨ (∃ cj cs, plan_Schedule.f jobs sup = some ([], cj, cs, 10) ∧ ckCut jobs sup cj cs = true) := by
  obtain ⟨a, fl, S, hm, hfl, hSl, hg⟩ := sched_good hv
  have hjl : (jobs.map toJb).length = jobs.length := List.length_map ..
  have ok := ok2_of hv
  unfold plan_Schedule.f
  rw [if_pos hv, hm]
  simp only [Option.bind_some]
  by_cases c : a < wantE jobs jobs.length
  · rw [if_pos c]
    refine .inr ⟨_, _, rfl, (ckCut_iff _ _ _ _).2 ⟨hv, ?_, ?_, ?_⟩⟩
    · exact places_choice _ _ _ _ (by omega) (by simp; omega)
    · exact places_choice _ _ _ _ (by omega) (by simp; omega)
    · have hc := cut_of ok hg
      rw [hjl] at hc
      rw [need_congr (A' := fun i => sees S ((1 + i : Nat) : Int)) (fun i hi => by rw [hjl] at hi; exact inL_places S 1 jobs.length i hi (by omega)),
        give_congr (A' := fun i => sees S ((1 + i : Nat) : Int)) (B' := fun s => sees S (1 + (jobs.length : Int) + (s : Int))) (fun i hi => by rw [hjl] at hi; exact inL_places S 1 jobs.length i hi (by omega)) (fun s hs => by
          have := inL_places S (1 + jobs.length) sup.length s hs (by omega)
          rw [this]
          congr 1)]
      rw [want_eq] at c
      omega
  · rw [if_neg c]
    rw [want_eq] at c
    refine .inl ⟨_, rfl, (ckPlan_iff _ _ _).2 ⟨hv, by simp, fun i hi => ?_, ?_⟩⟩
    · have : rowAt ((List.range jobs.length).map (matOf jobs.length sup.length (sinkOf jobs sup) (esAll jobs sup) fl (esAll jobs sup).length)) i = matOf jobs.length sup.length (sinkOf jobs sup) (esAll jobs sup) fl (esAll jobs sup).length i := by
        simp [rowAt, List.getD_eq_getElem?_getD, hi]
      rw [this, matOf_length]
    · refine feas_congr (feas_of ok hg (by omega)) fun i s hi hs => ?_
      rw [hjl] at hi
      have : rowAt ((List.range jobs.length).map (matOf jobs.length sup.length (sinkOf jobs sup) (esAll jobs sup) fl (esAll jobs sup).length)) i = matOf jobs.length sup.length (sinkOf jobs sup) (esAll jobs sup) fl (esAll jobs sup).length i := by
        simp [rowAt, List.getD_eq_getElem?_getD, hi]
      unfold pl
      rw [this, mat_sum hv fl i s hi hs _ (Nat.le_refl _)]
      unfold unit flowX
      rw [← es_edges, hjl]
      have hl : (esOf (esAll jobs sup)).length = (esAll jobs sup).length := by simp [esOf]
      rw [hl]

theorem sched_bad {jobs : List S38} {sup : List Int} (hv : ¬ validOk jobs sup) : plan_Schedule.f jobs sup = some ([], [], [], 1) := by
  unfold plan_Schedule.f
  rw [if_neg hv]

theorem plan_can {jobs : List S38} {sup : List Int} {p : List (List Int)} (h : ckPlan jobs sup p = true) : Can jobs sup := ⟨_, ((ckPlan_iff _ _ _).1 h).2.2.2⟩
theorem cut_cannot {jobs : List S38} {sup cj cs : List Int} (h : ckCut jobs sup cj cs = true) : ¬ Can jobs sup := fun ⟨p, hp⟩ => by
  rw [no_both hp] at h; cases h
end Go.Proofs.Ytioglahnliajlaa.Pr
