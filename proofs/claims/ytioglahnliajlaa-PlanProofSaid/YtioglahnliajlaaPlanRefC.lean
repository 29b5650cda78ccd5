import Derived.Test.YtioglahnliajlaaGMet
import Derived.Test.YtioglahnliajlaaPr9
import Derived.Test.YtioglahnliajlaaPr11
import Derived.Test.YtioglahnliajlaaCkCut1
set_option linter.unusedVariables false
set_option linter.unusedSimpArgs false
/-! The reference's checks of a plan and of a cut. -/
namespace Go.Proofs.Ytioglahnliajlaa.Pr
open Go.RowKit Go.Proofs.YtioglahnliajlaaW.PrintWords Go.Proofs.YtioglahnliajlaaW.PrintLast Go.Proofs.YtioglahnliajlaaW.PrintMore
open Go.Proofs.Ytioglahnliajlaa.FlowTheory Go.Proofs.Ytioglahnliajlaa.PlanTheory

/-! CheckPlan. -/
def cols (p : List (List Int)) (S i s : Nat) : List Int := (List.range S).map (fun t => sumN (if t < s then i + 1 else i) (fun k => pl p k t))
theorem cols_length (p : List (List Int)) (S i s : Nat) : (cols p S i s).length = S := by simp [cols]
theorem rd_cols (p : List (List Int)) (S i s t : Nat) (h : t < S) : rd (cols p S i s) (t : Int) = sumN (if t < s then i + 1 else i) (fun k => pl p k t) := by
  simp [cols, rd, List.getD_eq_getElem?_getD, h]
theorem cols_set (p : List (List Int)) (S i s : Nat) (h : s < S) : (cols p S i s).set s (rd (cols p S i s) (s : Int) + pl p i s) = cols p S i (s + 1) := by
  apply List.ext_getElem (by simp [cols])
  intro t h1 h2
  rw [List.getElem_set]
  split
  · rename_i e
    subst e
    rw [rd_cols _ _ _ _ _ h, if_neg (Nat.lt_irrefl _)]
    simp [cols, sumN]
  · rename_i e
    simp only [cols, List.getElem_map, List.getElem_range]
    congr 1
    by_cases c : t < s
    · rw [if_pos c, if_pos (by omega)]
    · rw [if_neg c, if_neg (by omega)]
theorem cols_next (p : List (List Int)) (S i : Nat) : cols p S i S = cols p S (i + 1) 0 := by
  unfold cols
  refine List.map_congr_left fun t ht => ?_
  rw [List.mem_range] at ht
  rw [if_pos ht, if_neg (by omega)]
theorem cols_zero (p : List (List Int)) (S : Nat) : cols p S 0 0 = List.replicate S 0 := by
  apply List.ext_getElem (by simp [cols])
  intro t h1 h2
  simp [cols, sumN]

theorem sumN_bound {n : Nat} {f : Nat → Int} {B : Int} (h : ∀ i, i < n → 0 ≤ f i ∧ f i ≤ B) : 0 ≤ sumN n f ∧ sumN n f ≤ B * n := by
  induction n with
  | zero => simp [sumN]
  | succ n ih =>
    have := ih (fun i hi => h i (by omega))
    have := h n (by omega)
    simp only [sumN]
    have e : B * ((n + 1 : Nat) : Int) = B * (n : Int) + B := by rw [Int.natCast_add, Int.mul_add]; simp
    omega

section
variable {jobs : List S38} {sup : List Int} {p : List (List Int)}
theorem pl_le (h : ckPlan jobs sup p = true) (i s : Nat) (hi : i < jobs.length) (hs : s < sup.length) : 0 ≤ pl p i s ∧ pl p i s ≤ 1000 := by
  obtain ⟨hv, _, _, hf⟩ := (ckPlan_iff _ _ _).1 h
  have hjl : (jobs.map toJb).length = jobs.length := List.length_map ..
  have h1 := hf.lo i s (by omega) hs
  have h2 := hf.hi i s (by omega) hs
  have h3 := (ok2_of hv).job i (by omega)
  unfold JobOk at h3
  omega

theorem rcp_l1 (h : ckPlan jobs sup p = true) (i : Nat) (hi : i < jobs.length) : ∀ (d s m : Nat), s + d = sup.length →
    chargeparkref27_CheckPlan.l1 (d + 1 + m) jobs sup p (cols p sup.length i s) (i : Int) (sumN s (pl p i)) (s : Int) = chargeparkref27_CheckPlan.l0 m jobs sup p (cols p sup.length (i + 1) 0) ((i + 1 : Nat) : Int) := by
  obtain ⟨hv, hp, hr, hf⟩ := (ckPlan_iff _ _ _).1 h
  have hjl : (jobs.map toJb).length = jobs.length := List.length_map ..
  have hJ := hv.1.1
  have hS := hv.1.2
  intro d
  induction d with
  | zero =>
    intro s m hs
    have hs' : s = sup.length := by omega
    subst hs'
    have hm := hf.met i (by omega)
    rw [jb_of _ _ hi] at hm
    have hm : sumN sup.length (pl p i) = (rd_T38 jobs (i : Int)).f2 := hm
    rw [show 0 + 1 + m = m + 1 by omega]
    simp only [chargeparkref27_CheckPlan.l1]
    rw [if_neg (by omega), if_pos (by omega), if_pos (by omega), if_pos hm, w64' (x := (i : Int) + 1) (by omega) (by omega), cols_next]
    congr 1
  | succ d ih =>
    intro s m hs
    rw [show d + 1 + 1 + m = (d + 1 + m) + 1 by omega]
    have hb := pl_le h i s hi (by omega)
    have h2 := hf.hi i s (by omega) (by omega)
    have h3 := hf.win i s (by omega) (by omega)
    rw [jb_of _ _ hi] at h2 h3
    have hrow : rd_L5 p (i : Int) = rowAt p i := by simp [rd_L5, rowAt]
    have hl := hr i hi
    have hsum := sumN_bound (n := s) (f := pl p i) (B := 1000) (fun t ht => pl_le h i t hi (by omega))
    have hcol := sumN_bound (n := i) (f := fun k => pl p k s) (B := 1000) (fun t ht => pl_le h t s (by omega) (by omega))
    have hrd := rd_cols p sup.length i s s (by omega)
    rw [if_neg (Nat.lt_irrefl _)] at hrd
    simp only [chargeparkref27_CheckPlan.l1, hrow]
    have hpl : rd (rowAt p i) (s : Int) = pl p i s := rfl
    have hcl := cols_length p sup.length i s
    rw [hpl, if_pos (by omega), if_pos (by omega), if_pos (by omega), if_pos (by omega), if_pos (by omega), if_neg (by omega), if_pos (by omega), if_neg (by
      have : (toJb (rd_T38 jobs (i : Int))).ra = (rd_T38 jobs (i : Int)).f3 := rfl
      omega)]
    have key : (if (s : Int) < ((cols p sup.length i s).length : Int) then (chargeparkref27_CheckPlan.l1 (d + 1 + m) jobs sup p ((cols p sup.length i s).set (s : Int).toNat (wrap64 ((rd (cols p sup.length i s) (s : Int)) + pl p i s))) (i : Int) (wrap64 (sumN s (pl p i) + pl p i s)) (wrap64 ((s : Int) + 1))) else none) =
        chargeparkref27_CheckPlan.l0 m jobs sup p (cols p sup.length (i + 1) 0) ((i + 1 : Nat) : Int) := by
      rw [if_pos (by omega), w64' (x := (s : Int) + 1) (by omega) (by omega), w64' (x := sumN s (pl p i) + pl p i s) (by omega) (by omega), w64' (x := rd (cols p sup.length i s) (s : Int) + pl p i s) (by omega) (by omega), Int.toNat_natCast, cols_set _ _ _ _ (by omega)]
      have := ih (s + 1) m (by omega)
      rw [show ((s + 1 : Nat) : Int) = (s : Int) + 1 by omega] at this
      exact this
    by_cases c : pl p i s > 0
    · have w : (rd_T38 jobs (i : Int)).f0 ≤ (s : Int) ∧ (s : Int) < (rd_T38 jobs (i : Int)).f1 := h3 c
      rw [if_pos c, if_neg (by omega), if_neg (by omega)]
      exact key
    · rw [if_neg c]
      exact key

theorem rcp_l2 (h : ckPlan jobs sup p = true) : ∀ (d s m : Nat), s + d = sup.length → chargeparkref27_CheckPlan.l2 (d + 1 + m) sup (cols p sup.length jobs.length 0) (s : Int) = some true := by
  obtain ⟨hv, hp, hr, hf⟩ := (ckPlan_iff _ _ _).1 h
  have hjl : (jobs.map toJb).length = jobs.length := List.length_map ..
  have hS := hv.1.2
  intro d
  induction d with
  | zero =>
    intro s m hs
    rw [show 0 + 1 + m = m + 1 by omega]
    simp only [chargeparkref27_CheckPlan.l2]
    rw [if_neg (by omega)]
  | succ d ih =>
    intro s m hs
    rw [show d + 1 + 1 + m = (d + 1 + m) + 1 by omega]
    have hrd := rd_cols p sup.length jobs.length 0 s (by omega)
    rw [if_neg (by omega)] at hrd
    have hroom := hf.room s (by omega)
    rw [hjl, sp_of] at hroom
    have hcl := cols_length p sup.length jobs.length 0
    simp only [chargeparkref27_CheckPlan.l2]
    rw [if_pos (by omega), if_pos (by omega), if_pos (by omega), if_neg (by omega), w64' (x := (s : Int) + 1) (by omega) (by omega)]
    have := ih (s + 1) m (by omega)
    rw [show ((s + 1 : Nat) : Int) = (s : Int) + 1 by omega] at this
    exact this

theorem rcp_l0 (h : ckPlan jobs sup p = true) : ∀ (d i m : Nat), i + d = jobs.length → chargeparkref27_CheckPlan.l0 (d * (sup.length + 2) + (sup.length + 2 + m)) jobs sup p (cols p sup.length i 0) (i : Int) = some true := by
  obtain ⟨hv, hp, hr, hf⟩ := (ckPlan_iff _ _ _).1 h
  intro d
  induction d with
  | zero =>
    intro i m hi
    have hi' : i = jobs.length := by omega
    subst hi'
    rw [show 0 * (sup.length + 2) + (sup.length + 2 + m) = (sup.length + 1 + m) + 1 by omega]
    simp only [chargeparkref27_CheckPlan.l0]
    rw [if_neg (by omega)]
    exact rcp_l2 h sup.length 0 m (by omega)
  | succ d ih =>
    intro i m hi
    have hi' : i < jobs.length := by omega
    have hrow : rd_L5 p (i : Int) = rowAt p i := by simp [rd_L5, rowAt]
    have hl := hr i hi'
    rw [show (d + 1) * (sup.length + 2) + (sup.length + 2 + m) = (sup.length + 1 + (d * (sup.length + 2) + (sup.length + 2 + m))) + 1 by rw [Nat.succ_mul]; omega]
    simp only [chargeparkref27_CheckPlan.l0, hrow]
    rw [if_pos (by omega), if_pos (by omega), if_pos (by omega), if_pos (by omega)]
    have := rcp_l1 h i hi' sup.length 0 (d * (sup.length + 2) + (sup.length + 2 + m)) (by omega)
    refine (show _ = _ from this).trans ?_
    exact ih (i + 1) m (by omega)

theorem rcp_true (h : ckPlan jobs sup p = true) (k : Nat) (hk : 1000 ≤ k) : chargeparkref27_CheckPlan.f k jobs sup p = some true := by
  obtain ⟨hv, hp, hr, hf⟩ := (ckPlan_iff _ _ _).1 h
  have hJ := hv.1.1
  have hS := hv.1.2
  unfold chargeparkref27_CheckPlan.f
  rw [rvalid_f _ _ _ (by omega), decide_eq_true hv]
  simp only [Option.bind_some, if_true]
  have hP : jobs.length * (sup.length + 2) ≤ 12 * 26 := Nat.mul_le_mul hJ (by omega)
  obtain ⟨m, rfl⟩ : ∃ m, k = (jobs.length * (sup.length + 2) + (sup.length + 2 + m)) + 1 := ⟨k - (jobs.length * (sup.length + 2) + (sup.length + 2)) - 1, by omega⟩
  have e : ((p.length : Int) != (jobs.length : Int)) = false := by rw [hp]; simp
  rw [e]
  simp only [chargeparkref27_CheckPlan.j0, Bool.false_eq_true, if_false, Int.toNat_natCast]
  rw [if_pos (by omega), if_pos (by omega), ← cols_zero p]
  exact rcp_l0 h jobs.length 0 m (by omega)
end
theorem rchoice_l0 (l : List Int) (n : Nat) (hn : n ≤ 1000) : ∀ (d i k : Nat) (last : Int), i + d = l.length → d + 1 ≤ k → ((i : Int) - 1 ≤ last ∧ last < n) → (0 < i → last = rd l ((i : Int) - 1)) → (i = 0 → last = -1) →
    chargeparkref27_choice.l0 k l (n : Int) (i : Int) = some (decide (choiceFrom n last (l.drop i))) := by
  intro d
  induction d with
  | zero =>
    intro i k last hi hk _ _ _
    obtain ⟨k, rfl⟩ : ∃ m, k = m + 1 := ⟨k - 1, by omega⟩
    simp only [chargeparkref27_choice.l0]
    rw [if_neg (by omega), List.drop_of_length_le (by omega)]
    first | rfl | (congr 1)
  | succ d ih =>
    intro i k last hi hk hinv hl1 hl0
    obtain ⟨k, rfl⟩ : ∃ m, k = m + 1 := ⟨k - 1, by omega⟩
    simp only [chargeparkref27_choice.l0]
    have hw : wrap64 ((i : Int) + 1) = ((i + 1 : Nat) : Int) := by unfold wrap64; omega
    rw [if_pos (by omega), if_pos (by omega), hw, rd_dropI l i (by omega)]
    have h := fun hc : last < rd l (i : Int) ∧ rd l (i : Int) < n => ih (i + 1) k (rd l (i : Int)) (by omega) (by omega) (by omega) (fun _ => by rw [show ((i + 1 : Nat) : Int) - 1 = (i : Int) by omega]) (fun h => by omega)
    by_cases c1 : 0 ≤ rd l (i : Int) ∧ rd l (i : Int) ≤ (n : Int) - 1
    · rw [if_neg (by omega), if_neg (by omega)]
      rcases Nat.eq_zero_or_pos i with h0 | h0
      · have hl00 := hl0 h0
        rw [if_neg (by omega), h (by omega), hl00]
        have : (-1 < rd l (i : Int) ∧ 0 ≤ rd l (i : Int) ∧ rd l (i : Int) < n) := by omega
        congr 1
        simp only [choiceFrom, this, true_and, and_self]
      · have hw2 : wrap64 ((i : Int) - 1) = (i : Int) - 1 := by unfold wrap64; omega
        rw [if_pos (by omega), hw2, if_pos (by omega), if_pos (by omega), ← hl1 h0]
        by_cases c2 : rd l (i : Int) ≤ last
        · rw [if_pos c2]
          congr 1; symm; rw [decide_eq_false_iff_not]; intro hh; have := hh.1.1; omega
        · rw [if_neg c2, h (by omega)]
          have : (last < rd l (i : Int) ∧ 0 ≤ rd l (i : Int) ∧ rd l (i : Int) < n) := by omega
          congr 1
          simp only [choiceFrom, this, true_and, and_self]
    · have no : (some false : Option Bool) = some (decide (choiceFrom n last (rd l (i : Int) :: l.drop (i + 1)))) := by
        congr 1; symm; rw [decide_eq_false_iff_not]; intro hh; exact c1 ⟨hh.1.2.1, by have := hh.1.2.2; omega⟩
      by_cases c3 : rd l (i : Int) < 0
      · rw [if_pos c3]; exact no
      · rw [if_neg c3, if_pos (by omega)]; exact no
theorem rchoice_f (l : List Int) (n : Nat) (hn : n ≤ 1000) (k : Nat) (hk : l.length + 1 ≤ k) : chargeparkref27_choice.f k l (n : Int) = some (decide (choiceOk n l)) := by
  have := rchoice_l0 l n hn l.length 0 k (-1) (by omega) hk (by omega) (fun h => by omega) (fun _ => rfl)
  rw [List.drop_zero] at this
  exact this

theorem rhas_l0 (l : List Int) (x : Int) (hl : l.length ≤ 1000) : ∀ (d i k : Nat), i + d = l.length → d + 1 ≤ k → chargeparkref27_has.l0 k l x (i : Int) = some (decide (x ∈ l.drop i)) := by
  intro d
  induction d with
  | zero =>
    intro i k hi hk
    obtain ⟨k, rfl⟩ : ∃ m, k = m + 1 := ⟨k - 1, by omega⟩
    simp only [chargeparkref27_has.l0]
    rw [if_neg (by omega), List.drop_of_length_le (by omega)]
    simp
  | succ d ih =>
    intro i k hi hk
    obtain ⟨k, rfl⟩ : ∃ m, k = m + 1 := ⟨k - 1, by omega⟩
    simp only [chargeparkref27_has.l0]
    have hw : wrap64 ((i : Int) + 1) = ((i + 1 : Nat) : Int) := by unfold wrap64; omega
    rw [if_pos (by omega), if_pos (by omega), hw, rd_dropI l i (by omega)]
    by_cases c : rd l (i : Int) = x
    · rw [if_pos c]; simp [c]
    · rw [if_neg c, ih (i + 1) k (by omega) (by omega)]
      have : ¬ x = rd l (i : Int) := fun e => c e.symm
      simp [this]
theorem rhas_f (l : List Int) (x : Int) (hl : l.length ≤ 1000) (k : Nat) (hk : l.length + 1 ≤ k) : chargeparkref27_has.f k l x = some (decide (x ∈ l)) := by
  have := rhas_l0 l x hl l.length 0 k (by omega) hk
  rw [List.drop_zero] at this
  exact this

theorem giveStep_yes {ra : Int} {mk : List Bool} {g s : Int} (h : rdOf false mk s = true) : giveStep ra mk g s = g := if_pos h
theorem giveStep_no {ra : Int} {mk : List Bool} {g s : Int} (h : ¬ rdOf false mk s = true) : giveStep ra mk g s = g + ra := if_neg h
section
variable {jobs : List S38} {sup cj cs : List Int}
theorem rcc_l2 (hv : validOk jobs sup) (hs : choiceOk sup.length cs) (x : Nat) (hx : x < jobs.length) (i : Nat) (hi : (i : Int) < 100) (g0 nd : Int) (hg : 0 ≤ g0 ∧ g0 ≤ 1000000) (hn : 0 ≤ nd ∧ nd ≤ 1000000) (n : Nat) (hnn : (rd_T38 jobs (x : Int)).f1 - (rd_T38 jobs (x : Int)).f0 = n) :
    ∀ (d a m : Nat), a + d = n → 30 ≤ m →
    chargeparkref27_CheckCut.l2 (d + 1 + m) jobs (nd - (slotList (rd_T38 jobs (x : Int)).f0 a).foldl (giveStep (rd_T38 jobs (x : Int)).f3 (markOf sup.length cs cs.length)) g0) (i : Int) ((rd_T38 jobs (x : Int)).f0 + (a : Int)) cj cs (rd_T38 jobs (x : Int)).f0 (rd_T38 jobs (x : Int)).f1 (rd_T38 jobs (x : Int)).f2 (rd_T38 jobs (x : Int)).f3 (rd_T38 jobs (x : Int)).f4 =
      chargeparkref27_CheckCut.l1 m jobs (nd - (slotList (rd_T38 jobs (x : Int)).f0 n).foldl (giveStep (rd_T38 jobs (x : Int)).f3 (markOf sup.length cs cs.length)) g0) ((i + 1 : Nat) : Int) cj cs := by
  have hj := hv.2.2 _ (rd_memJ jobs x hx)
  have hS := hv.1.2
  have hcl := choice_small hs
  obtain ⟨⟨j1, j2⟩, j3, j4, j5, _⟩ := hj
  intro d
  induction d with
  | zero =>
    intro a m ha hm
    have ha' : a = n := by omega
    subst ha'
    rw [show 0 + 1 + m = m + 1 by omega]
    simp only [chargeparkref27_CheckCut.l2]
    rw [if_neg (by omega), w64' (x := (i : Int) + 1) (by omega) (by omega)]
    congr 1
  | succ d ih =>
    intro a m ha hm
    rw [show d + 1 + 1 + m = (d + 1 + m) + 1 by omega]
    simp only [chargeparkref27_CheckCut.l2]
    rw [if_pos (by omega), rhas_f cs _ (by omega) _ (by omega), w64' (x := (rd_T38 jobs (x : Int)).f0 + (a : Int) + 1) (by omega) (by omega)]
    simp only [Option.bind_some]
    have h := ih (a + 1) m (by omega) hm
    rw [show (rd_T38 jobs (x : Int)).f0 + ((a + 1 : Nat) : Int) = (rd_T38 jobs (x : Int)).f0 + (a : Int) + 1 by omega, slotList_succ, List.foldl_append] at h
    simp only [List.foldl_cons, List.foldl_nil] at h
    have hb := foldl_give (rd_T38 jobs (x : Int)).f3 (markOf sup.length cs cs.length) j5.1 j5.2 (slotList (rd_T38 jobs (x : Int)).f0 a) g0
    rw [slotList_length] at hb
    obtain ⟨s, hs'⟩ := Int.eq_ofNat_of_zero_le (show 0 ≤ (rd_T38 jobs (x : Int)).f0 + (a : Int) by omega)
    have hm2 := mark_at sup.length cs hs cs.length (Nat.le_refl _) s (by omega)
    rw [List.take_length] at hm2
    rw [hs'] at h ⊢
    by_cases c : (s : Int) ∈ cs
    · rw [decide_eq_true c, if_pos rfl, ← h]
      rw [giveStep_yes (hm2.2 c)]
    · rw [decide_eq_false c, if_neg (by decide), w64' (by omega) (by omega), ← h]
      rw [giveStep_no (fun hh => c (hm2.1 hh))]
      congr 1
      omega

theorem giveJ_bound (hv : validOk jobs sup) (hj : choiceOk jobs.length cj) (mk : List Bool) (g : Int) (hg : 0 ≤ g ∧ g ≤ 24000) : ∀ i, i ≤ cj.length → 0 ≤ giveJ jobs mk cj g i ∧ giveJ jobs mk cj g i ≤ 24000 + 24000 * i := by
  intro i
  induction i with
  | zero => intro _; simp only [giveJ]; omega
  | succ i ih =>
    intro hi
    have := ih (by omega)
    obtain ⟨x0, x1⟩ := choice_at jobs.length cj (-1) hj i (by omega)
    obtain ⟨x, hx⟩ := Int.eq_ofNat_of_zero_le x0
    have hjb := hv.2.2 _ (rd_memJ jobs x (by omega))
    obtain ⟨⟨j1, j2⟩, j3, j4, j5, _⟩ := hjb
    have hS := hv.1.2
    simp only [giveJ, hx]
    have hb := foldl_give (rd_T38 jobs (x : Int)).f3 mk j5.1 j5.2 (slotList (rd_T38 jobs (x : Int)).f0 ((rd_T38 jobs (x : Int)).f1 - (rd_T38 jobs (x : Int)).f0).toNat) (giveJ jobs mk cj g i)
    rw [slotList_length] at hb
    omega

theorem rcc_l1 (hv : validOk jobs sup) (hj : choiceOk jobs.length cj) (hs : choiceOk sup.length cs) (g : Int) (hg : 0 ≤ g ∧ g ≤ 24000) : ∀ (d i m : Nat), i + d = cj.length → 60 ≤ m →
    chargeparkref27_CheckCut.l1 (d * 60 + m) jobs (needOf jobs cj i - giveJ jobs (markOf sup.length cs cs.length) cj g i) (i : Int) cj cs =
      some (decide (needOf jobs cj cj.length - giveJ jobs (markOf sup.length cs cs.length) cj g cj.length > 0)) := by
  have hJ := hv.1.1
  have hS := hv.1.2
  have hcl := choice_small hj
  intro d
  induction d with
  | zero =>
    intro i m hi hm
    have hi' : i = cj.length := by omega
    subst hi'
    obtain ⟨m, rfl⟩ : ∃ q, m = q + 1 := ⟨m - 1, by omega⟩
    rw [show 0 * 60 + (m + 1) = m + 1 by omega]
    simp only [chargeparkref27_CheckCut.l1]
    rw [if_neg (by omega)]
  | succ d ih =>
    intro i m hi hm
    obtain ⟨x0, x1⟩ := choice_at jobs.length cj (-1) hj i (by omega)
    obtain ⟨x, hx⟩ := Int.eq_ofNat_of_zero_le x0
    have hxl : x < jobs.length := by omega
    have hjb := hv.2.2 _ (rd_memJ jobs x hxl)
    obtain ⟨⟨j1, j2⟩, j3, j4, j5, _⟩ := hjb
    have hnb := need_le (cj := cj) (jobs := jobs) (fun j hj => (hv.2.2 j hj).2.2.1) i
    have hgb := giveJ_bound hv hj (markOf sup.length cs cs.length) g hg i (by omega)
    obtain ⟨n, hn⟩ := Int.eq_ofNat_of_zero_le (show 0 ≤ (rd_T38 jobs (x : Int)).f1 - (rd_T38 jobs (x : Int)).f0 by omega)
    rw [show (d + 1) * 60 + m = (n + 1 + (d * 60 + (m + 58 - n))) + 1 by omega]
    simp only [chargeparkref27_CheckCut.l1, hx]
    rw [if_pos (by omega), if_pos (by omega), if_pos (by omega), if_pos (by omega), w64' (by omega) (by omega)]
    have h := rcc_l2 (cj := cj) hv hs x hxl i (by omega) (giveJ jobs (markOf sup.length cs cs.length) cj g i) (needOf jobs cj i + (rd_T38 jobs (x : Int)).f2) (by omega) (by omega) n hn n 0 (d * 60 + (m + 58 - n)) (by omega) (by omega)
    have e0 : (slotList (rd_T38 jobs (x : Int)).f0 0).foldl (giveStep (rd_T38 jobs (x : Int)).f3 (markOf sup.length cs cs.length)) (giveJ jobs (markOf sup.length cs cs.length) cj g i) = giveJ jobs (markOf sup.length cs cs.length) cj g i := by simp [slotList]
    rw [e0] at h
    rw [show needOf jobs cj i - giveJ jobs (markOf sup.length cs cs.length) cj g i + (rd_T38 jobs (x : Int)).f2 = needOf jobs cj i + (rd_T38 jobs (x : Int)).f2 - giveJ jobs (markOf sup.length cs cs.length) cj g i by omega]
    simp only [Int.ofNat_zero, Int.natCast_zero, Int.add_zero] at h
    rw [h]
    have := ih (i + 1) (m + 58 - n) (by omega) (by omega)
    rw [← this]
    congr 1
    simp only [needOf, giveJ, hx]
    rw [hn]
    simp

theorem rcc_l0 (hv : validOk jobs sup) (hj : choiceOk jobs.length cj) (hs : choiceOk sup.length cs) : ∀ (d i m : Nat), i + d = cs.length → 1000 ≤ m →
    chargeparkref27_CheckCut.l0 (d + 1 + m) jobs sup (- giveS sup cs i) (i : Int) cj cs = some (decide (needOf jobs cj cj.length - giveJ jobs (markOf sup.length cs cs.length) cj (giveS sup cs cs.length) cj.length > 0)) := by
  have hJ := hv.1.1
  have hS := hv.1.2
  have hcl := choice_small hs
  have hcj := choice_small hj
  intro d
  induction d with
  | zero =>
    intro i m hi hm
    have hi' : i = cs.length := by omega
    subst hi'
    rw [show 0 + 1 + m = m + 1 by omega]
    simp only [chargeparkref27_CheckCut.l0]
    rw [if_neg (by omega)]
    have hgb := giveS_le (cs := cs) hv.2.1 cs.length
    have := rcc_l1 hv hj hs (giveS sup cs cs.length) (by omega) cj.length 0 (m - cj.length * 60) (by omega) (by omega)
    rw [show cj.length * 60 + (m - cj.length * 60) = m by omega] at this
    simp only [needOf, giveJ, Int.zero_sub] at this
    exact this
  | succ d ih =>
    intro i m hi hm
    obtain ⟨x0, x1⟩ := choice_at sup.length cs (-1) hs i (by omega)
    obtain ⟨x, hx⟩ := Int.eq_ofNat_of_zero_le x0
    have hgb := giveS_le (cs := cs) hv.2.1 i
    have hu := hv.2.1 _ (rd_memI sup x (by omega))
    unfold unitOk at hu
    rw [show d + 1 + 1 + m = (d + 1 + m) + 1 by omega]
    simp only [chargeparkref27_CheckCut.l0, hx]
    rw [if_pos (by omega), if_pos (by omega), if_pos (by omega), if_pos (by omega), w64' (x := (i : Int) + 1) (by omega) (by omega), w64' (by omega) (by omega)]
    have := ih (i + 1) m (by omega) hm
    rw [← this]
    congr 1
    simp only [giveS, hx]
    omega

theorem rcc_true (h : ckCut jobs sup cj cs = true) (k : Nat) (hk : 2000 ≤ k) : chargeparkref27_CheckCut.f k jobs sup cj cs = some true := by
  obtain ⟨hv, hj, hs, hg⟩ := (ckCut_iff _ _ _ _).1 h
  have hJ := hv.1.1
  have hS := hv.1.2
  have hcl := choice_small hs
  have hcj := choice_small hj
  unfold chargeparkref27_CheckCut.f
  rw [rvalid_f _ _ _ (by omega), decide_eq_true hv, rchoice_f cj _ (by omega) _ (by omega), decide_eq_true hj, rchoice_f cs _ (by omega) _ (by omega), decide_eq_true hs]
  simp only [Option.bind_some, if_true, Bool.not_true]
  obtain ⟨k, rfl⟩ : ∃ m, k = m + 1 := ⟨k - 1, by omega⟩
  simp only [chargeparkref27_CheckCut.j0, Bool.false_eq_true, if_false]
  have := rcc_l0 hv hj hs cs.length 0 (k - cs.length - 1) (by omega) (by omega)
  rw [show cs.length + 1 + (k - cs.length - 1) = k by omega] at this
  simp only [giveS, Int.neg_zero] at this
  refine this.trans ?_
  congr 1
  rw [decide_eq_true_eq, need_eq hj, give_eq hv hj hs]
  omega
end

end Go.Proofs.Ytioglahnliajlaa.Pr
