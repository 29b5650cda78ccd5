import Derived.Test.YtioglahnliajlaaPr13
import Derived.Test.YtioglahnliajlaaKinds
import Derived.Test.YtioglahnliajlaaGMet
import Derived.Test.YtioglahnliajlaaGTh
set_option linter.unusedVariables false
set_option linter.unusedSimpArgs false
namespace Go.Proofs.Ytioglahnliajlaa.Pure
open Go.RowKit Go.Proofs.Ytioglahnliajlaa.Pr Go.Proofs.YtioglahnliajlaaW.PrintWords Go.Proofs.YtioglahnliajlaaW.PrintLast Go.Proofs.YtioglahnliajlaaW.PrintMore
open Go.Proofs.Ytioglahnliajlaa.FlowTheory Go.Proofs.Ytioglahnliajlaa.PlanTheory
def moreSup (sup : List Int) (c : Int) (n : Nat) : List Int := (List.range n).map (fun s : Nat => mn 1000 (rd sup (s : Int) + c * ((s % 2 : Nat) : Int)))
theorem moreSup_length (sup : List Int) (c : Int) (n : Nat) : (moreSup sup c n).length = n := by simp [moreSup]
theorem moreSup_at (sup : List Int) (c : Int) (n s : Nat) (h : s < n) : rd (moreSup sup c n) (s : Int) = mn 1000 (rd sup (s : Int) + c * ((s % 2 : Nat) : Int)) := by
  simp [moreSup, rd, List.getD_eq_getElem?_getD, h]
theorem i64_bounds {n : Int} (h : Pr.Int64 .i64 n) : -9223372036854775808 ≤ n ∧ n ≤ 9223372036854775807 := by
  unfold Pr.Int64 at h
  simp [Lit.wf] at h
  have h1 : IntKind.i64.min = -9223372036854775808 := rfl
  have h2 : IntKind.i64.max = 9223372036854775807 := rfl
  omega
theorem rd_setJ (l : List S38) (i : Nat) (v : S38) (h : i < l.length) : rd_T38 (l.set i v) (i : Int) = v := by
  simp [rd_T38, List.getD_eq_getElem?_getD, h]
theorem mn_min (a b : Int) : mn a b = min a b := by unfold mn; split <;> omega
theorem mx_max (a b : Int) : mx a b = max a b := by unfold mx; split <;> omega

theorem fewer_l0 (sup : List Int) (c : Int) (hc : 0 ≤ c ∧ c ≤ 1000) (hS : sup.length ≤ 24) (hu : ∀ x ∈ sup, unitOk x) (b0 : Bool) (j1 j2 : List S38) : ∀ (d s m : Nat), s + d = sup.length →
    chargeparklaw27_PlanFewer.l0 (d + (1 + m)) sup c true b0 true j1 j2 (moreSup sup c s) (s : Int) = chargeparklaw27_PlanFewer.l0 (1 + m) sup c true b0 true j1 j2 (moreSup sup c sup.length) (sup.length : Int) := by
  intro d
  induction d with
  | zero =>
    intro s m hs
    have : s = sup.length := by omega
    subst this
    rw [Nat.zero_add]
  | succ d ih =>
    intro s m hs
    have h := ih (s + 1) m (by omega)
    have hx := hu _ (rd_memI sup s (by omega))
    unfold unitOk at hx
    have hl := moreSup_length sup c s
    have ht : Int.tmod (s : Int) 2 = ((s % 2 : Nat) : Int) := by rw [Int.tmod_eq_emod_of_nonneg (by omega)]; omega
    have hb : 0 ≤ c * ((s % 2 : Nat) : Int) ∧ c * ((s % 2 : Nat) : Int) ≤ 1000 := by
      rcases Nat.mod_two_eq_zero_or_one s with e | e <;> rw [e] <;> omega
    have e1 : moreSup sup c (s + 1) = moreSup sup c s ++ [mn 1000 (rd sup (s : Int) + c * ((s % 2 : Nat) : Int))] := by simp [moreSup, List.range_succ]
    rw [← h, show d + 1 + (1 + m) = (d + (1 + m)) + 1 by omega]
    conv => lhs; unfold chargeparklaw27_PlanFewer.l0
    rw [if_pos (by omega), if_pos (by omega), if_pos (by omega), w64' (x := (s : Int) + 1) (by omega) (by omega), ht, w64' (x := c * ((s % 2 : Nat) : Int)) (by omega) (by omega), w64' (by omega) (by omega), e1, show ((s + 1 : Nat) : Int) = (s : Int) + 1 by omega]

theorem PlanFewer (y0 : List (S38)) (y1 : List (Int)) (a2 : Int) (a3 : Int) (a4 : Int) (a5 : Int) (a6 : Int) : (y0.length ≤ maxLen ∧ ∀ y ∈ y0, good38 y) → (y1.length ≤ maxLen ∧ ∀ y ∈ y1, Int64 .i64 y) → Int64 .i64 a2 → Int64 .i64 a3 → Int64 .i64 a4 → Int64 .i64 a5 → Int64 .i64 a6 → ∃ k, Ytioglahnliajlaa.Pr.chargeparklaw27_PlanFewer.f k (y0) (y1) (a2) (a3) (a4) (a5) (a6) = some true := by
  intro _ _ i2 i3 i4 i5 i6
  refine ⟨2002, ?_⟩
  unfold chargeparklaw27_PlanFewer.f
  rw [phead_f _ (by omega), rfew_f _ _ _ _ _ (by simp) _ (by simp), rvalid_f _ _ _ (by omega)]
  simp only [Option.bind_some]
  have stop : ∀ k, chargeparklaw27_PlanFewer.j1 (k + 1) y0 y1 a2 a3 a4 a5 a6 true true = some true := fun k => by simp [chargeparklaw27_PlanFewer.j1]
  have rest : chargeparklaw27_PlanFewer.j0 2002 y0 y1 a2 a3 a4 a5 a6 true false = some true := by
    simp only [chargeparklaw27_PlanFewer.j0, Bool.false_eq_true, if_false]
    exact stop 2000
  split
  · by_cases hv : validOk y0 y1
    · rw [decide_eq_true hv]
      simp only [chargeparklaw27_PlanFewer.j0, if_true]
      split
      · exact stop 2000
      split
      · exact stop 2000
      split
      · exact stop 2000
      split
      · exact stop 2000
      split
      · exact stop 2000
      split
      · exact stop 2000
      split
      · exact stop 2000
      rename_i c0 c2 c3 c4 c5 c6 c6'
      by_cases c4' : a4 > 1000
      · rw [decide_eq_true c4']; exact stop 2000
      rw [decide_eq_false c4']
      simp only [chargeparklaw27_PlanFewer.j1, Bool.false_eq_true, if_false]
      have hJ := hv.1.1
      have hS := hv.1.2
      obtain ⟨i, hi⟩ := Int.eq_ofNat_of_zero_le (show 0 ≤ Int.tmod a2 (y0.length : Int) from Int.tmod_nonneg _ (by omega))
      have hil : i < y0.length := by
        have := Int.tmod_lt_of_pos a2 (show 0 < (y0.length : Int) by omega)
        omega
      obtain ⟨w, hw⟩ := Int.eq_ofNat_of_zero_le (show 0 ≤ Int.tmod a5 30 from Int.tmod_nonneg _ (by omega))
      have hwl : (w : Int) < 30 := by
        have := Int.tmod_lt_of_pos a5 (show (0 : Int) < 30 by decide)
        omega
      obtain ⟨v, hv7⟩ := Int.eq_ofNat_of_zero_le (show 0 ≤ Int.tmod a5 7 from Int.tmod_nonneg _ (by omega))
      have hvl : (v : Int) < 7 := by
        have := Int.tmod_lt_of_pos a5 (show (0 : Int) < 7 by decide)
        omega
      obtain ⟨⟨j1, j2⟩, j3, j4, j5, j6⟩ := hv.2.2 _ (rd_memJ y0 i hil)
      have i3' := (i64_bounds i3).2
      obtain ⟨b0, hb0, hcan⟩ := met_f hv
      rw [hi, hw, hv7, w64' (x := (i : Int) + 1) (by omega) (by omega), hb0]
      simp only [Option.bind_some, List.nil_append, List.length_nil, Nat.zero_add, Int.toNat_natCast]
      have htl : (y0.take i).length = i := by simp; omega
      have hdl : (y0.drop ((i : Int) + 1).toNat).length ≤ 12 := by simp; omega
      rw [if_neg (by omega), if_pos (by omega), if_pos (by omega), if_pos (by omega), if_pos (by omega), if_pos (by omega), if_pos (by omega), if_pos (by omega), if_pos (by omega), if_pos (by omega), if_pos (by omega)]
      simp only [rd_setJ, List.set_set, List.length_set, hil]
      rw [w64' (x := (rd_T38 y0 (i : Int)).f2 - a3) (by omega) (by omega), w64' (x := (rd_T38 y0 (i : Int)).f3 + a4) (by omega) (by omega), w64' (x := (rd_T38 y0 (i : Int)).f0 - (w : Int)) (by omega) (by omega), w64' (x := (rd_T38 y0 (i : Int)).f1 + (v : Int)) (by omega) (by omega),
        show ((i : Int) + 1).toNat = i + 1 by omega]
      generalize hj : (⟨mx 0 ((rd_T38 y0 (i : Int)).f0 - (w : Int)), mn (y1.length : Int) ((rd_T38 y0 (i : Int)).f1 + (v : Int)), mx 0 ((rd_T38 y0 (i : Int)).f2 - a3), mn 1000 ((rd_T38 y0 (i : Int)).f3 + a4), (rd_T38 y0 (i : Int)).f4⟩ : S38) = j
      have hj0 : j.f0 = max 0 ((rd_T38 y0 (i : Int)).f0 - (w : Int)) := by rw [← hj]; exact mx_max _ _
      have hj1 : j.f1 = min (y1.length : Int) ((rd_T38 y0 (i : Int)).f1 + (v : Int)) := by rw [← hj]; exact mn_min _ _
      have hj2 : j.f2 = max 0 ((rd_T38 y0 (i : Int)).f2 - a3) := by rw [← hj]; exact mx_max _ _
      have hj3 : j.f3 = min 1000 ((rd_T38 y0 (i : Int)).f3 + a4) := by rw [← hj]; exact mn_min _ _
      have hj4 : j.f4 = (rd_T38 y0 (i : Int)).f4 := by rw [← hj]
      clear hj
      have h := fewer_l0 y1 a6 ⟨by omega, by omega⟩ hS hv.2.1 b0 (y0.take i ++ y0.drop (i + 1)) (y0.set i j) y1.length 0 (1999 - y1.length) (by omega)
      rw [show y1.length + (1 + (1999 - y1.length)) = 2000 by omega] at h
      refine (show _ = _ from h).trans ?_
      rw [show 1 + (1999 - y1.length) = (1999 - y1.length) + 1 by omega]
      simp only [chargeparklaw27_PlanFewer.l0]
      rw [if_neg (by omega)]
      have hsl := moreSup_length y1 a6 y1.length
      have hsu : ∀ s, s < y1.length → rd y1 (s : Int) ≤ rd (moreSup y1 a6 y1.length) (s : Int) ∧ 0 ≤ rd (moreSup y1 a6 y1.length) (s : Int) ∧ rd (moreSup y1 a6 y1.length) (s : Int) ≤ 1000 := fun s hs => by
        have hx := hv.2.1 _ (rd_memI y1 s hs)
        unfold unitOk at hx
        rw [moreSup_at _ _ _ _ hs, mn_min]
        rcases Nat.mod_two_eq_zero_or_one s with e | e <;> rw [e] <;> omega
      have v1 : validOk (y0.take i ++ y0.drop (i + 1)) y1 := by
        refine ⟨⟨by simp; omega, hS⟩, hv.2.1, fun x hx => hv.2.2 x ?_⟩
        rcases List.mem_append.1 hx with e | e
        · exact List.mem_of_mem_take e
        · exact List.mem_of_mem_drop e
      have v2 : validOk (y0.set i j) (moreSup y1 a6 y1.length) := by
        refine ⟨⟨by simp; omega, by omega⟩, fun x hx => ?_, fun x hx => ?_⟩
        · obtain ⟨s, hs, rfl⟩ := List.getElem_of_mem hx
          have := hsu s (by omega)
          rw [rd_at _ _ hs] at this
          exact this.2
        · rw [hsl]
          rcases List.mem_or_eq_of_mem_set hx with e | e
          · exact hv.2.2 x e
          · subst e
            unfold jobOk
            omega
      obtain ⟨b1, e1, k1⟩ := met_f v1
      obtain ⟨b2, e2, k2⟩ := met_f v2
      have hjl : (y0.map toJb).length = y0.length := List.length_map ..
      have c1' : Pr.Can y0 y1 → Pr.Can (y0.take i ++ y0.drop (i + 1)) y1 := fun ⟨p, hp⟩ => by
        have hf := feas_less hp i (by omega)
        rw [← List.map_take, ← List.map_drop, ← List.map_append] at hf
        exact ⟨_, hf⟩
      have c2' : Pr.Can y0 y1 → Pr.Can (y0.set i j) (moreSup y1 a6 y1.length) := fun ⟨p, hp⟩ => by
        have hji : jb ((y0.set i j).map toJb) i = toJb j := by
          rw [jb_of _ _ (by simp; omega), rd_setJ _ _ _ hil]
        refine feas_ease hp i (by omega) (by simp) (fun a ha => ?_) ?_ ?_ ?_ (fun s hs => ?_) hsl (fun s hs => ?_)
        · unfold jb
          rw [List.map_set]
          simp [List.getD_eq_getElem?_getD, List.getElem?_set_ne (Ne.symm ha)]
        · rw [hji]
          show 0 ≤ j.f2
          omega
        · rw [hji, jb_of _ _ hil]
          show j.f2 ≤ (rd_T38 y0 (i : Int)).f2
          omega
        · rw [hji, jb_of _ _ hil]
          show (rd_T38 y0 (i : Int)).f3 ≤ j.f3
          omega
        · rw [hji, jb_of _ _ hil]
          rintro ⟨a, b⟩
          have a' : (rd_T38 y0 (i : Int)).f0 ≤ (s : Int) := a
          have b' : (s : Int) < (rd_T38 y0 (i : Int)).f1 := b
          exact ⟨by show j.f0 ≤ (s : Int); omega, by show (s : Int) < j.f1; omega⟩
        · rw [sp_of, sp_of]
          exact (hsu s hs).1
      rw [e1, e2]
      simp only [Option.bind_some, if_true]
      cases b0 with
      | false => rfl
      | true =>
        rw [k1.2 (c1' (hcan.1 rfl)), k2.2 (c2' (hcan.1 rfl))]
        rfl
    · rw [decide_eq_false hv]
      exact rest
  · exact rest
end Go.Proofs.Ytioglahnliajlaa.Pure
