import Derived.Test.YtioglahnliajlaaPr15
import Derived.Test.YtioglahnliajlaaKinds
import Derived.Test.YtioglahnliajlaaGMet
import Derived.Test.YtioglahnliajlaaGTh
set_option linter.unusedVariables false
set_option linter.unusedSimpArgs false
namespace Go.Proofs.Ytioglahnliajlaa.Pure
open Go.RowKit Go.Proofs.Ytioglahnliajlaa.Pr Go.Proofs.YtioglahnliajlaaW.PrintWords Go.Proofs.YtioglahnliajlaaW.PrintLast Go.Proofs.YtioglahnliajlaaW.PrintMore
open Go.Proofs.Ytioglahnliajlaa.FlowTheory Go.Proofs.Ytioglahnliajlaa.PlanTheory
def rotL (js : List S38) (t n : Nat) : List S38 := (List.range n).map (fun i : Nat => rd_T38 js (((i + t) % js.length : Nat) : Int))
def mirJ (S : Int) (j : S38) : S38 := ⟨S - j.f1, S - j.f0, j.f2, j.f3, j.f4⟩
def mirL (js : List S38) (S : Nat) (n : Nat) : List S38 := (List.range n).map (fun i : Nat => mirJ (S : Int) (rd_T38 js (i : Int)))
def scaJ (c : Int) (j : S38) : S38 := ⟨j.f0, j.f1, j.f2 * c, j.f3 * c, j.f4⟩
def scaL (js : List S38) (c : Int) (n : Nat) : List S38 := (List.range n).map (fun i : Nat => scaJ c (rd_T38 js (i : Int)))
def mirS (sup : List Int) (n : Nat) : List Int := (List.range n).map (fun s : Nat => rd sup ((sup.length - 1 - s : Nat) : Int))
def scaS (sup : List Int) (c : Int) (n : Nat) : List Int := (List.range n).map (fun s : Nat => rd sup (s : Int) * c)
theorem range_at {α : Type} (d : α) (f : Nat → α) (n i : Nat) (h : i < n) : ((List.range n).map f).getD ((i : Int).toNat) d = f i := by
  simp [List.getD_eq_getElem?_getD, h]

theorem turned_l0 {js : List S38} {sup : List Int} (hv : validOk js sup) (a2 c : Int) (hc : 1 ≤ c ∧ c ≤ 1000) (h0 : 0 < js.length) (t : Nat) (ht : t < js.length) (e : Int.tmod a2 (js.length : Int) = (t : Int)) : ∀ (d i m : Nat), i + d = js.length →
    chargeparklaw27_PlanTurned.l0 (d + (1 + m)) js sup a2 c true (rotL js t i) (mirL js sup.length i) (scaL js c i) (i : Int) =
      chargeparklaw27_PlanTurned.l1 m js sup c true (rotL js t js.length) (mirL js sup.length js.length) (scaL js c js.length) [] [] 0 := by
  have hJ := hv.1.1
  have hS := hv.1.2
  intro d
  induction d with
  | zero =>
    intro i m hi
    have : i = js.length := by omega
    subst this
    rw [show 0 + (1 + m) = m + 1 by omega]
    simp only [chargeparklaw27_PlanTurned.l0]
    rw [if_neg (by omega)]
  | succ d ih =>
    intro i m hi
    have h := ih (i + 1) m (by omega)
    rw [← h, show d + 1 + (1 + m) = (d + (1 + m)) + 1 by omega]
    obtain ⟨⟨j1, j2⟩, j3, j4, j5, j6⟩ := hv.2.2 _ (rd_memJ js i (by omega))
    have l1 : (rotL js t i).length = i := by simp [rotL]
    have l2 : (mirL js sup.length i).length = i := by simp [mirL]
    have l3 : (scaL js c i).length = i := by simp [scaL]
    have em : Int.tmod ((i : Int) + (t : Int)) (js.length : Int) = (((i + t) % js.length : Nat) : Int) := by
      rw [Int.tmod_eq_emod_of_nonneg (by omega), ← Int.natCast_add, ← Int.natCast_emod]
    have hm := Nat.mod_lt (i + t) h0
    have b2 : 0 ≤ (rd_T38 js (i : Int)).f2 * c ∧ (rd_T38 js (i : Int)).f2 * c ≤ 1000 * 1000 := ⟨Int.mul_nonneg j4.1 (by omega), Int.mul_le_mul j4.2 hc.2 (by omega) (by omega)⟩
    have b3 : 0 ≤ (rd_T38 js (i : Int)).f3 * c ∧ (rd_T38 js (i : Int)).f3 * c ≤ 1000 * 1000 := ⟨Int.mul_nonneg j5.1 (by omega), Int.mul_le_mul j5.2 hc.2 (by omega) (by omega)⟩
    have e1 : rotL js t (i + 1) = rotL js t i ++ [rd_T38 js (((i + t) % js.length : Nat) : Int)] := by simp [rotL, List.range_succ]
    have e2 : mirL js sup.length (i + 1) = mirL js sup.length i ++ [mirJ (sup.length : Int) (rd_T38 js (i : Int))] := by simp [mirL, List.range_succ]
    have e3 : scaL js c (i + 1) = scaL js c i ++ [scaJ c (rd_T38 js (i : Int))] := by simp [scaL, List.range_succ]
    conv => lhs; unfold chargeparklaw27_PlanTurned.l0
    rw [e, w64' (x := (i : Int) + (t : Int)) (by omega) (by omega), em, w64' (x := (i : Int) + 1) (by omega) (by omega), w64' (x := (sup.length : Int) - (rd_T38 js (i : Int)).f1) (by omega) (by omega), w64' (x := (sup.length : Int) - (rd_T38 js (i : Int)).f0) (by omega) (by omega),
      w64' (x := (rd_T38 js (i : Int)).f2 * c) (by omega) (by omega), w64' (x := (rd_T38 js (i : Int)).f3 * c) (by omega) (by omega)]
    rw [if_pos (by omega), if_pos (by omega), if_neg (by omega), if_pos (by omega), if_pos (by omega), if_pos (by omega), if_pos (by omega), if_pos (by omega), e1, e2, e3, show ((i + 1 : Nat) : Int) = (i : Int) + 1 by omega]
    rfl

theorem turned_l1 {js : List S38} {sup : List Int} (hv : validOk js sup) (c : Int) (hc : 1 ≤ c ∧ c ≤ 1000) (a b d' : List S38) : ∀ (d s m : Nat), s + d = sup.length →
    chargeparklaw27_PlanTurned.l1 (d + (1 + m)) js sup c true a b d' (mirS sup s) (scaS sup c s) (s : Int) = chargeparklaw27_PlanTurned.l1 (1 + m) js sup c true a b d' (mirS sup sup.length) (scaS sup c sup.length) (sup.length : Int) := by
  have hS := hv.1.2
  intro d
  induction d with
  | zero =>
    intro s m hs
    have : s = sup.length := by omega
    subst this
    rw [Nat.zero_add]
  | succ d ih =>
    intro s m hs
    have h := ih (s + 1) m (by omega)
    rw [← h, show d + 1 + (1 + m) = (d + (1 + m)) + 1 by omega]
    have hx := hv.2.1 _ (rd_memI sup s (by omega))
    unfold unitOk at hx
    have l1 : (mirS sup s).length = s := by simp [mirS]
    have l2 : (scaS sup c s).length = s := by simp [scaS]
    have b2 : 0 ≤ rd sup (s : Int) * c ∧ rd sup (s : Int) * c ≤ 1000 * 1000 := ⟨Int.mul_nonneg hx.1 (by omega), Int.mul_le_mul hx.2 hc.2 (by omega) (by omega)⟩
    have e1 : mirS sup (s + 1) = mirS sup s ++ [rd sup ((sup.length - 1 - s : Nat) : Int)] := by simp [mirS, List.range_succ]
    have e2 : scaS sup c (s + 1) = scaS sup c s ++ [rd sup (s : Int) * c] := by simp [scaS, List.range_succ]
    conv => lhs; unfold chargeparklaw27_PlanTurned.l1
    rw [w64' (x := (sup.length : Int) - 1) (by omega) (by omega), w64' (x := (sup.length : Int) - 1 - (s : Int)) (by omega) (by omega), w64' (x := (s : Int) + 1) (by omega) (by omega), w64' (x := rd sup (s : Int) * c) (by omega) (by omega),
      show (sup.length : Int) - 1 - (s : Int) = ((sup.length - 1 - s : Nat) : Int) by omega]
    rw [if_pos (by omega), if_pos (by omega), if_pos (by omega), if_pos (by omega), if_pos (by omega), if_pos (by omega), e1, e2, show ((s + 1 : Nat) : Int) = (s : Int) + 1 by omega]

theorem met_bad {js : List S38} {sup : List Int} (hv : ¬ validOk js sup) : chargeparklaw27_met.f js sup = some (false, false) := by
  unfold chargeparklaw27_met.f
  rw [sched_bad hv]
  rfl

theorem PlanTurned (y0 : List (S38)) (y1 : List (Int)) (a2 : Int) (a3 : Int) : (y0.length ≤ maxLen ∧ ∀ y ∈ y0, good38 y) → (y1.length ≤ maxLen ∧ ∀ y ∈ y1, Int64 .i64 y) → Int64 .i64 a2 → Int64 .i64 a3 → ∃ k, Ytioglahnliajlaa.Pr.chargeparklaw27_PlanTurned.f k (y0) (y1) (a2) (a3) = some true := by
  intro _ _ _ _
  refine ⟨2002, ?_⟩
  unfold chargeparklaw27_PlanTurned.f
  rw [phead_f _ (by omega), rfew_f _ _ _ _ _ (by simp) _ (by simp), rvalid_f _ _ _ (by omega)]
  simp only [Option.bind_some]
  have stop : ∀ k, chargeparklaw27_PlanTurned.j1 (k + 1) y0 y1 a2 a3 true true = some true := fun k => by simp [chargeparklaw27_PlanTurned.j1]
  have rest : chargeparklaw27_PlanTurned.j0 2002 y0 y1 a2 a3 true false = some true := by
    simp only [chargeparklaw27_PlanTurned.j0, Bool.false_eq_true, if_false]
    exact stop 2000
  split
  · by_cases hv : validOk y0 y1
    · rw [decide_eq_true hv]
      simp only [chargeparklaw27_PlanTurned.j0, if_true]
      split
      · exact stop 2000
      split
      · exact stop 2000
      rename_i c2 c3
      by_cases c3' : a3 > 1000
      · rw [decide_eq_true c3']; exact stop 2000
      rw [decide_eq_false c3']
      simp only [chargeparklaw27_PlanTurned.j1, Bool.false_eq_true, if_false]
      have hJ := hv.1.1
      have hS := hv.1.2
      -- the lists that are built
      obtain ⟨t, step⟩ : ∃ t : Nat, chargeparklaw27_PlanTurned.l0 2000 y0 y1 a2 a3 true [] [] [] 0 = chargeparklaw27_PlanTurned.l1 (1999 - y0.length) y0 y1 a3 true (rotL y0 t y0.length) (mirL y0 y1.length y0.length) (scaL y0 a3 y0.length) [] [] 0 := by
        rcases Nat.eq_zero_or_pos y0.length with h0 | h0
        · refine ⟨0, ?_⟩
          rw [h0]
          conv => lhs; unfold chargeparklaw27_PlanTurned.l0
          rw [if_neg (by omega)]
          rfl
        · obtain ⟨t, e⟩ := Int.eq_ofNat_of_zero_le (show 0 ≤ Int.tmod a2 (y0.length : Int) from Int.tmod_nonneg _ (by omega))
          have ht : t < y0.length := by
            have := Int.tmod_lt_of_pos a2 (show 0 < (y0.length : Int) by omega)
            omega
          have h := turned_l0 hv a2 a3 ⟨by omega, by omega⟩ h0 t ht e y0.length 0 (1999 - y0.length) (by omega)
          rw [show y0.length + (1 + (1999 - y0.length)) = 2000 by omega] at h
          exact ⟨t, h⟩
      rw [step]
      have h1 := turned_l1 hv a3 ⟨by omega, by omega⟩ (rotL y0 t y0.length) (mirL y0 y1.length y0.length) (scaL y0 a3 y0.length) y1.length 0 (1998 - y0.length - y1.length) (by omega)
      rw [show y1.length + (1 + (1998 - y0.length - y1.length)) = 1999 - y0.length by omega] at h1
      refine (show _ = _ from h1).trans ?_
      rw [show 1 + (1998 - y0.length - y1.length) = (1998 - y0.length - y1.length) + 1 by omega]
      simp only [chargeparklaw27_PlanTurned.l1]
      rw [if_neg (by omega), rvalid_f _ _ _ (by omega)]
      have r1 : (rotL y0 t y0.length).length = y0.length := by simp [rotL]
      have r2 : (mirL y0 y1.length y0.length).length = y0.length := by simp [mirL]
      have r3 : (scaL y0 a3 y0.length).length = y0.length := by simp [scaL]
      have r4 : (mirS y1 y1.length).length = y1.length := by simp [mirS]
      have r5 : (scaS y1 a3 y1.length).length = y1.length := by simp [scaS]
      have hat1 : ∀ i, i < y0.length → rd_T38 (rotL y0 t y0.length) (i : Int) = rd_T38 y0 (((i + t) % y0.length : Nat) : Int) := fun i hi => range_at _ _ _ _ hi
      have hat2 : ∀ i, i < y0.length → rd_T38 (mirL y0 y1.length y0.length) (i : Int) = mirJ (y1.length : Int) (rd_T38 y0 (i : Int)) := fun i hi => range_at _ _ _ _ hi
      have hat3 : ∀ i, i < y0.length → rd_T38 (scaL y0 a3 y0.length) (i : Int) = scaJ a3 (rd_T38 y0 (i : Int)) := fun i hi => range_at _ _ _ _ hi
      have hat4 : ∀ s, s < y1.length → rd (mirS y1 y1.length) (s : Int) = rd y1 ((y1.length - 1 - s : Nat) : Int) := fun s hs => range_at _ _ _ _ hs
      have hat5 : ∀ s, s < y1.length → rd (scaS y1 a3 y1.length) (s : Int) = rd y1 (s : Int) * a3 := fun s hs => range_at _ _ _ _ hs
      have hml : ∀ (l : List S38), (l.map toJb).length = l.length := fun l => List.length_map ..
      have hmod : ∀ i, i < y0.length → (i + t) % y0.length < y0.length := fun i hi => Nat.mod_lt _ (by omega)
      have v1 : validOk (rotL y0 t y0.length) y1 := by
        refine ⟨⟨by omega, hS⟩, hv.2.1, fun x hx => ?_⟩
        obtain ⟨i, hi, rfl⟩ := List.mem_map.1 hx
        exact hv.2.2 _ (rd_memJ y0 _ (hmod i (List.mem_range.1 hi)))
      have v2 : validOk (mirL y0 y1.length y0.length) (mirS y1 y1.length) := by
        refine ⟨⟨by omega, by omega⟩, fun x hx => ?_, fun x hx => ?_⟩
        · obtain ⟨s, hs, rfl⟩ := List.mem_map.1 hx
          exact hv.2.1 _ (rd_memI y1 _ (by have := List.mem_range.1 hs; omega))
        · obtain ⟨i, hi, rfl⟩ := List.mem_map.1 hx
          have := hv.2.2 _ (rd_memJ y0 i (List.mem_range.1 hi))
          rw [r4]
          unfold jobOk mirJ at *
          simp only
          omega
      obtain ⟨b0, e0, k0⟩ := met_f hv
      obtain ⟨b1, e1, k1⟩ := met_f v1
      obtain ⟨b2, e2, k2⟩ := met_f v2
      have same1 : Pr.Can (rotL y0 t y0.length) y1 ↔ Pr.Can y0 y1 := by
        constructor
        · rintro ⟨p, hp⟩
          refine ⟨_, turn_can (js' := y0.map toJb) hp (y0.length - t % y0.length) (by rw [hml, hml, r1]) (fun i hi => ?_)⟩
          rw [hml, r1] at hi ⊢
          rw [jb_of _ _ hi, jb_of _ _ (by rw [r1]; exact Nat.mod_lt _ (by omega)), hat1 _ (Nat.mod_lt _ (by omega))]
          have : ((i + (y0.length - t % y0.length)) % y0.length + t) % y0.length = i := by
            rw [Nat.mod_add_mod, ← Nat.add_mod_mod]
            have := Nat.mod_lt t (show 0 < y0.length by omega)
            rw [show i + (y0.length - t % y0.length) + t % y0.length = i + y0.length by omega, Nat.add_mod_right, Nat.mod_eq_of_lt hi]
          rw [this]
        · rintro ⟨p, hp⟩
          refine ⟨_, turn_can (js' := (rotL y0 t y0.length).map toJb) hp t (by rw [hml, hml, r1]) (fun i hi => ?_)⟩
          rw [hml] at hi ⊢
          rw [jb_of _ _ (by omega), jb_of _ _ (hmod i hi), hat1 i hi]
      have same2 : Pr.Can (mirL y0 y1.length y0.length) (mirS y1 y1.length) ↔ Pr.Can y0 y1 := by
        constructor
        · rintro ⟨p, hp⟩
          refine ⟨_, mirror_can (js' := y0.map toJb) (sup' := y1) hp (by rw [hml, hml, r2]) r4.symm (fun i hi => ?_) (fun s hs => ?_)⟩
          · rw [hml, r2] at hi
            rw [jb_of _ _ hi, jb_of _ _ (by omega), hat2 i hi, r4]
            refine ⟨?_, ?_, rfl, rfl⟩
            · show (rd_T38 y0 (i : Int)).f0 = (y1.length : Int) - ((y1.length : Int) - (rd_T38 y0 (i : Int)).f0)
              omega
            · show (rd_T38 y0 (i : Int)).f1 = (y1.length : Int) - ((y1.length : Int) - (rd_T38 y0 (i : Int)).f1)
              omega
          · rw [r4] at hs ⊢
            rw [sp_of, sp_of, hat4 _ (by omega)]
            congr 2
            omega
        · rintro ⟨p, hp⟩
          refine ⟨_, mirror_can (js' := (mirL y0 y1.length y0.length).map toJb) (sup' := mirS y1 y1.length) hp (by rw [hml, hml, r2]) r4 (fun i hi => ?_) (fun s hs => ?_)⟩
          · rw [hml] at hi
            rw [jb_of _ _ hi, jb_of _ _ (by omega), hat2 i hi]
            exact ⟨rfl, rfl, rfl, rfl⟩
          · rw [sp_of, sp_of, hat4 _ hs]
      rw [e0, e1, e2]
      simp only [Option.bind_some, if_true]
      rw [met_same k1 k0 same1, met_same k2 k0 same2]
      simp only [beq_self_eq_true, if_true]
      by_cases v3 : validOk (scaL y0 a3 y0.length) (scaS y1 a3 y1.length)
      · obtain ⟨b3, e3, k3⟩ := met_f v3
        rw [e3, decide_eq_true v3]
        simp only [Option.bind_some, if_true]
        have x : Scaled a3 (y0.map toJb) ((scaL y0 a3 y0.length).map toJb) y1 (scaS y1 a3 y1.length) := by
          refine ⟨by rw [hml, hml, r3], r5, fun i hi => ?_, fun s hs => ?_⟩
          · rw [hml] at hi
            rw [jb_of _ _ (by omega), jb_of _ _ hi, hat3 i hi]
            rfl
          · rw [sp_of, sp_of, hat5 s hs]
        have same3 : Pr.Can (scaL y0 a3 y0.length) (scaS y1 a3 y1.length) ↔ Pr.Can y0 y1 := by
          constructor
          · rintro ⟨p, hp⟩
            rcases sched_says hv with ⟨q, _, h⟩ | ⟨cj, cs, _, h⟩
            · exact plan_can h
            · exact absurd hp (scale_cut x (by omega) ((ckCut_iff _ _ _ _).1 h).2.2.2)
          · rintro ⟨p, hp⟩
            exact ⟨_, scale_can x (by omega) hp⟩
        rw [met_same k3 k0 same3]
        simp
      · rw [met_bad v3, decide_eq_false v3]
        rfl
    · rw [decide_eq_false hv]
      exact rest
  · exact rest
end Go.Proofs.Ytioglahnliajlaa.Pure
