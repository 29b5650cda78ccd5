-- Written by a program of this session over the kit's print.
import Derived.Test.YtioglahnliajlaaPr0
import Derived.Test.YtioglahnliajlaaPr8
namespace Go.Proofs.Ytioglahnliajlaa.Pr
open Go.RowKit Go.Proofs.YtioglahnliajlaaW.PrintWords Go.Proofs.YtioglahnliajlaaW.PrintLast Go.Proofs.YtioglahnliajlaaW.PrintMore
attribute [local go_sem] max2_int min2_int max_two min_two max_three min_three max_four min_four   -- for this text's walks alone
set_option linter.unusedVariables false
set_option linter.unusedSimpArgs false

/-! ### chargeparkref27_CheckPlan: function 17 -/
mutual
def chargeparkref27_CheckPlan.j0 : Nat → List (S38) → List Int → List (List Int) → Bool → Option (Bool)
  | 0, _, _, _, _ => none
  | k + 1, x0, x1, x2, x25 => if x25 = true then (some false) else (if 0 ≤ (x1.length : Int) then (if ((x1.length : Int) : Int).toNat ≤ 35184372088832 then (chargeparkref27_CheckPlan.l0 k x0 x1 x2 (List.replicate ((x1.length : Int) : Int).toNat 0) 0) else (none)) else (none))
def chargeparkref27_CheckPlan.l0 : Nat → List (S38) → List Int → List (List Int) → List Int → Int → Option (Bool)
  | 0, _, _, _, _, _ => none
  | k + 1, x0, x1, x2, x8, x9 => if x9 < (x0.length : Int) then (if 0 ≤ x9 then (if x9 < (x2.length : Int) then (if ((rd_L5 x2 x9).length : Int) = (x1.length : Int) then (chargeparkref27_CheckPlan.l1 k x0 x1 x2 x8 x9 0 0) else (some false)) else (none)) else (none)) else (chargeparkref27_CheckPlan.l2 k x1 x8 0)
def chargeparkref27_CheckPlan.l1 : Nat → List (S38) → List Int → List (List Int) → List Int → Int → Int → Int → Option (Bool)
  | 0, _, _, _, _, _, _, _ => none
  | k + 1, x0, x1, x2, x8, x9, x10, x11 => if x11 < (x1.length : Int) then (if 0 ≤ x9 then (if x9 < (x2.length : Int) then (if 0 ≤ x11 then (if x11 < ((rd_L5 x2 x9).length : Int) then (if (rd (rd_L5 x2 x9) x11) < 0 then (some false) else (if x9 < (x0.length : Int) then (if (rd (rd_L5 x2 x9) x11) > ((rd_T38 x0 x9).f3) then (some false) else (if (rd (rd_L5 x2 x9) x11) > 0 then (if x11 < ((rd_T38 x0 x9).f0) then (some false) else (if x11 ≥ ((rd_T38 x0 x9).f1) then (some false) else (if x11 < (x8.length : Int) then (chargeparkref27_CheckPlan.l1 k x0 x1 x2 (x8.set (x11 : Int).toNat (wrap64 ((rd x8 x11) + (rd (rd_L5 x2 x9) x11)))) x9 (wrap64 (x10 + (rd (rd_L5 x2 x9) x11))) (wrap64 (x11 + 1))) else (none)))) else (if x11 < (x8.length : Int) then (chargeparkref27_CheckPlan.l1 k x0 x1 x2 (x8.set (x11 : Int).toNat (wrap64 ((rd x8 x11) + (rd (rd_L5 x2 x9) x11)))) x9 (wrap64 (x10 + (rd (rd_L5 x2 x9) x11))) (wrap64 (x11 + 1))) else (none)))) else (none))) else (none)) else (none)) else (none)) else (none)) else (if 0 ≤ x9 then (if x9 < (x0.length : Int) then (if x10 = ((rd_T38 x0 x9).f2) then (chargeparkref27_CheckPlan.l0 k x0 x1 x2 x8 (wrap64 (x9 + 1))) else (some false)) else (none)) else (none))
def chargeparkref27_CheckPlan.l2 : Nat → List Int → List Int → Int → Option (Bool)
  | 0, _, _, _ => none
  | k + 1, x1, x8, x13 => if x13 < (x1.length : Int) then (if 0 ≤ x13 then (if x13 < (x8.length : Int) then (if (rd x8 x13) > (rd x1 x13) then (some false) else (chargeparkref27_CheckPlan.l2 k x1 x8 (wrap64 (x13 + 1)))) else (none)) else (none)) else (some true)
end
def chargeparkref27_CheckPlan.f (k : Nat) (l0 : List (S38)) (l1 : List Int) (l2 : List (List Int)) : Option (Bool) := (chargeparkref27_Valid.f k l0 l1).bind fun t281 => (if t281 = true then (chargeparkref27_CheckPlan.j0 k l0 l1 l2 ((l2.length : Int) != (l0.length : Int))) else (chargeparkref27_CheckPlan.j0 k l0 l1 l2 true))
theorem chargeparkref27_CheckPlan.mono_l : ∀ k, (∀ y0 y1 y2 y3, LeO (chargeparkref27_CheckPlan.j0 k y0 y1 y2 y3) (chargeparkref27_CheckPlan.j0 (k + 1) y0 y1 y2 y3)) ∧ (∀ y0 y1 y2 y3 y4, LeO (chargeparkref27_CheckPlan.l0 k y0 y1 y2 y3 y4) (chargeparkref27_CheckPlan.l0 (k + 1) y0 y1 y2 y3 y4)) ∧ (∀ y0 y1 y2 y3 y4 y5 y6, LeO (chargeparkref27_CheckPlan.l1 k y0 y1 y2 y3 y4 y5 y6) (chargeparkref27_CheckPlan.l1 (k + 1) y0 y1 y2 y3 y4 y5 y6)) ∧ (∀ y0 y1 y2, LeO (chargeparkref27_CheckPlan.l2 k y0 y1 y2) (chargeparkref27_CheckPlan.l2 (k + 1) y0 y1 y2))
  | 0 => ⟨fun _ _ _ _ r h => by simp [chargeparkref27_CheckPlan.j0] at h, fun _ _ _ _ _ r h => by simp [chargeparkref27_CheckPlan.l0] at h, fun _ _ _ _ _ _ _ r h => by simp [chargeparkref27_CheckPlan.l1] at h, fun _ _ _ r h => by simp [chargeparkref27_CheckPlan.l2] at h⟩
  | k + 1 => by
    obtain ⟨ih0, ih1, ih2, ih3⟩ := chargeparkref27_CheckPlan.mono_l k
    refine ⟨?_, ?_, ?_, ?_⟩
    · intro y0 y1 y2 y3
      unfold chargeparkref27_CheckPlan.j0
      repeat' first
      | (with_reducible exact ih0 _ _ _ _)
      | (with_reducible exact ih1 _ _ _ _ _)
      | (with_reducible exact ih2 _ _ _ _ _ _ _)
      | (with_reducible exact ih3 _ _ _)
      | (with_reducible exact chargeparkref27_Valid.mono _ _ _)
      | (with_reducible exact LeO.refl _)
      | (with_reducible exact LeO.none _)
      | (with_reducible refine LeO.ite ?_ ?_)
      | (with_reducible refine LeO.bind ?_ (fun _ => ?_))
      | exact ih0 _ _ _ _
      | exact ih1 _ _ _ _ _
      | exact ih2 _ _ _ _ _ _ _
      | exact ih3 _ _ _
      | exact chargeparkref27_Valid.mono _ _ _
      | exact LeO.none _
      | refine LeO.ite ?_ ?_
      | refine LeO.bind ?_ (fun _ => ?_)
    · intro y0 y1 y2 y3 y4
      unfold chargeparkref27_CheckPlan.l0
      repeat' first
      | (with_reducible exact ih0 _ _ _ _)
      | (with_reducible exact ih1 _ _ _ _ _)
      | (with_reducible exact ih2 _ _ _ _ _ _ _)
      | (with_reducible exact ih3 _ _ _)
      | (with_reducible exact chargeparkref27_Valid.mono _ _ _)
      | (with_reducible exact LeO.refl _)
      | (with_reducible exact LeO.none _)
      | (with_reducible refine LeO.ite ?_ ?_)
      | (with_reducible refine LeO.bind ?_ (fun _ => ?_))
      | exact ih0 _ _ _ _
      | exact ih1 _ _ _ _ _
      | exact ih2 _ _ _ _ _ _ _
      | exact ih3 _ _ _
      | exact chargeparkref27_Valid.mono _ _ _
      | exact LeO.none _
      | refine LeO.ite ?_ ?_
      | refine LeO.bind ?_ (fun _ => ?_)
    · intro y0 y1 y2 y3 y4 y5 y6
      unfold chargeparkref27_CheckPlan.l1
      repeat' first
      | (with_reducible exact ih0 _ _ _ _)
      | (with_reducible exact ih1 _ _ _ _ _)
      | (with_reducible exact ih2 _ _ _ _ _ _ _)
      | (with_reducible exact ih3 _ _ _)
      | (with_reducible exact chargeparkref27_Valid.mono _ _ _)
      | (with_reducible exact LeO.refl _)
      | (with_reducible exact LeO.none _)
      | (with_reducible refine LeO.ite ?_ ?_)
      | (with_reducible refine LeO.bind ?_ (fun _ => ?_))
      | exact ih0 _ _ _ _
      | exact ih1 _ _ _ _ _
      | exact ih2 _ _ _ _ _ _ _
      | exact ih3 _ _ _
      | exact chargeparkref27_Valid.mono _ _ _
      | exact LeO.none _
      | refine LeO.ite ?_ ?_
      | refine LeO.bind ?_ (fun _ => ?_)
    · intro y0 y1 y2
      unfold chargeparkref27_CheckPlan.l2
      repeat' first
      | (with_reducible exact ih0 _ _ _ _)
      | (with_reducible exact ih1 _ _ _ _ _)
      | (with_reducible exact ih2 _ _ _ _ _ _ _)
      | (with_reducible exact ih3 _ _ _)
      | (with_reducible exact chargeparkref27_Valid.mono _ _ _)
      | (with_reducible exact LeO.refl _)
      | (with_reducible exact LeO.none _)
      | (with_reducible refine LeO.ite ?_ ?_)
      | (with_reducible refine LeO.bind ?_ (fun _ => ?_))
      | exact ih0 _ _ _ _
      | exact ih1 _ _ _ _ _
      | exact ih2 _ _ _ _ _ _ _
      | exact ih3 _ _ _
      | exact chargeparkref27_Valid.mono _ _ _
      | exact LeO.none _
      | refine LeO.ite ?_ ?_
      | refine LeO.bind ?_ (fun _ => ?_)
theorem chargeparkref27_CheckPlan.mono : ∀ a0 a1 a2 k, LeO (chargeparkref27_CheckPlan.f k a0 a1 a2) (chargeparkref27_CheckPlan.f (k + 1) a0 a1 a2) := by
  intro a0 a1 a2 k
  obtain ⟨ih0, ih1, ih2, ih3⟩ := chargeparkref27_CheckPlan.mono_l k
  unfold chargeparkref27_CheckPlan.f
  repeat' first
      | (with_reducible exact ih0 _ _ _ _)
      | (with_reducible exact ih1 _ _ _ _ _)
      | (with_reducible exact ih2 _ _ _ _ _ _ _)
      | (with_reducible exact ih3 _ _ _)
      | (with_reducible exact chargeparkref27_Valid.mono _ _ _)
      | (with_reducible exact LeO.refl _)
      | (with_reducible exact LeO.none _)
      | (with_reducible refine LeO.ite ?_ ?_)
      | (with_reducible refine LeO.bind ?_ (fun _ => ?_))
      | exact ih0 _ _ _ _
      | exact ih1 _ _ _ _ _
      | exact ih2 _ _ _ _ _ _ _
      | exact ih3 _ _ _
      | exact chargeparkref27_Valid.mono _ _ _
      | exact LeO.none _
      | refine LeO.ite ?_ ?_
      | refine LeO.bind ?_ (fun _ => ?_)
set_option maxHeartbeats 8000000 in
set_option maxRecDepth 100000 in
theorem chargeparkref27_CheckPlan.calls (k : Nat) (A0 : Option Addr) (c0 : Nat) (l0 : List (S38)) (A1 : Option Addr) (c1 : Nat) (l1 : List Int) (A2 : Option Addr) (c2 : Nat) (l2 : List (List Int)) (r : Bool) (w : World) (hr0 : Kd.C k38 w A0 l0.length l0) (hc0 : l0.length ≤ c0) (hr1 : Kd.C (Kd.int .i64) w A1 l1.length l1) (hc1 : l1.length ≤ c1) (hr2 : Kd.C (Kd.slice 3 (Kd.int .i64)) w A2 l2.length l2) (hc2 : l2.length ≤ c2) (h : chargeparkref27_CheckPlan.f k l0 l1 l2 = some r) :
    Calls Try.prog 17 #[.slice A0 l0.length c0, .slice A1 l1.length c1, .slice A2 l2.length c2] w fun e w' => e = .returned (.bool r) ∧ Below w.heap.size w w' := by
  have HR0 := Aside0.mk hr0
  have HC0 := Aside0.mk hc0
  clear hr0 hc0
  have HR1 := Aside0.mk hr1
  have HC1 := Aside0.mk hc1
  clear hr1 hc1
  have HR2 := Aside0.mk hr2
  have HC2 := Aside0.mk hc2
  clear hr2 hc2
  have HB := Aside0.mk (Below.refl w.heap.size w)
  have H : ((chargeparkref27_Valid.f k l0 l1).bind fun t281 => (if t281 = true then (chargeparkref27_CheckPlan.j0 k l0 l1 l2 ((l2.length : Int) != (l0.length : Int))) else (chargeparkref27_CheckPlan.j0 k l0 l1 l2 true))) = some r := h
  clear h
  replace H := Option.bind_eq_some_iff.mp H
  obtain ⟨t281, A40, H⟩ := H
  replace H : (if t281 = true then (chargeparkref27_CheckPlan.j0 k l0 l1 l2 ((l2.length : Int) != (l0.length : Int))) else (chargeparkref27_CheckPlan.j0 k l0 l1 l2 true)) = some r := H
  have A4 := Aside0.mk A40
  clear A40
  have HC5 := Aside0.mk H
  clear H
  go_enter Try.func17, Try.ntmps17
  go_upto_region 2 with (first | (go_at_call 15; (with_reducible refine (chargeparkref27_Valid.calls k _ _ l0 _ _ l1 t281 _ ?side1 ?side2 ?side3 ?side4 A4.out).mono ?_); (case side1 => repeat (first | exact HR0.out | (with_reducible refine Kd.C_alloc ?_ _) | (with_reducible refine Kd.C_drewN ?_ _) | (with_reducible refine Kd.C_drew ?_))); (case side2 => exact HC0.out); (case side3 => repeat (first | exact HR1.out | (with_reducible refine Kd.C_alloc ?_ _) | (with_reducible refine Kd.C_drewN ?_ _) | (with_reducible refine Kd.C_drew ?_))); (case side4 => exact HC1.out); rintro e w6 ⟨rfl, hb⟩; have n0_ := Aside0.mk (below_step (by repeat (first | (with_reducible first | exact HB.out | apply below_alloc | apply pw_below_drewN | apply below_drew1) | exact HB.out)) hb); clear HB; have HB := n0_; clear n0_; (try clear hb); (try clear hb2); (try clear hk); (try clear hi)))
  repeat (go_quiet (first | (go_at_call 15; (with_reducible refine (chargeparkref27_Valid.calls k _ _ l0 _ _ l1 t281 _ ?side1 ?side2 ?side3 ?side4 A4.out).mono ?_); (case side1 => repeat (first | exact HR0.out | (with_reducible refine Kd.C_alloc ?_ _) | (with_reducible refine Kd.C_drewN ?_ _) | (with_reducible refine Kd.C_drew ?_))); (case side2 => exact HC0.out); (case side3 => repeat (first | exact HR1.out | (with_reducible refine Kd.C_alloc ?_ _) | (with_reducible refine Kd.C_drewN ?_ _) | (with_reducible refine Kd.C_drew ?_))); (case side4 => exact HC1.out); rintro e w6 ⟨rfl, hb⟩; have n0_ := Aside0.mk (below_step (by repeat (first | (with_reducible first | exact HB.out | apply below_alloc | apply pw_below_drewN | apply below_drew1) | exact HB.out)) hb); clear HB; have HB := n0_; clear n0_; (try clear hb); (try clear hb2); (try clear hk); (try clear hi))); go_upto_region 2 with (first | (go_at_call 15; (with_reducible refine (chargeparkref27_Valid.calls k _ _ l0 _ _ l1 t281 _ ?side1 ?side2 ?side3 ?side4 A4.out).mono ?_); (case side1 => repeat (first | exact HR0.out | (with_reducible refine Kd.C_alloc ?_ _) | (with_reducible refine Kd.C_drewN ?_ _) | (with_reducible refine Kd.C_drew ?_))); (case side2 => exact HC0.out); (case side3 => repeat (first | exact HR1.out | (with_reducible refine Kd.C_alloc ?_ _) | (with_reducible refine Kd.C_drewN ?_ _) | (with_reducible refine Kd.C_drew ?_))); (case side4 => exact HC1.out); rintro e w6 ⟨rfl, hb⟩; have n0_ := Aside0.mk (below_step (by repeat (first | (with_reducible first | exact HB.out | apply below_alloc | apply pw_below_drewN | apply below_drew1) | exact HB.out)) hb); clear HB; have HB := n0_; clear n0_; (try clear hb); (try clear hb2); (try clear hk); (try clear hi))))
  (try simp only [Act.put, List.setIfInBounds_toArray, List.set_cons_zero, List.set_cons_succ])
  go_cut [25] (fun v25 wc => ∃ (kq : Nat) (x25_4 : Bool), v25 = .bool x25_4 ∧ Aside0 (chargeparkref27_CheckPlan.j0 kq l0 l1 l2 x25_4 = some r) ∧ Aside0 (kq ≤ k) ∧ Aside0 (Below w.heap.size w wc))
  case first =>
    have H := HC5.out
    clear HC5
    by_cases c7 : t281 = true
    · subst c7
      have H1 : (chargeparkref27_CheckPlan.j0 k l0 l1 l2 ((l2.length : Int) != (l0.length : Int))) = some r := by rw [if_pos rfl] at H; exact H
      clear H
      have H := H1
      clear H1
      have H' := Aside0.mk H
      clear H
      go_wp2
      repeat (go_quiet (fail); try go_wp2)
      go_meet
      case rel => exact ⟨_, (((l2.length : Int) != (l0.length : Int))), (by first | rfl | (simp; done) | (simp [*]; done)), H', ⟨by first | omega | exact Nat.le_refl _⟩, ⟨by repeat (first | (with_reducible first | exact HB.out | apply below_alloc | apply pw_below_drewN | apply below_drew1) | exact HB.out)⟩⟩
    · replace c7 := Bool.eq_false_iff.mpr c7
      subst c7
      have H1 : (chargeparkref27_CheckPlan.j0 k l0 l1 l2 true) = some r := by rw [if_neg (show ¬ (false = true) by decide)] at H; exact H
      clear H
      have H := H1
      clear H1
      have H' := Aside0.mk H
      clear H
      go_wp2
      repeat (go_quiet (fail); try go_wp2)
      go_meet
      case rel => exact ⟨_, (true), (by first | rfl | (simp; done) | (simp [*]; done)), H', ⟨by first | omega | exact Nat.le_refl _⟩, ⟨by repeat (first | (with_reducible first | exact HB.out | apply below_alloc | apply pw_below_drewN | apply below_drew1) | exact HB.out)⟩⟩
  case rest =>
    clear HC5
    try clear c1
    try clear c2
    try clear p2
    try clear c7
    obtain ⟨kq, x25_4, rfl, HA, HJ4, HB⟩ := hcut
    cases kq with
    | zero => exact absurd HA.out (by simp [chargeparkref27_CheckPlan.j0])
    | succ kj4 =>
      have H := HA.out
      clear HA
      simp only [chargeparkref27_CheckPlan.j0] at H
      by_cases c8 : x25_4 = true
      · subst c8
        have H1 : (some false) = some r := by rw [if_pos rfl] at H; exact H
        clear H
        have H := H1
        clear H1
        obtain rfl := Option.some.inj H
        go_wp2
        repeat (go_quiet (fail); try go_wp2)
        go_ret
        exact ⟨by first | rfl | (simp [errW_none, errW_some] <;> rfl) | (simp [*, errW_none, errW_some] <;> rfl), by repeat (first | (with_reducible first | exact HB.out | apply below_alloc | apply pw_below_drewN | apply below_drew1) | exact HB.out)⟩
      · replace c8 := Bool.eq_false_iff.mpr c8
        subst c8
        have H1 : (if 0 ≤ (l1.length : Int) then (if ((l1.length : Int) : Int).toNat ≤ 35184372088832 then (chargeparkref27_CheckPlan.l0 kj4 l0 l1 l2 (List.replicate ((l1.length : Int) : Int).toNat 0) 0) else (none)) else (none)) = some r := by rw [if_neg (show ¬ (false = true) by decide)] at H; exact H
        clear H
        have H := H1
        clear H1
        by_cases c9 : 0 ≤ (l1.length : Int)
        · rw [if_pos c9] at H
          have c9b0 := eq_true c9
          have c9b1 : decide (0 ≤ (l1.length : Int)) = true := decide_eq_true c9
          clear c9
          by_cases c10 : ((l1.length : Int) : Int).toNat ≤ 35184372088832
          · rw [if_pos c10] at H
            have c10b0 := eq_true c10
            have c10b1 : decide (((l1.length : Int) : Int).toNat ≤ 35184372088832) = true := decide_eq_true c10
            clear c10
            obtain ⟨y282, hy282⟩ : ∃ y_ : List Int, y_ = (List.replicate ((l1.length : Int) : Int).toNat 0) := ⟨_, rfl⟩
            replace H : (chargeparkref27_CheckPlan.l0 kj4 l0 l1 l2 y282 0) = some r := by first | (rw [hy282]; with_reducible exact H) | (have H2_ := (Option.bind_some _ _).symm.trans H; rw [hy282]; with_reducible exact H2_) | (have H2_ := (Option.bind_some _ _).symm.trans H; with_reducible exact H2_) | with_reducible exact H | (rw [hy282]; exact H) | exact H
            have Ny282 := Aside0.mk hy282
            clear hy282
            have H' := Aside0.mk H
            clear H
            go_wp2_with (first | ((with_reducible refine gate_dst (N := 28) rfl ?_); (try (refine gate_guard (by rfl) ?_; dsimp only)); refine Kd.R_make (Kd.int .i64) _ 3 rfl (N := 28) rfl 23 _ _ rfl (l1.length : Int) rfl rfl Try.underlying23 (.int .i64 0) 8 info3 rfl (by decide) (by omega) 0 (ok := fun _ => True) (okp := fun _ => True) rfl (fun _ hk => hk) trivial (of_decide_eq_true (by first | (with_reducible assumption) | assumption)) (Nat.le_trans (Nat.mul_le_mul_right _ (of_decide_eq_true (by first | (with_reducible assumption) | assumption) : (l1.length : Int).toNat ≤ 35184372088832)) (by omega)) (Below.refl _ _) (Nat.le_refl _) ?_; intro v283 w11 ho12 hb hg_ hnew_; clear hg_ hnew_; (first | rw [← Ny282.out] at ho12 | (simp only [Int.reduceToNat] at ho12; rw [← Ny282.out] at ho12)); have n0_ := Aside0.mk (Kd.R_lower ho12 (below_size (by repeat (first | (with_reducible first | exact HB.out | apply below_alloc | apply pw_below_drewN | apply below_drew1) | exact HB.out)))); have n1_ := Aside0.mk (below_step (by repeat (first | (with_reducible first | exact HB.out | apply below_alloc | apply pw_below_drewN | apply below_drew1) | exact HB.out)) hb); clear HB; have HO284 := n0_; have HB := n1_; clear n0_ n1_; clear hb ho12))
            repeat (go_quiet (first | ((with_reducible refine gate_dst (N := 28) rfl ?_); (try (refine gate_guard (by rfl) ?_; dsimp only)); refine Kd.R_make (Kd.int .i64) _ 3 rfl (N := 28) rfl 23 _ _ rfl (l1.length : Int) rfl rfl Try.underlying23 (.int .i64 0) 8 info3 rfl (by decide) (by omega) 0 (ok := fun _ => True) (okp := fun _ => True) rfl (fun _ hk => hk) trivial (of_decide_eq_true (by first | (with_reducible assumption) | assumption)) (Nat.le_trans (Nat.mul_le_mul_right _ (of_decide_eq_true (by first | (with_reducible assumption) | assumption) : (l1.length : Int).toNat ≤ 35184372088832)) (by omega)) (Below.refl _ _) (Nat.le_refl _) ?_; intro v283 w11 ho12 hb hg_ hnew_; clear hg_ hnew_; (first | rw [← Ny282.out] at ho12 | (simp only [Int.reduceToNat] at ho12; rw [← Ny282.out] at ho12)); have n0_ := Aside0.mk (Kd.R_lower ho12 (below_size (by repeat (first | (with_reducible first | exact HB.out | apply below_alloc | apply pw_below_drewN | apply below_drew1) | exact HB.out)))); have n1_ := Aside0.mk (below_step (by repeat (first | (with_reducible first | exact HB.out | apply below_alloc | apply pw_below_drewN | apply below_drew1) | exact HB.out)) hb); clear HB; have HO284 := n0_; have HB := n1_; clear n0_ n1_; clear hb ho12)); try go_wp2_with (first | ((with_reducible refine gate_dst (N := 28) rfl ?_); (try (refine gate_guard (by rfl) ?_; dsimp only)); refine Kd.R_make (Kd.int .i64) _ 3 rfl (N := 28) rfl 23 _ _ rfl (l1.length : Int) rfl rfl Try.underlying23 (.int .i64 0) 8 info3 rfl (by decide) (by omega) 0 (ok := fun _ => True) (okp := fun _ => True) rfl (fun _ hk => hk) trivial (of_decide_eq_true (by first | (with_reducible assumption) | assumption)) (Nat.le_trans (Nat.mul_le_mul_right _ (of_decide_eq_true (by first | (with_reducible assumption) | assumption) : (l1.length : Int).toNat ≤ 35184372088832)) (by omega)) (Below.refl _ _) (Nat.le_refl _) ?_; intro v283 w11 ho12 hb hg_ hnew_; clear hg_ hnew_; (first | rw [← Ny282.out] at ho12 | (simp only [Int.reduceToNat] at ho12; rw [← Ny282.out] at ho12)); have n0_ := Aside0.mk (Kd.R_lower ho12 (below_size (by repeat (first | (with_reducible first | exact HB.out | apply below_alloc | apply pw_below_drewN | apply below_drew1) | exact HB.out)))); have n1_ := Aside0.mk (below_step (by repeat (first | (with_reducible first | exact HB.out | apply below_alloc | apply pw_below_drewN | apply below_drew1) | exact HB.out)) hb); clear HB; have HO284 := n0_; have HB := n1_; clear n0_ n1_; clear hb ho12)))
            go_loopg [9] kj4 (fun kq v9 w' => ∃ (x8_2 : List Int) (x9_2 : Int), v9 = .int .i64 x9_2 ∧ Aside0 (chargeparkref27_CheckPlan.l0 kq l0 l1 l2 x8_2 x9_2 = some r) ∧ Aside0 (kq ≤ kj4) ∧ Aside0 (Kd.R (Kd.int .i64) 3 w' w.heap.size (fun _ => True) v283 x8_2) ∧ Aside0 (Below w.heap.size w w'))
            case atStart => exact ⟨(y282), (0), (by first | rfl | (simp; done) | (simp [*]; done)), H', ⟨Nat.le_refl _⟩, ⟨by (with_reducible repeat (first | apply Kd.R_alloc | apply Kd.R_drewN | apply Kd.R_drew)); exact HO284.out⟩, ⟨by repeat (first | (with_reducible first | exact HB.out | apply below_alloc | apply pw_below_drewN | apply below_drew1) | exact HB.out)⟩⟩
            case round =>
              clear H'
              try clear c1
              try clear c2
              try clear p2
              try clear c7
              try clear c8
              try clear c9
              try clear c9b0
              try clear c9b1
              try clear c10
              try clear c10b0
              try clear c10b1
              try clear p2
              obtain ⟨x8_2, x9_2, rfl, HA, HK2, HO_8, HB⟩ := hrel
              cases gk with
              | zero => exact absurd HA.out (by simp [chargeparkref27_CheckPlan.l0])
              | succ k2 =>
                have H := HA.out
                clear HA
                simp only [chargeparkref27_CheckPlan.l0] at H
                by_cases c13 : x9_2 < (l0.length : Int)
                · rw [if_pos c13] at H
                  have c13b0 : decide (x9_2 < (l0.length : Int)) = true := decide_eq_true c13
                  clear c13
                  by_cases c14 : 0 ≤ x9_2
                  · rw [if_pos c14] at H
                    have c14b0 : decide (0 ≤ x9_2) = true := decide_eq_true c14
                    clear c14
                    by_cases c15 : x9_2 < (l2.length : Int)
                    · rw [if_pos c15] at H
                      have c15b0 : decide (x9_2 < (l2.length : Int)) = true := decide_eq_true c15
                      clear c15
                      by_cases c16 : ((rd_L5 l2 x9_2).length : Int) = (l1.length : Int)
                      · rw [if_pos c16] at H
                        have c16b0 : (((rd_L5 l2 x9_2).length : Int) == (l1.length : Int)) = true := beq_iff_eq.mpr c16
                        have c16b1 : (((rd_L5 l2 x9_2).length : Int) != (l1.length : Int)) = false := bne_eq_false_iff_eq.mpr c16
                        have c16b2 : ((rd_L5 l2 x9_2).length == l1.length) = true := by first | simpa using c16 | (simp at c16 ⊢; omega)
                        clear c16
                        have H' := Aside0.mk H
                        clear H
                        have p285 : 0 ≤ (x9_2 : Int) := of_decide_eq_true (by first | (with_reducible assumption) | assumption)
                        have q285 : x9_2 < (l2.length : Int) := of_decide_eq_true (by first | (with_reducible assumption) | assumption)
                        obtain ⟨ad285, A285_0, c285_0, e285, hx285_0, hl285_0, hi285_0⟩ := at_L5 HR2.out x9_2 p285 q285
                        cases e285
                        replace hx285_0 := (HB.out.cell (World.block_lt_of_cell? w _ hx285_0)).trans hx285_0
                        have HR285_0 := Aside0.mk hi285_0
                        have HC285_0 := Aside0.mk hl285_0
                        clear hi285_0 hl285_0
                        replace p285 := eq_true p285
                        replace q285 := eq_true q285
                        go_wp2
                        repeat (go_quiet (fail); try go_wp2)
                        go_loopg [10, 11] k2 (fun kq v10 v11 w' => ∃ (x8_3 : List Int) (x10_3 : Int) (x11_3 : Int), v10 = .int .i64 x10_3 ∧ v11 = .int .i64 x11_3 ∧ Aside0 (chargeparkref27_CheckPlan.l1 kq l0 l1 l2 x8_3 x9_2 x10_3 x11_3 = some r) ∧ Aside0 (kq ≤ k2) ∧ Aside0 (Kd.R (Kd.int .i64) 3 w' w.heap.size (fun _ => True) v283 x8_3) ∧ Aside0 (Below w.heap.size w w'))
                        case atStart => exact ⟨(x8_2), (0), (0), (by first | rfl | (simp; done) | (simp [*]; done)), (by first | rfl | (simp; done) | (simp [*]; done)), H', ⟨Nat.le_refl _⟩, ⟨by (with_reducible repeat (first | apply Kd.R_alloc | apply Kd.R_drewN | apply Kd.R_drew)); exact HO_8.out⟩, ⟨by repeat (first | (with_reducible first | exact HB.out | apply below_alloc | apply pw_below_drewN | apply below_drew1) | exact HB.out)⟩⟩
                        case round =>
                          clear H'
                          try clear c1
                          try clear c2
                          try clear p2
                          try clear q2
                          try clear hx2
                          try clear c7
                          try clear c8
                          try clear c9
                          try clear c9b0
                          try clear c9b1
                          try clear c10
                          try clear c10b0
                          try clear c10b1
                          try clear c13
                          try clear c13b0
                          try clear c14
                          try clear c14b0
                          try clear c15
                          try clear c15b0
                          try clear c16
                          try clear c16b0
                          try clear c16b1
                          try clear c16b2
                          try clear hx285_0
                          try clear p2
                          try clear p285
                          try clear q285
                          obtain ⟨x8_3, x10_3, x11_3, rfl, rfl, HA, HK3, HO_8, HB⟩ := hrel
                          cases gk with
                          | zero => exact absurd HA.out (by simp [chargeparkref27_CheckPlan.l1])
                          | succ k3 =>
                            have H := HA.out
                            clear HA
                            simp only [chargeparkref27_CheckPlan.l1] at H
                            by_cases c17 : x11_3 < (l1.length : Int)
                            · rw [if_pos c17] at H
                              have c17b0 : decide (x11_3 < (l1.length : Int)) = true := decide_eq_true c17
                              clear c17
                              by_cases c18 : 0 ≤ x9_2
                              · rw [if_pos c18] at H
                                have c18b0 : decide (0 ≤ x9_2) = true := decide_eq_true c18
                                clear c18
                                by_cases c19 : x9_2 < (l2.length : Int)
                                · rw [if_pos c19] at H
                                  have c19b0 : decide (x9_2 < (l2.length : Int)) = true := decide_eq_true c19
                                  clear c19
                                  by_cases c20 : 0 ≤ x11_3
                                  · rw [if_pos c20] at H
                                    have c20b0 : decide (0 ≤ x11_3) = true := decide_eq_true c20
                                    clear c20
                                    by_cases c21 : x11_3 < ((rd_L5 l2 x9_2).length : Int)
                                    · rw [if_pos c21] at H
                                      have c21b0 : decide (x11_3 < ((rd_L5 l2 x9_2).length : Int)) = true := decide_eq_true c21
                                      clear c21
                                      by_cases c22 : (rd (rd_L5 l2 x9_2) x11_3) < 0
                                      · rw [if_pos c22] at H
                                        have c22b0 : decide ((rd (rd_L5 l2 x9_2) x11_3) < 0) = true := decide_eq_true c22
                                        clear c22
                                        obtain rfl := Option.some.inj H
                                        have p286 : 0 ≤ (x9_2 : Int) := of_decide_eq_true (by first | (with_reducible assumption) | assumption)
                                        have q286 : x9_2 < (l2.length : Int) := of_decide_eq_true (by first | (with_reducible assumption) | assumption)
                                        obtain ⟨ad286, A286_0, c286_0, e286, hx286_0, hl286_0, hi286_0⟩ := at_L5 HR2.out x9_2 p286 q286
                                        obtain rfl : ad285 = ad286 := (by injection e286)
                                        replace hx286_0 := (HB.out.cell (World.block_lt_of_cell? w _ hx286_0)).trans hx286_0
                                        have HR286_0 := Aside0.mk hi286_0
                                        have HC286_0 := Aside0.mk hl286_0
                                        clear hi286_0 hl286_0
                                        replace p286 := eq_true p286
                                        replace q286 := eq_true q286
                                        have p287 : 0 ≤ (x11_3 : Int) := of_decide_eq_true (by first | (with_reducible assumption) | assumption)
                                        have q287 : x11_3 < ((rd_L5 l2 x9_2).length : Int) := of_decide_eq_true (by first | (with_reducible assumption) | assumption)
                                        obtain ⟨ad287, e287, hx287_0⟩ := Kd.at_int HR286_0.out x11_3 p287 q287
                                        cases e287
                                        replace hx287_0 := (HB.out.cell (World.block_lt_of_cell? w _ hx287_0)).trans hx287_0
                                        replace p287 := eq_true p287
                                        replace q287 := eq_true q287
                                        go_wp2
                                        repeat (go_quiet (fail); try go_wp2)
                                        go_ret
                                        exact ⟨by first | rfl | (simp [errW_none, errW_some] <;> rfl) | (simp [*, errW_none, errW_some] <;> rfl), by repeat (first | (with_reducible first | exact HB.out | apply below_alloc | apply pw_below_drewN | apply below_drew1) | exact HB.out)⟩
                                      · rw [if_neg c22] at H
                                        have c22b0 : decide ((rd (rd_L5 l2 x9_2) x11_3) < 0) = false := decide_eq_false c22
                                        clear c22
                                        by_cases c23 : x9_2 < (l0.length : Int)
                                        · rw [if_pos c23] at H
                                          have c23b0 : decide (x9_2 < (l0.length : Int)) = true := decide_eq_true c23
                                          clear c23
                                          by_cases c24 : (rd (rd_L5 l2 x9_2) x11_3) > ((rd_T38 l0 x9_2).f3)
                                          · rw [if_pos c24] at H
                                            have c24b0 : decide (((rd_T38 l0 x9_2).f3) < (rd (rd_L5 l2 x9_2) x11_3)) = true := decide_eq_true c24
                                            clear c24
                                            obtain rfl := Option.some.inj H
                                            have p286 : 0 ≤ (x9_2 : Int) := of_decide_eq_true (by first | (with_reducible assumption) | assumption)
                                            have q286 : x9_2 < (l2.length : Int) := of_decide_eq_true (by first | (with_reducible assumption) | assumption)
                                            obtain ⟨ad286, A286_0, c286_0, e286, hx286_0, hl286_0, hi286_0⟩ := at_L5 HR2.out x9_2 p286 q286
                                            obtain rfl : ad285 = ad286 := (by injection e286)
                                            replace hx286_0 := (HB.out.cell (World.block_lt_of_cell? w _ hx286_0)).trans hx286_0
                                            have HR286_0 := Aside0.mk hi286_0
                                            have HC286_0 := Aside0.mk hl286_0
                                            clear hi286_0 hl286_0
                                            replace p286 := eq_true p286
                                            replace q286 := eq_true q286
                                            have p287 : 0 ≤ (x11_3 : Int) := of_decide_eq_true (by first | (with_reducible assumption) | assumption)
                                            have q287 : x11_3 < ((rd_L5 l2 x9_2).length : Int) := of_decide_eq_true (by first | (with_reducible assumption) | assumption)
                                            obtain ⟨ad287, e287, hx287_0⟩ := Kd.at_int HR286_0.out x11_3 p287 q287
                                            cases e287
                                            replace hx287_0 := (HB.out.cell (World.block_lt_of_cell? w _ hx287_0)).trans hx287_0
                                            replace p287 := eq_true p287
                                            replace q287 := eq_true q287
                                            have p288 : 0 ≤ (x9_2 : Int) := of_decide_eq_true (by first | (with_reducible assumption) | assumption)
                                            have q288 : x9_2 < (l0.length : Int) := of_decide_eq_true (by first | (with_reducible assumption) | assumption)
                                            obtain ⟨ad288, e288, hx288_0, hx288_1, hx288_2, hx288_3, hx288_4⟩ := at_T38 HR0.out x9_2 p288 q288
                                            cases e288
                                            replace hx288_0 := (HB.out.cell (World.block_lt_of_cell? w _ hx288_0)).trans hx288_0
                                            replace hx288_1 := (HB.out.cell (World.block_lt_of_cell? w _ hx288_1)).trans hx288_1
                                            replace hx288_2 := (HB.out.cell (World.block_lt_of_cell? w _ hx288_2)).trans hx288_2
                                            replace hx288_3 := (HB.out.cell (World.block_lt_of_cell? w _ hx288_3)).trans hx288_3
                                            replace hx288_4 := (HB.out.cell (World.block_lt_of_cell? w _ hx288_4)).trans hx288_4
                                            replace p288 := eq_true p288
                                            replace q288 := eq_true q288
                                            go_wp2
                                            repeat (go_quiet (fail); try go_wp2)
                                            go_ret
                                            exact ⟨by first | rfl | (simp [errW_none, errW_some] <;> rfl) | (simp [*, errW_none, errW_some] <;> rfl), by repeat (first | (with_reducible first | exact HB.out | apply below_alloc | apply pw_below_drewN | apply below_drew1) | exact HB.out)⟩
                                          · rw [if_neg c24] at H
                                            have c24b0 : decide (((rd_T38 l0 x9_2).f3) < (rd (rd_L5 l2 x9_2) x11_3)) = false := decide_eq_false c24
                                            clear c24
                                            by_cases c25 : (rd (rd_L5 l2 x9_2) x11_3) > 0
                                            · rw [if_pos c25] at H
                                              have c25b0 : decide (0 < (rd (rd_L5 l2 x9_2) x11_3)) = true := decide_eq_true c25
                                              clear c25
                                              by_cases c26 : x11_3 < ((rd_T38 l0 x9_2).f0)
                                              · rw [if_pos c26] at H
                                                have c26b0 : decide (x11_3 < ((rd_T38 l0 x9_2).f0)) = true := decide_eq_true c26
                                                clear c26
                                                obtain rfl := Option.some.inj H
                                                have p286 : 0 ≤ (x9_2 : Int) := of_decide_eq_true (by first | (with_reducible assumption) | assumption)
                                                have q286 : x9_2 < (l2.length : Int) := of_decide_eq_true (by first | (with_reducible assumption) | assumption)
                                                obtain ⟨ad286, A286_0, c286_0, e286, hx286_0, hl286_0, hi286_0⟩ := at_L5 HR2.out x9_2 p286 q286
                                                obtain rfl : ad285 = ad286 := (by injection e286)
                                                replace hx286_0 := (HB.out.cell (World.block_lt_of_cell? w _ hx286_0)).trans hx286_0
                                                have HR286_0 := Aside0.mk hi286_0
                                                have HC286_0 := Aside0.mk hl286_0
                                                clear hi286_0 hl286_0
                                                replace p286 := eq_true p286
                                                replace q286 := eq_true q286
                                                have p287 : 0 ≤ (x11_3 : Int) := of_decide_eq_true (by first | (with_reducible assumption) | assumption)
                                                have q287 : x11_3 < ((rd_L5 l2 x9_2).length : Int) := of_decide_eq_true (by first | (with_reducible assumption) | assumption)
                                                obtain ⟨ad287, e287, hx287_0⟩ := Kd.at_int HR286_0.out x11_3 p287 q287
                                                cases e287
                                                replace hx287_0 := (HB.out.cell (World.block_lt_of_cell? w _ hx287_0)).trans hx287_0
                                                replace p287 := eq_true p287
                                                replace q287 := eq_true q287
                                                have p288 : 0 ≤ (x9_2 : Int) := of_decide_eq_true (by first | (with_reducible assumption) | assumption)
                                                have q288 : x9_2 < (l0.length : Int) := of_decide_eq_true (by first | (with_reducible assumption) | assumption)
                                                obtain ⟨ad288, e288, hx288_0, hx288_1, hx288_2, hx288_3, hx288_4⟩ := at_T38 HR0.out x9_2 p288 q288
                                                cases e288
                                                replace hx288_0 := (HB.out.cell (World.block_lt_of_cell? w _ hx288_0)).trans hx288_0
                                                replace hx288_1 := (HB.out.cell (World.block_lt_of_cell? w _ hx288_1)).trans hx288_1
                                                replace hx288_2 := (HB.out.cell (World.block_lt_of_cell? w _ hx288_2)).trans hx288_2
                                                replace hx288_3 := (HB.out.cell (World.block_lt_of_cell? w _ hx288_3)).trans hx288_3
                                                replace hx288_4 := (HB.out.cell (World.block_lt_of_cell? w _ hx288_4)).trans hx288_4
                                                replace p288 := eq_true p288
                                                replace q288 := eq_true q288
                                                have p289 : 0 ≤ (x9_2 : Int) := of_decide_eq_true (by first | (with_reducible assumption) | assumption)
                                                have q289 : x9_2 < (l0.length : Int) := of_decide_eq_true (by first | (with_reducible assumption) | assumption)
                                                obtain ⟨ad289, e289, hx289_0, hx289_1, hx289_2, hx289_3, hx289_4⟩ := at_T38 HR0.out x9_2 p289 q289
                                                obtain rfl : ad288 = ad289 := (by injection e289)
                                                replace hx289_0 := (HB.out.cell (World.block_lt_of_cell? w _ hx289_0)).trans hx289_0
                                                replace hx289_1 := (HB.out.cell (World.block_lt_of_cell? w _ hx289_1)).trans hx289_1
                                                replace hx289_2 := (HB.out.cell (World.block_lt_of_cell? w _ hx289_2)).trans hx289_2
                                                replace hx289_3 := (HB.out.cell (World.block_lt_of_cell? w _ hx289_3)).trans hx289_3
                                                replace hx289_4 := (HB.out.cell (World.block_lt_of_cell? w _ hx289_4)).trans hx289_4
                                                replace p289 := eq_true p289
                                                replace q289 := eq_true q289
                                                go_wp2
                                                repeat (go_quiet (fail); try go_wp2)
                                                go_ret
                                                exact ⟨by first | rfl | (simp [errW_none, errW_some] <;> rfl) | (simp [*, errW_none, errW_some] <;> rfl), by repeat (first | (with_reducible first | exact HB.out | apply below_alloc | apply pw_below_drewN | apply below_drew1) | exact HB.out)⟩
                                              · rw [if_neg c26] at H
                                                have c26b0 : decide (x11_3 < ((rd_T38 l0 x9_2).f0)) = false := decide_eq_false c26
                                                clear c26
                                                by_cases c27 : x11_3 ≥ ((rd_T38 l0 x9_2).f1)
                                                · rw [if_pos c27] at H
                                                  have c27b0 : decide (((rd_T38 l0 x9_2).f1) ≤ x11_3) = true := decide_eq_true c27
                                                  clear c27
                                                  obtain rfl := Option.some.inj H
                                                  have p286 : 0 ≤ (x9_2 : Int) := of_decide_eq_true (by first | (with_reducible assumption) | assumption)
                                                  have q286 : x9_2 < (l2.length : Int) := of_decide_eq_true (by first | (with_reducible assumption) | assumption)
                                                  obtain ⟨ad286, A286_0, c286_0, e286, hx286_0, hl286_0, hi286_0⟩ := at_L5 HR2.out x9_2 p286 q286
                                                  obtain rfl : ad285 = ad286 := (by injection e286)
                                                  replace hx286_0 := (HB.out.cell (World.block_lt_of_cell? w _ hx286_0)).trans hx286_0
                                                  have HR286_0 := Aside0.mk hi286_0
                                                  have HC286_0 := Aside0.mk hl286_0
                                                  clear hi286_0 hl286_0
                                                  replace p286 := eq_true p286
                                                  replace q286 := eq_true q286
                                                  have p287 : 0 ≤ (x11_3 : Int) := of_decide_eq_true (by first | (with_reducible assumption) | assumption)
                                                  have q287 : x11_3 < ((rd_L5 l2 x9_2).length : Int) := of_decide_eq_true (by first | (with_reducible assumption) | assumption)
                                                  obtain ⟨ad287, e287, hx287_0⟩ := Kd.at_int HR286_0.out x11_3 p287 q287
                                                  cases e287
                                                  replace hx287_0 := (HB.out.cell (World.block_lt_of_cell? w _ hx287_0)).trans hx287_0
                                                  replace p287 := eq_true p287
                                                  replace q287 := eq_true q287
                                                  have p288 : 0 ≤ (x9_2 : Int) := of_decide_eq_true (by first | (with_reducible assumption) | assumption)
                                                  have q288 : x9_2 < (l0.length : Int) := of_decide_eq_true (by first | (with_reducible assumption) | assumption)
                                                  obtain ⟨ad288, e288, hx288_0, hx288_1, hx288_2, hx288_3, hx288_4⟩ := at_T38 HR0.out x9_2 p288 q288
                                                  cases e288
                                                  replace hx288_0 := (HB.out.cell (World.block_lt_of_cell? w _ hx288_0)).trans hx288_0
                                                  replace hx288_1 := (HB.out.cell (World.block_lt_of_cell? w _ hx288_1)).trans hx288_1
                                                  replace hx288_2 := (HB.out.cell (World.block_lt_of_cell? w _ hx288_2)).trans hx288_2
                                                  replace hx288_3 := (HB.out.cell (World.block_lt_of_cell? w _ hx288_3)).trans hx288_3
                                                  replace hx288_4 := (HB.out.cell (World.block_lt_of_cell? w _ hx288_4)).trans hx288_4
                                                  replace p288 := eq_true p288
                                                  replace q288 := eq_true q288
                                                  have p289 : 0 ≤ (x9_2 : Int) := of_decide_eq_true (by first | (with_reducible assumption) | assumption)
                                                  have q289 : x9_2 < (l0.length : Int) := of_decide_eq_true (by first | (with_reducible assumption) | assumption)
                                                  obtain ⟨ad289, e289, hx289_0, hx289_1, hx289_2, hx289_3, hx289_4⟩ := at_T38 HR0.out x9_2 p289 q289
                                                  obtain rfl : ad288 = ad289 := (by injection e289)
                                                  replace hx289_0 := (HB.out.cell (World.block_lt_of_cell? w _ hx289_0)).trans hx289_0
                                                  replace hx289_1 := (HB.out.cell (World.block_lt_of_cell? w _ hx289_1)).trans hx289_1
                                                  replace hx289_2 := (HB.out.cell (World.block_lt_of_cell? w _ hx289_2)).trans hx289_2
                                                  replace hx289_3 := (HB.out.cell (World.block_lt_of_cell? w _ hx289_3)).trans hx289_3
                                                  replace hx289_4 := (HB.out.cell (World.block_lt_of_cell? w _ hx289_4)).trans hx289_4
                                                  replace p289 := eq_true p289
                                                  replace q289 := eq_true q289
                                                  have p290 : 0 ≤ (x9_2 : Int) := of_decide_eq_true (by first | (with_reducible assumption) | assumption)
                                                  have q290 : x9_2 < (l0.length : Int) := of_decide_eq_true (by first | (with_reducible assumption) | assumption)
                                                  obtain ⟨ad290, e290, hx290_0, hx290_1, hx290_2, hx290_3, hx290_4⟩ := at_T38 HR0.out x9_2 p290 q290
                                                  obtain rfl : ad288 = ad290 := (by injection e290)
                                                  replace hx290_0 := (HB.out.cell (World.block_lt_of_cell? w _ hx290_0)).trans hx290_0
                                                  replace hx290_1 := (HB.out.cell (World.block_lt_of_cell? w _ hx290_1)).trans hx290_1
                                                  replace hx290_2 := (HB.out.cell (World.block_lt_of_cell? w _ hx290_2)).trans hx290_2
                                                  replace hx290_3 := (HB.out.cell (World.block_lt_of_cell? w _ hx290_3)).trans hx290_3
                                                  replace hx290_4 := (HB.out.cell (World.block_lt_of_cell? w _ hx290_4)).trans hx290_4
                                                  replace p290 := eq_true p290
                                                  replace q290 := eq_true q290
                                                  go_wp2
                                                  repeat (go_quiet (fail); try go_wp2)
                                                  go_ret
                                                  exact ⟨by first | rfl | (simp [errW_none, errW_some] <;> rfl) | (simp [*, errW_none, errW_some] <;> rfl), by repeat (first | (with_reducible first | exact HB.out | apply below_alloc | apply pw_below_drewN | apply below_drew1) | exact HB.out)⟩
                                                · rw [if_neg c27] at H
                                                  have c27b0 : decide (((rd_T38 l0 x9_2).f1) ≤ x11_3) = false := decide_eq_false c27
                                                  clear c27
                                                  by_cases c28 : x11_3 < (x8_3.length : Int)
                                                  · rw [if_pos c28] at H
                                                    have c28b0 : decide (x11_3 < (x8_3.length : Int)) = true := decide_eq_true c28
                                                    clear c28
                                                    obtain ⟨y292, hy292⟩ : ∃ y_ : List Int, y_ = (x8_3.set (x11_3 : Int).toNat (wrap64 ((rd x8_3 x11_3) + (rd (rd_L5 l2 x9_2) x11_3)))) := ⟨_, rfl⟩
                                                    replace H : (chargeparkref27_CheckPlan.l1 k3 l0 l1 l2 y292 x9_2 (wrap64 (x10_3 + (rd (rd_L5 l2 x9_2) x11_3))) (wrap64 (x11_3 + 1))) = some r := by first | (rw [hy292]; with_reducible exact H) | (have H2_ := (Option.bind_some _ _).symm.trans H; rw [hy292]; with_reducible exact H2_) | (have H2_ := (Option.bind_some _ _).symm.trans H; with_reducible exact H2_) | with_reducible exact H | (rw [hy292]; exact H) | exact H
                                                    have Ny292 := Aside0.mk hy292
                                                    clear hy292
                                                    have H' := Aside0.mk H
                                                    clear H
                                                    have p286 : 0 ≤ (x9_2 : Int) := of_decide_eq_true (by first | (with_reducible assumption) | assumption)
                                                    have q286 : x9_2 < (l2.length : Int) := of_decide_eq_true (by first | (with_reducible assumption) | assumption)
                                                    obtain ⟨ad286, A286_0, c286_0, e286, hx286_0, hl286_0, hi286_0⟩ := at_L5 HR2.out x9_2 p286 q286
                                                    obtain rfl : ad285 = ad286 := (by injection e286)
                                                    replace hx286_0 := (HB.out.cell (World.block_lt_of_cell? w _ hx286_0)).trans hx286_0
                                                    have HR286_0 := Aside0.mk hi286_0
                                                    have HC286_0 := Aside0.mk hl286_0
                                                    clear hi286_0 hl286_0
                                                    replace p286 := eq_true p286
                                                    replace q286 := eq_true q286
                                                    have p287 : 0 ≤ (x11_3 : Int) := of_decide_eq_true (by first | (with_reducible assumption) | assumption)
                                                    have q287 : x11_3 < ((rd_L5 l2 x9_2).length : Int) := of_decide_eq_true (by first | (with_reducible assumption) | assumption)
                                                    obtain ⟨ad287, e287, hx287_0⟩ := Kd.at_int HR286_0.out x11_3 p287 q287
                                                    cases e287
                                                    replace hx287_0 := (HB.out.cell (World.block_lt_of_cell? w _ hx287_0)).trans hx287_0
                                                    replace p287 := eq_true p287
                                                    replace q287 := eq_true q287
                                                    have p288 : 0 ≤ (x9_2 : Int) := of_decide_eq_true (by first | (with_reducible assumption) | assumption)
                                                    have q288 : x9_2 < (l0.length : Int) := of_decide_eq_true (by first | (with_reducible assumption) | assumption)
                                                    obtain ⟨ad288, e288, hx288_0, hx288_1, hx288_2, hx288_3, hx288_4⟩ := at_T38 HR0.out x9_2 p288 q288
                                                    cases e288
                                                    replace hx288_0 := (HB.out.cell (World.block_lt_of_cell? w _ hx288_0)).trans hx288_0
                                                    replace hx288_1 := (HB.out.cell (World.block_lt_of_cell? w _ hx288_1)).trans hx288_1
                                                    replace hx288_2 := (HB.out.cell (World.block_lt_of_cell? w _ hx288_2)).trans hx288_2
                                                    replace hx288_3 := (HB.out.cell (World.block_lt_of_cell? w _ hx288_3)).trans hx288_3
                                                    replace hx288_4 := (HB.out.cell (World.block_lt_of_cell? w _ hx288_4)).trans hx288_4
                                                    replace p288 := eq_true p288
                                                    replace q288 := eq_true q288
                                                    have p289 : 0 ≤ (x9_2 : Int) := of_decide_eq_true (by first | (with_reducible assumption) | assumption)
                                                    have q289 : x9_2 < (l0.length : Int) := of_decide_eq_true (by first | (with_reducible assumption) | assumption)
                                                    obtain ⟨ad289, e289, hx289_0, hx289_1, hx289_2, hx289_3, hx289_4⟩ := at_T38 HR0.out x9_2 p289 q289
                                                    obtain rfl : ad288 = ad289 := (by injection e289)
                                                    replace hx289_0 := (HB.out.cell (World.block_lt_of_cell? w _ hx289_0)).trans hx289_0
                                                    replace hx289_1 := (HB.out.cell (World.block_lt_of_cell? w _ hx289_1)).trans hx289_1
                                                    replace hx289_2 := (HB.out.cell (World.block_lt_of_cell? w _ hx289_2)).trans hx289_2
                                                    replace hx289_3 := (HB.out.cell (World.block_lt_of_cell? w _ hx289_3)).trans hx289_3
                                                    replace hx289_4 := (HB.out.cell (World.block_lt_of_cell? w _ hx289_4)).trans hx289_4
                                                    replace p289 := eq_true p289
                                                    replace q289 := eq_true q289
                                                    have p290 : 0 ≤ (x9_2 : Int) := of_decide_eq_true (by first | (with_reducible assumption) | assumption)
                                                    have q290 : x9_2 < (l0.length : Int) := of_decide_eq_true (by first | (with_reducible assumption) | assumption)
                                                    obtain ⟨ad290, e290, hx290_0, hx290_1, hx290_2, hx290_3, hx290_4⟩ := at_T38 HR0.out x9_2 p290 q290
                                                    obtain rfl : ad288 = ad290 := (by injection e290)
                                                    replace hx290_0 := (HB.out.cell (World.block_lt_of_cell? w _ hx290_0)).trans hx290_0
                                                    replace hx290_1 := (HB.out.cell (World.block_lt_of_cell? w _ hx290_1)).trans hx290_1
                                                    replace hx290_2 := (HB.out.cell (World.block_lt_of_cell? w _ hx290_2)).trans hx290_2
                                                    replace hx290_3 := (HB.out.cell (World.block_lt_of_cell? w _ hx290_3)).trans hx290_3
                                                    replace hx290_4 := (HB.out.cell (World.block_lt_of_cell? w _ hx290_4)).trans hx290_4
                                                    replace p290 := eq_true p290
                                                    replace q290 := eq_true q290
                                                    obtain ⟨Ao30, co30, eo30⟩ := Kd.R_slice HO_8.out
                                                    subst eo30
                                                    have p291 : 0 ≤ (x11_3 : Int) := of_decide_eq_true (by first | (with_reducible assumption) | assumption)
                                                    have q291 : x11_3 < (x8_3.length : Int) := of_decide_eq_true (by first | (with_reducible assumption) | assumption)
                                                    obtain ⟨ad291, e291, hx291_0⟩ := Kd.at_int (Kd.R_reads' HO_8.out).2.2 x11_3 p291 q291
                                                    cases e291
                                                    replace p291 := eq_true p291
                                                    replace q291 := eq_true q291
                                                    have p29 : 0 ≤ (x11_3 : Int) := of_decide_eq_true (by first | (with_reducible assumption) | assumption)
                                                    have q29 : (x11_3 : Int) < ((x8_3.length : Int) : Int) := of_decide_eq_true (by first | (with_reducible assumption) | assumption)
                                                    obtain ⟨go29, co29, eo29, gb29, gl29, cl29, HG29⟩ := Kd.R_form HO_8.out (by omega)
                                                    (first | cases eo29 | (injection eo29 with ea_ en_ ec_; (first | subst ea_ | (injection ea_ with ea_; subst ea_)); subst ec_; clear en_))
                                                    have GB29 := Aside0.mk gb29
                                                    have GG29 := Aside0.mk HG29
                                                    clear gb29 gl29 HG29
                                                    (first | simp only [add_plain] at hx291_0 | skip)
                                                    obtain ⟨hx29_0, hf29_0⟩ := Kd.R_celln 0 HO_8.out (x11_3 : Int) p29 q29
                                                    replace p29 := eq_true p29
                                                    replace q29 := eq_true q29
                                                    have HP31 := Kd.R_putg HO_8.out (x11_3 : Int) (wrap64 ((rd x8_3 x11_3) + (rd (rd_L5 l2 x9_2) x11_3)))
                                                    go_wp2_with (first | ((with_reducible refine gate_store (t := 3) (p := 100) rfl ?_); (try (rw [drewN_self wr]; generalize hq_ : World.drewN wr _ = wr; have n0_ := Aside0.mk (Kd.R_at hq_ HO_8.out); have n1_ := Aside0.mk (below_at hq_ HB.out); clear hq_ HO_8 HB; have HO_8 := n0_; have HB := n1_; clear n0_ n1_; (try (have HP31 := Kd.R_putg HO_8.out (x11_3 : Int) (wrap64 ((rd x8_3 x11_3) + (rd (rd_L5 l2 x9_2) x11_3))))))); refine store_event (t := 3) (p := 100) (v := ?vo_w32) (w1 := (wr.setCell ⟨go29, (x11_3 : Int).toNat, none⟩ (.int .i64 (wrap64 ((rd x8_3 x11_3) + (rd (rd_L5 l2 x9_2) x11_3)))))) ?hg ?ho ?hn ?hr ?_; (case ho => rfl); (case hg => rfl); (case hn => rfl); (case hr => first | (go_simp; done) | (go_simp; rfl)); intro w32 hw; have hg : wr.grownBy w32 (some go29) := (by rw [hw]; exact HP31.2); have hp_ : Kd.R (Kd.int .i64) 3 w32 w.heap.size (fun _ => True) (.slice (some ⟨go29, 0, none⟩) x8_3.length co30) y292 := (by rw [hw, Ny292.out]; exact HP31.1); clear HP31; have n0_ := Aside0.mk (hp_); have n1_ := Aside0.mk ((by rw [hw]; exact below_set (HB.out) GB29.out : Below w.heap.size w w32)); clear HO_8; clear HB; have HO_8 := n0_; have HB := n1_; clear n0_ n1_; clear hg hw hp_))
                                                    repeat (go_quiet (first | ((with_reducible refine gate_store (t := 3) (p := 100) rfl ?_); (try (rw [drewN_self wr]; generalize hq_ : World.drewN wr _ = wr; have n0_ := Aside0.mk (Kd.R_at hq_ HO_8.out); have n1_ := Aside0.mk (below_at hq_ HB.out); clear hq_ HO_8 HB; have HO_8 := n0_; have HB := n1_; clear n0_ n1_; (try (have HP31 := Kd.R_putg HO_8.out (x11_3 : Int) (wrap64 ((rd x8_3 x11_3) + (rd (rd_L5 l2 x9_2) x11_3))))))); refine store_event (t := 3) (p := 100) (v := ?vo_w32) (w1 := (wr.setCell ⟨go29, (x11_3 : Int).toNat, none⟩ (.int .i64 (wrap64 ((rd x8_3 x11_3) + (rd (rd_L5 l2 x9_2) x11_3)))))) ?hg ?ho ?hn ?hr ?_; (case ho => rfl); (case hg => rfl); (case hn => rfl); (case hr => first | (go_simp; done) | (go_simp; rfl)); intro w32 hw; have hg : wr.grownBy w32 (some go29) := (by rw [hw]; exact HP31.2); have hp_ : Kd.R (Kd.int .i64) 3 w32 w.heap.size (fun _ => True) (.slice (some ⟨go29, 0, none⟩) x8_3.length co30) y292 := (by rw [hw, Ny292.out]; exact HP31.1); clear HP31; have n0_ := Aside0.mk (hp_); have n1_ := Aside0.mk ((by rw [hw]; exact below_set (HB.out) GB29.out : Below w.heap.size w w32)); clear HO_8; clear HB; have HO_8 := n0_; have HB := n1_; clear n0_ n1_; clear hg hw hp_)); try go_wp2_with (first | ((with_reducible refine gate_store (t := 3) (p := 100) rfl ?_); (try (rw [drewN_self wr]; generalize hq_ : World.drewN wr _ = wr; have n0_ := Aside0.mk (Kd.R_at hq_ HO_8.out); have n1_ := Aside0.mk (below_at hq_ HB.out); clear hq_ HO_8 HB; have HO_8 := n0_; have HB := n1_; clear n0_ n1_; (try (have HP31 := Kd.R_putg HO_8.out (x11_3 : Int) (wrap64 ((rd x8_3 x11_3) + (rd (rd_L5 l2 x9_2) x11_3))))))); refine store_event (t := 3) (p := 100) (v := ?vo_w32) (w1 := (wr.setCell ⟨go29, (x11_3 : Int).toNat, none⟩ (.int .i64 (wrap64 ((rd x8_3 x11_3) + (rd (rd_L5 l2 x9_2) x11_3)))))) ?hg ?ho ?hn ?hr ?_; (case ho => rfl); (case hg => rfl); (case hn => rfl); (case hr => first | (go_simp; done) | (go_simp; rfl)); intro w32 hw; have hg : wr.grownBy w32 (some go29) := (by rw [hw]; exact HP31.2); have hp_ : Kd.R (Kd.int .i64) 3 w32 w.heap.size (fun _ => True) (.slice (some ⟨go29, 0, none⟩) x8_3.length co30) y292 := (by rw [hw, Ny292.out]; exact HP31.1); clear HP31; have n0_ := Aside0.mk (hp_); have n1_ := Aside0.mk ((by rw [hw]; exact below_set (HB.out) GB29.out : Below w.heap.size w w32)); clear HO_8; clear HB; have HO_8 := n0_; have HB := n1_; clear n0_ n1_; clear hg hw hp_)))
                                                    go_roundg k3
                                                    case measure => have := HJ4.out; have := HK2.out; have := HK3.out; omega
                                                    case rel => exact ⟨(y292), (wrap64 (x10_3 + (rd (rd_L5 l2 x9_2) x11_3))), (wrap64 (x11_3 + 1)), (by first | rfl | (simp; done) | (simp [*]; done)), (by first | rfl | (simp; done) | (simp [*]; done)), H', ⟨by have := HJ4.out; have := HK2.out; have := HK3.out; omega⟩, ⟨by (with_reducible repeat (first | apply Kd.R_alloc | apply Kd.R_drewN | apply Kd.R_drew)); exact HO_8.out⟩, ⟨by repeat (first | (with_reducible first | exact HB.out | apply below_alloc | apply pw_below_drewN | apply below_drew1) | exact HB.out)⟩⟩
                                                  · rw [if_neg c28] at H
                                                    exact absurd H (by simp)
                                            · rw [if_neg c25] at H
                                              have c25b0 : decide (0 < (rd (rd_L5 l2 x9_2) x11_3)) = false := decide_eq_false c25
                                              clear c25
                                              by_cases c33 : x11_3 < (x8_3.length : Int)
                                              · rw [if_pos c33] at H
                                                have c33b0 : decide (x11_3 < (x8_3.length : Int)) = true := decide_eq_true c33
                                                clear c33
                                                obtain ⟨y294, hy294⟩ : ∃ y_ : List Int, y_ = (x8_3.set (x11_3 : Int).toNat (wrap64 ((rd x8_3 x11_3) + (rd (rd_L5 l2 x9_2) x11_3)))) := ⟨_, rfl⟩
                                                replace H : (chargeparkref27_CheckPlan.l1 k3 l0 l1 l2 y294 x9_2 (wrap64 (x10_3 + (rd (rd_L5 l2 x9_2) x11_3))) (wrap64 (x11_3 + 1))) = some r := by first | (rw [hy294]; with_reducible exact H) | (have H2_ := (Option.bind_some _ _).symm.trans H; rw [hy294]; with_reducible exact H2_) | (have H2_ := (Option.bind_some _ _).symm.trans H; with_reducible exact H2_) | with_reducible exact H | (rw [hy294]; exact H) | exact H
                                                have Ny294 := Aside0.mk hy294
                                                clear hy294
                                                have H' := Aside0.mk H
                                                clear H
                                                have p286 : 0 ≤ (x9_2 : Int) := of_decide_eq_true (by first | (with_reducible assumption) | assumption)
                                                have q286 : x9_2 < (l2.length : Int) := of_decide_eq_true (by first | (with_reducible assumption) | assumption)
                                                obtain ⟨ad286, A286_0, c286_0, e286, hx286_0, hl286_0, hi286_0⟩ := at_L5 HR2.out x9_2 p286 q286
                                                obtain rfl : ad285 = ad286 := (by injection e286)
                                                replace hx286_0 := (HB.out.cell (World.block_lt_of_cell? w _ hx286_0)).trans hx286_0
                                                have HR286_0 := Aside0.mk hi286_0
                                                have HC286_0 := Aside0.mk hl286_0
                                                clear hi286_0 hl286_0
                                                replace p286 := eq_true p286
                                                replace q286 := eq_true q286
                                                have p287 : 0 ≤ (x11_3 : Int) := of_decide_eq_true (by first | (with_reducible assumption) | assumption)
                                                have q287 : x11_3 < ((rd_L5 l2 x9_2).length : Int) := of_decide_eq_true (by first | (with_reducible assumption) | assumption)
                                                obtain ⟨ad287, e287, hx287_0⟩ := Kd.at_int HR286_0.out x11_3 p287 q287
                                                cases e287
                                                replace hx287_0 := (HB.out.cell (World.block_lt_of_cell? w _ hx287_0)).trans hx287_0
                                                replace p287 := eq_true p287
                                                replace q287 := eq_true q287
                                                have p288 : 0 ≤ (x9_2 : Int) := of_decide_eq_true (by first | (with_reducible assumption) | assumption)
                                                have q288 : x9_2 < (l0.length : Int) := of_decide_eq_true (by first | (with_reducible assumption) | assumption)
                                                obtain ⟨ad288, e288, hx288_0, hx288_1, hx288_2, hx288_3, hx288_4⟩ := at_T38 HR0.out x9_2 p288 q288
                                                cases e288
                                                replace hx288_0 := (HB.out.cell (World.block_lt_of_cell? w _ hx288_0)).trans hx288_0
                                                replace hx288_1 := (HB.out.cell (World.block_lt_of_cell? w _ hx288_1)).trans hx288_1
                                                replace hx288_2 := (HB.out.cell (World.block_lt_of_cell? w _ hx288_2)).trans hx288_2
                                                replace hx288_3 := (HB.out.cell (World.block_lt_of_cell? w _ hx288_3)).trans hx288_3
                                                replace hx288_4 := (HB.out.cell (World.block_lt_of_cell? w _ hx288_4)).trans hx288_4
                                                replace p288 := eq_true p288
                                                replace q288 := eq_true q288
                                                obtain ⟨Ao35, co35, eo35⟩ := Kd.R_slice HO_8.out
                                                subst eo35
                                                have p293 : 0 ≤ (x11_3 : Int) := of_decide_eq_true (by first | (with_reducible assumption) | assumption)
                                                have q293 : x11_3 < (x8_3.length : Int) := of_decide_eq_true (by first | (with_reducible assumption) | assumption)
                                                obtain ⟨ad293, e293, hx293_0⟩ := Kd.at_int (Kd.R_reads' HO_8.out).2.2 x11_3 p293 q293
                                                cases e293
                                                replace p293 := eq_true p293
                                                replace q293 := eq_true q293
                                                have p34 : 0 ≤ (x11_3 : Int) := of_decide_eq_true (by first | (with_reducible assumption) | assumption)
                                                have q34 : (x11_3 : Int) < ((x8_3.length : Int) : Int) := of_decide_eq_true (by first | (with_reducible assumption) | assumption)
                                                obtain ⟨go34, co34, eo34, gb34, gl34, cl34, HG34⟩ := Kd.R_form HO_8.out (by omega)
                                                (first | cases eo34 | (injection eo34 with ea_ en_ ec_; (first | subst ea_ | (injection ea_ with ea_; subst ea_)); subst ec_; clear en_))
                                                have GB34 := Aside0.mk gb34
                                                have GG34 := Aside0.mk HG34
                                                clear gb34 gl34 HG34
                                                (first | simp only [add_plain] at hx293_0 | skip)
                                                obtain ⟨hx34_0, hf34_0⟩ := Kd.R_celln 0 HO_8.out (x11_3 : Int) p34 q34
                                                replace p34 := eq_true p34
                                                replace q34 := eq_true q34
                                                have HP36 := Kd.R_putg HO_8.out (x11_3 : Int) (wrap64 ((rd x8_3 x11_3) + (rd (rd_L5 l2 x9_2) x11_3)))
                                                go_wp2_with (first | ((with_reducible refine gate_store (t := 3) (p := 100) rfl ?_); (try (rw [drewN_self wr]; generalize hq_ : World.drewN wr _ = wr; have n0_ := Aside0.mk (Kd.R_at hq_ HO_8.out); have n1_ := Aside0.mk (below_at hq_ HB.out); clear hq_ HO_8 HB; have HO_8 := n0_; have HB := n1_; clear n0_ n1_; (try (have HP36 := Kd.R_putg HO_8.out (x11_3 : Int) (wrap64 ((rd x8_3 x11_3) + (rd (rd_L5 l2 x9_2) x11_3))))))); refine store_event (t := 3) (p := 100) (v := ?vo_w37) (w1 := (wr.setCell ⟨go34, (x11_3 : Int).toNat, none⟩ (.int .i64 (wrap64 ((rd x8_3 x11_3) + (rd (rd_L5 l2 x9_2) x11_3)))))) ?hg ?ho ?hn ?hr ?_; (case ho => rfl); (case hg => rfl); (case hn => rfl); (case hr => first | (go_simp; done) | (go_simp; rfl)); intro w37 hw; have hg : wr.grownBy w37 (some go34) := (by rw [hw]; exact HP36.2); have hp_ : Kd.R (Kd.int .i64) 3 w37 w.heap.size (fun _ => True) (.slice (some ⟨go34, 0, none⟩) x8_3.length co35) y294 := (by rw [hw, Ny294.out]; exact HP36.1); clear HP36; have n0_ := Aside0.mk (hp_); have n1_ := Aside0.mk ((by rw [hw]; exact below_set (HB.out) GB34.out : Below w.heap.size w w37)); clear HO_8; clear HB; have HO_8 := n0_; have HB := n1_; clear n0_ n1_; clear hg hw hp_))
                                                repeat (go_quiet (first | ((with_reducible refine gate_store (t := 3) (p := 100) rfl ?_); (try (rw [drewN_self wr]; generalize hq_ : World.drewN wr _ = wr; have n0_ := Aside0.mk (Kd.R_at hq_ HO_8.out); have n1_ := Aside0.mk (below_at hq_ HB.out); clear hq_ HO_8 HB; have HO_8 := n0_; have HB := n1_; clear n0_ n1_; (try (have HP36 := Kd.R_putg HO_8.out (x11_3 : Int) (wrap64 ((rd x8_3 x11_3) + (rd (rd_L5 l2 x9_2) x11_3))))))); refine store_event (t := 3) (p := 100) (v := ?vo_w37) (w1 := (wr.setCell ⟨go34, (x11_3 : Int).toNat, none⟩ (.int .i64 (wrap64 ((rd x8_3 x11_3) + (rd (rd_L5 l2 x9_2) x11_3)))))) ?hg ?ho ?hn ?hr ?_; (case ho => rfl); (case hg => rfl); (case hn => rfl); (case hr => first | (go_simp; done) | (go_simp; rfl)); intro w37 hw; have hg : wr.grownBy w37 (some go34) := (by rw [hw]; exact HP36.2); have hp_ : Kd.R (Kd.int .i64) 3 w37 w.heap.size (fun _ => True) (.slice (some ⟨go34, 0, none⟩) x8_3.length co35) y294 := (by rw [hw, Ny294.out]; exact HP36.1); clear HP36; have n0_ := Aside0.mk (hp_); have n1_ := Aside0.mk ((by rw [hw]; exact below_set (HB.out) GB34.out : Below w.heap.size w w37)); clear HO_8; clear HB; have HO_8 := n0_; have HB := n1_; clear n0_ n1_; clear hg hw hp_)); try go_wp2_with (first | ((with_reducible refine gate_store (t := 3) (p := 100) rfl ?_); (try (rw [drewN_self wr]; generalize hq_ : World.drewN wr _ = wr; have n0_ := Aside0.mk (Kd.R_at hq_ HO_8.out); have n1_ := Aside0.mk (below_at hq_ HB.out); clear hq_ HO_8 HB; have HO_8 := n0_; have HB := n1_; clear n0_ n1_; (try (have HP36 := Kd.R_putg HO_8.out (x11_3 : Int) (wrap64 ((rd x8_3 x11_3) + (rd (rd_L5 l2 x9_2) x11_3))))))); refine store_event (t := 3) (p := 100) (v := ?vo_w37) (w1 := (wr.setCell ⟨go34, (x11_3 : Int).toNat, none⟩ (.int .i64 (wrap64 ((rd x8_3 x11_3) + (rd (rd_L5 l2 x9_2) x11_3)))))) ?hg ?ho ?hn ?hr ?_; (case ho => rfl); (case hg => rfl); (case hn => rfl); (case hr => first | (go_simp; done) | (go_simp; rfl)); intro w37 hw; have hg : wr.grownBy w37 (some go34) := (by rw [hw]; exact HP36.2); have hp_ : Kd.R (Kd.int .i64) 3 w37 w.heap.size (fun _ => True) (.slice (some ⟨go34, 0, none⟩) x8_3.length co35) y294 := (by rw [hw, Ny294.out]; exact HP36.1); clear HP36; have n0_ := Aside0.mk (hp_); have n1_ := Aside0.mk ((by rw [hw]; exact below_set (HB.out) GB34.out : Below w.heap.size w w37)); clear HO_8; clear HB; have HO_8 := n0_; have HB := n1_; clear n0_ n1_; clear hg hw hp_)))
                                                go_roundg k3
                                                case measure => have := HJ4.out; have := HK2.out; have := HK3.out; omega
                                                case rel => exact ⟨(y294), (wrap64 (x10_3 + (rd (rd_L5 l2 x9_2) x11_3))), (wrap64 (x11_3 + 1)), (by first | rfl | (simp; done) | (simp [*]; done)), (by first | rfl | (simp; done) | (simp [*]; done)), H', ⟨by have := HJ4.out; have := HK2.out; have := HK3.out; omega⟩, ⟨by (with_reducible repeat (first | apply Kd.R_alloc | apply Kd.R_drewN | apply Kd.R_drew)); exact HO_8.out⟩, ⟨by repeat (first | (with_reducible first | exact HB.out | apply below_alloc | apply pw_below_drewN | apply below_drew1) | exact HB.out)⟩⟩
                                              · rw [if_neg c33] at H
                                                exact absurd H (by simp)
                                        · rw [if_neg c23] at H
                                          exact absurd H (by simp)
                                    · rw [if_neg c21] at H
                                      exact absurd H (by simp)
                                  · rw [if_neg c20] at H
                                    exact absurd H (by simp)
                                · rw [if_neg c19] at H
                                  exact absurd H (by simp)
                              · rw [if_neg c18] at H
                                exact absurd H (by simp)
                            · rw [if_neg c17] at H
                              have c17b0 : decide (x11_3 < (l1.length : Int)) = false := decide_eq_false c17
                              clear c17
                              by_cases c38 : 0 ≤ x9_2
                              · rw [if_pos c38] at H
                                have c38b0 : decide (0 ≤ x9_2) = true := decide_eq_true c38
                                clear c38
                                by_cases c39 : x9_2 < (l0.length : Int)
                                · rw [if_pos c39] at H
                                  have c39b0 : decide (x9_2 < (l0.length : Int)) = true := decide_eq_true c39
                                  clear c39
                                  by_cases c40 : x10_3 = ((rd_T38 l0 x9_2).f2)
                                  · rw [if_pos c40] at H
                                    have c40b0 : (x10_3 == ((rd_T38 l0 x9_2).f2)) = true := beq_iff_eq.mpr c40
                                    have c40b1 : (x10_3 != ((rd_T38 l0 x9_2).f2)) = false := bne_eq_false_iff_eq.mpr c40
                                    clear c40
                                    have H' := Aside0.mk H
                                    clear H
                                    have p295 : 0 ≤ (x9_2 : Int) := of_decide_eq_true (by first | (with_reducible assumption) | assumption)
                                    have q295 : x9_2 < (l0.length : Int) := of_decide_eq_true (by first | (with_reducible assumption) | assumption)
                                    obtain ⟨ad295, e295, hx295_0, hx295_1, hx295_2, hx295_3, hx295_4⟩ := at_T38 HR0.out x9_2 p295 q295
                                    cases e295
                                    replace hx295_0 := (HB.out.cell (World.block_lt_of_cell? w _ hx295_0)).trans hx295_0
                                    replace hx295_1 := (HB.out.cell (World.block_lt_of_cell? w _ hx295_1)).trans hx295_1
                                    replace hx295_2 := (HB.out.cell (World.block_lt_of_cell? w _ hx295_2)).trans hx295_2
                                    replace hx295_3 := (HB.out.cell (World.block_lt_of_cell? w _ hx295_3)).trans hx295_3
                                    replace hx295_4 := (HB.out.cell (World.block_lt_of_cell? w _ hx295_4)).trans hx295_4
                                    replace p295 := eq_true p295
                                    replace q295 := eq_true q295
                                    go_wp2
                                    repeat (go_quiet (fail); try go_wp2)
                                    go_roundg k3
                                    case measure => have := HJ4.out; have := HK2.out; have := HK3.out; omega
                                    case rel => exact ⟨(x8_3), (wrap64 (x9_2 + 1)), (by first | rfl | (simp; done) | (simp [*]; done)), H', ⟨by have := HJ4.out; have := HK2.out; have := HK3.out; omega⟩, ⟨by (with_reducible repeat (first | apply Kd.R_alloc | apply Kd.R_drewN | apply Kd.R_drew)); exact HO_8.out⟩, ⟨by repeat (first | (with_reducible first | exact HB.out | apply below_alloc | apply pw_below_drewN | apply below_drew1) | exact HB.out)⟩⟩
                                  · rw [if_neg c40] at H
                                    have c40b0 : (x10_3 == ((rd_T38 l0 x9_2).f2)) = false := beq_eq_false_iff_ne.mpr c40
                                    have c40b1 : (x10_3 != ((rd_T38 l0 x9_2).f2)) = true := bne_iff_ne.mpr c40
                                    obtain rfl := Option.some.inj H
                                    have p295 : 0 ≤ (x9_2 : Int) := of_decide_eq_true (by first | (with_reducible assumption) | assumption)
                                    have q295 : x9_2 < (l0.length : Int) := of_decide_eq_true (by first | (with_reducible assumption) | assumption)
                                    obtain ⟨ad295, e295, hx295_0, hx295_1, hx295_2, hx295_3, hx295_4⟩ := at_T38 HR0.out x9_2 p295 q295
                                    cases e295
                                    replace hx295_0 := (HB.out.cell (World.block_lt_of_cell? w _ hx295_0)).trans hx295_0
                                    replace hx295_1 := (HB.out.cell (World.block_lt_of_cell? w _ hx295_1)).trans hx295_1
                                    replace hx295_2 := (HB.out.cell (World.block_lt_of_cell? w _ hx295_2)).trans hx295_2
                                    replace hx295_3 := (HB.out.cell (World.block_lt_of_cell? w _ hx295_3)).trans hx295_3
                                    replace hx295_4 := (HB.out.cell (World.block_lt_of_cell? w _ hx295_4)).trans hx295_4
                                    replace p295 := eq_true p295
                                    replace q295 := eq_true q295
                                    go_wp2
                                    repeat (go_quiet (fail); try go_wp2)
                                    go_ret
                                    exact ⟨by first | rfl | (simp [errW_none, errW_some] <;> rfl) | (simp [*, errW_none, errW_some] <;> rfl), by repeat (first | (with_reducible first | exact HB.out | apply below_alloc | apply pw_below_drewN | apply below_drew1) | exact HB.out)⟩
                                · rw [if_neg c39] at H
                                  exact absurd H (by simp)
                              · rw [if_neg c38] at H
                                exact absurd H (by simp)
                      · rw [if_neg c16] at H
                        have c16b0 : (((rd_L5 l2 x9_2).length : Int) == (l1.length : Int)) = false := beq_eq_false_iff_ne.mpr c16
                        have c16b1 : (((rd_L5 l2 x9_2).length : Int) != (l1.length : Int)) = true := bne_iff_ne.mpr c16
                        have c16b2 : ((rd_L5 l2 x9_2).length == l1.length) = false := by first | simpa using c16 | (simp at c16 ⊢; omega)
                        obtain rfl := Option.some.inj H
                        have p285 : 0 ≤ (x9_2 : Int) := of_decide_eq_true (by first | (with_reducible assumption) | assumption)
                        have q285 : x9_2 < (l2.length : Int) := of_decide_eq_true (by first | (with_reducible assumption) | assumption)
                        obtain ⟨ad285, A285_0, c285_0, e285, hx285_0, hl285_0, hi285_0⟩ := at_L5 HR2.out x9_2 p285 q285
                        cases e285
                        replace hx285_0 := (HB.out.cell (World.block_lt_of_cell? w _ hx285_0)).trans hx285_0
                        have HR285_0 := Aside0.mk hi285_0
                        have HC285_0 := Aside0.mk hl285_0
                        clear hi285_0 hl285_0
                        replace p285 := eq_true p285
                        replace q285 := eq_true q285
                        go_wp2
                        repeat (go_quiet (fail); try go_wp2)
                        go_ret
                        exact ⟨by first | rfl | (simp [errW_none, errW_some] <;> rfl) | (simp [*, errW_none, errW_some] <;> rfl), by repeat (first | (with_reducible first | exact HB.out | apply below_alloc | apply pw_below_drewN | apply below_drew1) | exact HB.out)⟩
                    · rw [if_neg c15] at H
                      exact absurd H (by simp)
                  · rw [if_neg c14] at H
                    exact absurd H (by simp)
                · rw [if_neg c13] at H
                  have c13b0 : decide (x9_2 < (l0.length : Int)) = false := decide_eq_false c13
                  clear c13
                  have H' := Aside0.mk H
                  clear H
                  go_wp2
                  repeat (go_quiet (fail); try go_wp2)
                  go_loopg [13] k2 (fun kq v13 w' => ∃ (x13_3 : Int), v13 = .int .i64 x13_3 ∧ Aside0 (chargeparkref27_CheckPlan.l2 kq l1 x8_2 x13_3 = some r) ∧ Aside0 (kq ≤ k2) ∧ Aside0 (Kd.R (Kd.int .i64) 3 w' w.heap.size (fun _ => True) v283 x8_2) ∧ Aside0 (Below w.heap.size w w'))
                  case atStart => exact ⟨(0), (by first | rfl | (simp; done) | (simp [*]; done)), H', ⟨Nat.le_refl _⟩, ⟨by (with_reducible repeat (first | apply Kd.R_alloc | apply Kd.R_drewN | apply Kd.R_drew)); exact HO_8.out⟩, ⟨by repeat (first | (with_reducible first | exact HB.out | apply below_alloc | apply pw_below_drewN | apply below_drew1) | exact HB.out)⟩⟩
                  case round =>
                    clear H'
                    try clear c1
                    try clear c2
                    try clear p2
                    try clear q2
                    try clear hx2
                    try clear c3
                    try clear p3
                    try clear q3
                    try clear hx3
                    try clear hf3
                    try clear c4
                    try clear p6
                    try clear c7
                    try clear c8
                    try clear c9
                    try clear c9b0
                    try clear c9b1
                    try clear c10
                    try clear c10b0
                    try clear c10b1
                    try clear c13
                    try clear c13b0
                    try clear c14
                    try clear c14b0
                    try clear c15
                    try clear c15b0
                    try clear c16
                    try clear c16b0
                    try clear c16b1
                    try clear c16b2
                    try clear c17
                    try clear c17b0
                    try clear c18
                    try clear c18b0
                    try clear c19
                    try clear c19b0
                    try clear c20
                    try clear c20b0
                    try clear c21
                    try clear c21b0
                    try clear c22
                    try clear c22b0
                    try clear c23
                    try clear c23b0
                    try clear c24
                    try clear c24b0
                    try clear c25
                    try clear c25b0
                    try clear c26
                    try clear c26b0
                    try clear c27
                    try clear c27b0
                    try clear c28
                    try clear c28b0
                    try clear p28
                    try clear q28
                    try clear hx28
                    try clear p29
                    try clear q29
                    try clear hx29
                    try clear hf29
                    try clear c33
                    try clear c33b0
                    try clear p34
                    try clear q34
                    try clear hx34
                    try clear hf34
                    try clear c38
                    try clear c38b0
                    try clear c39
                    try clear c39b0
                    try clear c40
                    try clear c40b0
                    try clear c40b1
                    try clear hx285_0
                    try clear hx286_0
                    try clear hx287_0
                    try clear hx288_0
                    try clear hx288_1
                    try clear hx288_2
                    try clear hx288_3
                    try clear hx288_4
                    try clear hx289_0
                    try clear hx289_1
                    try clear hx289_2
                    try clear hx289_3
                    try clear hx289_4
                    try clear hx290_0
                    try clear hx290_1
                    try clear hx290_2
                    try clear hx290_3
                    try clear hx290_4
                    try clear hx291_0
                    try clear hx293_0
                    try clear hx295_0
                    try clear hx295_1
                    try clear hx295_2
                    try clear hx295_3
                    try clear hx295_4
                    try clear hx29_0
                    try clear hx34_0
                    try clear p2
                    try clear p285
                    try clear p286
                    try clear p287
                    try clear p288
                    try clear p289
                    try clear p29
                    try clear p290
                    try clear p291
                    try clear p293
                    try clear p295
                    try clear p34
                    try clear q2
                    try clear q285
                    try clear q286
                    try clear q287
                    try clear q288
                    try clear q289
                    try clear q29
                    try clear q290
                    try clear q291
                    try clear q293
                    try clear q295
                    try clear q34
                    obtain ⟨x13_3, rfl, HA, HK3, HO_8, HB⟩ := hrel
                    cases gk with
                    | zero => exact absurd HA.out (by simp [chargeparkref27_CheckPlan.l2])
                    | succ k3 =>
                      have H := HA.out
                      clear HA
                      simp only [chargeparkref27_CheckPlan.l2] at H
                      by_cases c41 : x13_3 < (l1.length : Int)
                      · rw [if_pos c41] at H
                        have c41b0 : decide (x13_3 < (l1.length : Int)) = true := decide_eq_true c41
                        clear c41
                        by_cases c42 : 0 ≤ x13_3
                        · rw [if_pos c42] at H
                          have c42b0 : decide (0 ≤ x13_3) = true := decide_eq_true c42
                          clear c42
                          by_cases c43 : x13_3 < (x8_2.length : Int)
                          · rw [if_pos c43] at H
                            have c43b0 : decide (x13_3 < (x8_2.length : Int)) = true := decide_eq_true c43
                            clear c43
                            by_cases c44 : (rd x8_2 x13_3) > (rd l1 x13_3)
                            · rw [if_pos c44] at H
                              have c44b0 : decide ((rd l1 x13_3) < (rd x8_2 x13_3)) = true := decide_eq_true c44
                              clear c44
                              obtain rfl := Option.some.inj H
                              obtain ⟨Ao45, co45, eo45⟩ := Kd.R_slice HO_8.out
                              subst eo45
                              have p296 : 0 ≤ (x13_3 : Int) := of_decide_eq_true (by first | (with_reducible assumption) | assumption)
                              have q296 : x13_3 < (x8_2.length : Int) := of_decide_eq_true (by first | (with_reducible assumption) | assumption)
                              obtain ⟨ad296, e296, hx296_0⟩ := Kd.at_int (Kd.R_reads' HO_8.out).2.2 x13_3 p296 q296
                              cases e296
                              replace p296 := eq_true p296
                              replace q296 := eq_true q296
                              have p297 : 0 ≤ (x13_3 : Int) := of_decide_eq_true (by first | (with_reducible assumption) | assumption)
                              have q297 : x13_3 < (l1.length : Int) := of_decide_eq_true (by first | (with_reducible assumption) | assumption)
                              obtain ⟨ad297, e297, hx297_0⟩ := Kd.at_int HR1.out x13_3 p297 q297
                              cases e297
                              replace hx297_0 := (HB.out.cell (World.block_lt_of_cell? w _ hx297_0)).trans hx297_0
                              replace p297 := eq_true p297
                              replace q297 := eq_true q297
                              go_wp2
                              repeat (go_quiet (fail); try go_wp2)
                              go_ret
                              exact ⟨by first | rfl | (simp [errW_none, errW_some] <;> rfl) | (simp [*, errW_none, errW_some] <;> rfl), by repeat (first | (with_reducible first | exact HB.out | apply below_alloc | apply pw_below_drewN | apply below_drew1) | exact HB.out)⟩
                            · rw [if_neg c44] at H
                              have c44b0 : decide ((rd l1 x13_3) < (rd x8_2 x13_3)) = false := decide_eq_false c44
                              clear c44
                              have H' := Aside0.mk H
                              clear H
                              obtain ⟨Ao46, co46, eo46⟩ := Kd.R_slice HO_8.out
                              subst eo46
                              have p296 : 0 ≤ (x13_3 : Int) := of_decide_eq_true (by first | (with_reducible assumption) | assumption)
                              have q296 : x13_3 < (x8_2.length : Int) := of_decide_eq_true (by first | (with_reducible assumption) | assumption)
                              obtain ⟨ad296, e296, hx296_0⟩ := Kd.at_int (Kd.R_reads' HO_8.out).2.2 x13_3 p296 q296
                              cases e296
                              replace p296 := eq_true p296
                              replace q296 := eq_true q296
                              have p297 : 0 ≤ (x13_3 : Int) := of_decide_eq_true (by first | (with_reducible assumption) | assumption)
                              have q297 : x13_3 < (l1.length : Int) := of_decide_eq_true (by first | (with_reducible assumption) | assumption)
                              obtain ⟨ad297, e297, hx297_0⟩ := Kd.at_int HR1.out x13_3 p297 q297
                              cases e297
                              replace hx297_0 := (HB.out.cell (World.block_lt_of_cell? w _ hx297_0)).trans hx297_0
                              replace p297 := eq_true p297
                              replace q297 := eq_true q297
                              go_wp2
                              repeat (go_quiet (fail); try go_wp2)
                              go_roundg k3
                              case measure => have := HJ4.out; have := HK2.out; have := HK3.out; omega
                              case rel => exact ⟨(wrap64 (x13_3 + 1)), (by first | rfl | (simp; done) | (simp [*]; done)), H', ⟨by have := HJ4.out; have := HK2.out; have := HK3.out; omega⟩, ⟨by (with_reducible repeat (first | apply Kd.R_alloc | apply Kd.R_drewN | apply Kd.R_drew)); exact HO_8.out⟩, ⟨by repeat (first | (with_reducible first | exact HB.out | apply below_alloc | apply pw_below_drewN | apply below_drew1) | exact HB.out)⟩⟩
                          · rw [if_neg c43] at H
                            exact absurd H (by simp)
                        · rw [if_neg c42] at H
                          exact absurd H (by simp)
                      · rw [if_neg c41] at H
                        have c41b0 : decide (x13_3 < (l1.length : Int)) = false := decide_eq_false c41
                        clear c41
                        obtain rfl := Option.some.inj H
                        go_wp2
                        repeat (go_quiet (fail); try go_wp2)
                        go_ret
                        exact ⟨by first | rfl | (simp [errW_none, errW_some] <;> rfl) | (simp [*, errW_none, errW_some] <;> rfl), by repeat (first | (with_reducible first | exact HB.out | apply below_alloc | apply pw_below_drewN | apply below_drew1) | exact HB.out)⟩
          · rw [if_neg c10] at H
            exact absurd H (by simp)
        · rw [if_neg c9] at H
          exact absurd H (by simp)

end Go.Proofs.Ytioglahnliajlaa.Pr
