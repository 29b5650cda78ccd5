-- Written by a program of this session over the kit's print.
import Derived.Test.YtioglahnliajlaaPr0
import Derived.Test.YtioglahnliajlaaPr5
import Derived.Test.YtioglahnliajlaaPr6
import Derived.Test.YtioglahnliajlaaPr7
import Derived.Test.YtioglahnliajlaaPr8
namespace Go.Proofs.Ytioglahnliajlaa.Pr
open Go.RowKit Go.Proofs.YtioglahnliajlaaW.PrintWords Go.Proofs.YtioglahnliajlaaW.PrintLast Go.Proofs.YtioglahnliajlaaW.PrintMore
attribute [local go_sem] max2_int min2_int max_two min_two max_three min_three max_four min_four   -- for this text's walks alone
set_option linter.unusedVariables false
set_option linter.unusedSimpArgs false

/-! ### chargeparklaw27_PlanFewer: function 6 -/
mutual
def chargeparklaw27_PlanFewer.j0 : Nat → List (S38) → List Int → Int → Int → Int → Int → Int → Bool → Bool → Option (Bool)
  | 0, _, _, _, _, _, _, _, _, _ => none
  | k + 1, x0, x1, x2, x3, x4, x5, x6, x15, x17 => if x17 = true then (if (x0.length : Int) = 0 then (chargeparklaw27_PlanFewer.j1 k x0 x1 x2 x3 x4 x5 x6 x15 true) else (if x2 < 0 then (chargeparklaw27_PlanFewer.j1 k x0 x1 x2 x3 x4 x5 x6 x15 true) else (if x3 < 0 then (chargeparklaw27_PlanFewer.j1 k x0 x1 x2 x3 x4 x5 x6 x15 true) else (if x4 < 0 then (chargeparklaw27_PlanFewer.j1 k x0 x1 x2 x3 x4 x5 x6 x15 true) else (if x5 < 0 then (chargeparklaw27_PlanFewer.j1 k x0 x1 x2 x3 x4 x5 x6 x15 true) else (if x6 < 0 then (chargeparklaw27_PlanFewer.j1 k x0 x1 x2 x3 x4 x5 x6 x15 true) else (if x6 > 1000 then (chargeparklaw27_PlanFewer.j1 k x0 x1 x2 x3 x4 x5 x6 x15 true) else (chargeparklaw27_PlanFewer.j1 k x0 x1 x2 x3 x4 x5 x6 x15 (decide (x4 > 1000)))))))))) else (chargeparklaw27_PlanFewer.j1 k x0 x1 x2 x3 x4 x5 x6 x15 true)
def chargeparklaw27_PlanFewer.j1 : Nat → List (S38) → List Int → Int → Int → Int → Int → Int → Bool → Bool → Option (Bool)
  | 0, _, _, _, _, _, _, _, _, _ => none
  | k + 1, x0, x1, x2, x3, x4, x5, x6, x15, x74 => if x74 = true then (some x15) else ((chargeparklaw27_met.f x0 x1).bind fun bt348 => (if (x0.length : Int) = 0 then (none) else (if 0 ≤ (x0.length : Int) then (if ((x0.length : Int) : Int).toNat ≤ 7036874417766 then ((some ([] : List (S38))).bind fun y350 => (if 0 ≤ (Int.tmod x2 (x0.length : Int)) then (if (Int.tmod x2 (x0.length : Int)) ≤ (x0.length : Int) then ((some (x0.take ((Int.tmod x2 (x0.length : Int)) : Int).toNat : List (S38))).bind fun y353 => (if y350.length + y353.length < 3518437208883 then ((some (y350 ++ y353 : List (S38))).bind fun y357 => (if 0 ≤ (wrap64 ((Int.tmod x2 (x0.length : Int)) + 1)) then (if (wrap64 ((Int.tmod x2 (x0.length : Int)) + 1)) ≤ (x0.length : Int) then ((some (x0.drop ((wrap64 ((Int.tmod x2 (x0.length : Int)) + 1)) : Int).toNat : List (S38))).bind fun y360 => (if y357.length + y360.length < 3518437208883 then ((some ([] : List (S38))).bind fun y367 => (if y367.length + x0.length < 3518437208883 then ((some (y367 ++ x0 : List (S38))).bind fun y370 => (if (Int.tmod x2 (x0.length : Int)) < (y370.length : Int) then ((some (y370.set ((Int.tmod x2 (x0.length : Int)) : Int).toNat (⟨(rd_T38 y370 (Int.tmod x2 (x0.length : Int))).f0, (rd_T38 y370 (Int.tmod x2 (x0.length : Int))).f1, mx 0 (wrap64 (((rd_T38 y370 (Int.tmod x2 (x0.length : Int))).f2) - x3)), (rd_T38 y370 (Int.tmod x2 (x0.length : Int))).f3, (rd_T38 y370 (Int.tmod x2 (x0.length : Int))).f4⟩ : S38) : List (S38))).bind fun y374 => ((some (y374.set ((Int.tmod x2 (x0.length : Int)) : Int).toNat (⟨(rd_T38 y374 (Int.tmod x2 (x0.length : Int))).f0, (rd_T38 y374 (Int.tmod x2 (x0.length : Int))).f1, (rd_T38 y374 (Int.tmod x2 (x0.length : Int))).f2, mn 1000 (wrap64 (((rd_T38 y374 (Int.tmod x2 (x0.length : Int))).f3) + x4)), (rd_T38 y374 (Int.tmod x2 (x0.length : Int))).f4⟩ : S38) : List (S38))).bind fun y376 => ((some (y376.set ((Int.tmod x2 (x0.length : Int)) : Int).toNat (⟨mx 0 (wrap64 (((rd_T38 y376 (Int.tmod x2 (x0.length : Int))).f0) - (Int.tmod x5 30))), (rd_T38 y376 (Int.tmod x2 (x0.length : Int))).f1, (rd_T38 y376 (Int.tmod x2 (x0.length : Int))).f2, (rd_T38 y376 (Int.tmod x2 (x0.length : Int))).f3, (rd_T38 y376 (Int.tmod x2 (x0.length : Int))).f4⟩ : S38) : List (S38))).bind fun y378 => (chargeparklaw27_PlanFewer.l0 k x1 x6 x15 bt348.1 bt348.2 (y357 ++ y360) (y378.set ((Int.tmod x2 (x0.length : Int)) : Int).toNat (⟨(rd_T38 y378 (Int.tmod x2 (x0.length : Int))).f0, mn (x1.length : Int) (wrap64 (((rd_T38 y378 (Int.tmod x2 (x0.length : Int))).f1) + (Int.tmod x5 7))), (rd_T38 y378 (Int.tmod x2 (x0.length : Int))).f2, (rd_T38 y378 (Int.tmod x2 (x0.length : Int))).f3, (rd_T38 y378 (Int.tmod x2 (x0.length : Int))).f4⟩ : S38)) ([] : List Int) 0)))) else (none))) else (none))) else (none))) else (none)) else (none))) else (none))) else (none)) else (none))) else (none)) else (none))))
def chargeparklaw27_PlanFewer.l0 : Nat → List Int → Int → Bool → Bool → Bool → List (S38) → List (S38) → List Int → Int → Option (Bool)
  | 0, _, _, _, _, _, _, _, _, _ => none
  | k + 1, x1, x6, x15, x18, x19, x21, x22, x23, x24 => if x24 < (x1.length : Int) then (if 0 ≤ x24 then (if x23.length < 17592186044416 then (chargeparklaw27_PlanFewer.l0 k x1 x6 x15 x18 x19 x21 x22 (x23 ++ [mn 1000 (wrap64 ((rd x1 x24) + (wrap64 (x6 * (Int.tmod x24 2)))))]) (wrap64 (x24 + 1))) else (none)) else (none)) else ((chargeparklaw27_met.f x21 x1).bind fun bt385 => ((chargeparklaw27_met.f x22 x23).bind fun bt387 => (if x15 = true then (if x19 = true then (if bt385.2 = true then (if bt387.2 = true then (if x18 = true then (if bt385.1 = true then (some bt387.1) else (some false)) else (some true)) else (some false)) else (some false)) else (some false)) else (some false))))
end
def chargeparklaw27_PlanFewer.f (k : Nat) (l0 : List (S38)) (l1 : List Int) (a2 : Int) (a3 : Int) (a4 : Int) (a5 : Int) (a6 : Int) : Option (Bool) := (chargeparklaw27_head.f k).bind fun t345 => ((chargeparkref27_Few.f k l0 l1 ([] : List (List Int)) ([] : List Int) ([] : List Int)).bind fun t346 => (if t346 = true then ((chargeparkref27_Valid.f k l0 l1).bind fun t347 => (chargeparklaw27_PlanFewer.j0 k l0 l1 a2 a3 a4 a5 a6 t345 t347)) else (chargeparklaw27_PlanFewer.j0 k l0 l1 a2 a3 a4 a5 a6 t345 false)))
theorem chargeparklaw27_PlanFewer.mono_l : ∀ k, (∀ y0 y1 y2 y3 y4 y5 y6 y7 y8, LeO (chargeparklaw27_PlanFewer.j0 k y0 y1 y2 y3 y4 y5 y6 y7 y8) (chargeparklaw27_PlanFewer.j0 (k + 1) y0 y1 y2 y3 y4 y5 y6 y7 y8)) ∧ (∀ y0 y1 y2 y3 y4 y5 y6 y7 y8, LeO (chargeparklaw27_PlanFewer.j1 k y0 y1 y2 y3 y4 y5 y6 y7 y8) (chargeparklaw27_PlanFewer.j1 (k + 1) y0 y1 y2 y3 y4 y5 y6 y7 y8)) ∧ (∀ y0 y1 y2 y3 y4 y5 y6 y7 y8, LeO (chargeparklaw27_PlanFewer.l0 k y0 y1 y2 y3 y4 y5 y6 y7 y8) (chargeparklaw27_PlanFewer.l0 (k + 1) y0 y1 y2 y3 y4 y5 y6 y7 y8))
  | 0 => ⟨fun _ _ _ _ _ _ _ _ _ r h => by simp [chargeparklaw27_PlanFewer.j0] at h, fun _ _ _ _ _ _ _ _ _ r h => by simp [chargeparklaw27_PlanFewer.j1] at h, fun _ _ _ _ _ _ _ _ _ r h => by simp [chargeparklaw27_PlanFewer.l0] at h⟩
  | k + 1 => by
    obtain ⟨ih0, ih1, ih2⟩ := chargeparklaw27_PlanFewer.mono_l k
    refine ⟨?_, ?_, ?_⟩
    · intro y0 y1 y2 y3 y4 y5 y6 y7 y8
      unfold chargeparklaw27_PlanFewer.j0
      repeat' first
      | (with_reducible exact ih0 _ _ _ _ _ _ _ _ _)
      | (with_reducible exact ih1 _ _ _ _ _ _ _ _ _)
      | (with_reducible exact ih2 _ _ _ _ _ _ _ _ _)
      | (with_reducible exact chargeparklaw27_head.mono _)
      | (with_reducible exact chargeparkref27_Few.mono _ _ _ _ _ _)
      | (with_reducible exact chargeparkref27_Valid.mono _ _ _)
      | (with_reducible exact LeO.refl _)
      | (with_reducible exact LeO.none _)
      | (with_reducible refine LeO.ite ?_ ?_)
      | (with_reducible refine LeO.bind ?_ (fun _ => ?_))
      | exact ih0 _ _ _ _ _ _ _ _ _
      | exact ih1 _ _ _ _ _ _ _ _ _
      | exact ih2 _ _ _ _ _ _ _ _ _
      | exact chargeparklaw27_head.mono _
      | exact chargeparkref27_Few.mono _ _ _ _ _ _
      | exact chargeparkref27_Valid.mono _ _ _
      | exact LeO.none _
      | refine LeO.ite ?_ ?_
      | refine LeO.bind ?_ (fun _ => ?_)
    · intro y0 y1 y2 y3 y4 y5 y6 y7 y8
      unfold chargeparklaw27_PlanFewer.j1
      repeat' first
      | (with_reducible exact ih0 _ _ _ _ _ _ _ _ _)
      | (with_reducible exact ih1 _ _ _ _ _ _ _ _ _)
      | (with_reducible exact ih2 _ _ _ _ _ _ _ _ _)
      | (with_reducible exact chargeparklaw27_head.mono _)
      | (with_reducible exact chargeparkref27_Few.mono _ _ _ _ _ _)
      | (with_reducible exact chargeparkref27_Valid.mono _ _ _)
      | (with_reducible exact LeO.refl _)
      | (with_reducible exact LeO.none _)
      | (with_reducible refine LeO.ite ?_ ?_)
      | (with_reducible refine LeO.bind ?_ (fun _ => ?_))
      | exact ih0 _ _ _ _ _ _ _ _ _
      | exact ih1 _ _ _ _ _ _ _ _ _
      | exact ih2 _ _ _ _ _ _ _ _ _
      | exact chargeparklaw27_head.mono _
      | exact chargeparkref27_Few.mono _ _ _ _ _ _
      | exact chargeparkref27_Valid.mono _ _ _
      | exact LeO.none _
      | refine LeO.ite ?_ ?_
      | refine LeO.bind ?_ (fun _ => ?_)
    · intro y0 y1 y2 y3 y4 y5 y6 y7 y8
      unfold chargeparklaw27_PlanFewer.l0
      repeat' first
      | (with_reducible exact ih0 _ _ _ _ _ _ _ _ _)
      | (with_reducible exact ih1 _ _ _ _ _ _ _ _ _)
      | (with_reducible exact ih2 _ _ _ _ _ _ _ _ _)
      | (with_reducible exact chargeparklaw27_head.mono _)
      | (with_reducible exact chargeparkref27_Few.mono _ _ _ _ _ _)
      | (with_reducible exact chargeparkref27_Valid.mono _ _ _)
      | (with_reducible exact LeO.refl _)
      | (with_reducible exact LeO.none _)
      | (with_reducible refine LeO.ite ?_ ?_)
      | (with_reducible refine LeO.bind ?_ (fun _ => ?_))
      | exact ih0 _ _ _ _ _ _ _ _ _
      | exact ih1 _ _ _ _ _ _ _ _ _
      | exact ih2 _ _ _ _ _ _ _ _ _
      | exact chargeparklaw27_head.mono _
      | exact chargeparkref27_Few.mono _ _ _ _ _ _
      | exact chargeparkref27_Valid.mono _ _ _
      | exact LeO.none _
      | refine LeO.ite ?_ ?_
      | refine LeO.bind ?_ (fun _ => ?_)
theorem chargeparklaw27_PlanFewer.mono : ∀ a0 a1 a2 a3 a4 a5 a6 k, LeO (chargeparklaw27_PlanFewer.f k a0 a1 a2 a3 a4 a5 a6) (chargeparklaw27_PlanFewer.f (k + 1) a0 a1 a2 a3 a4 a5 a6) := by
  intro a0 a1 a2 a3 a4 a5 a6 k
  obtain ⟨ih0, ih1, ih2⟩ := chargeparklaw27_PlanFewer.mono_l k
  unfold chargeparklaw27_PlanFewer.f
  repeat' first
      | (with_reducible exact ih0 _ _ _ _ _ _ _ _ _)
      | (with_reducible exact ih1 _ _ _ _ _ _ _ _ _)
      | (with_reducible exact ih2 _ _ _ _ _ _ _ _ _)
      | (with_reducible exact chargeparklaw27_head.mono _)
      | (with_reducible exact chargeparkref27_Few.mono _ _ _ _ _ _)
      | (with_reducible exact chargeparkref27_Valid.mono _ _ _)
      | (with_reducible exact LeO.refl _)
      | (with_reducible exact LeO.none _)
      | (with_reducible refine LeO.ite ?_ ?_)
      | (with_reducible refine LeO.bind ?_ (fun _ => ?_))
      | exact ih0 _ _ _ _ _ _ _ _ _
      | exact ih1 _ _ _ _ _ _ _ _ _
      | exact ih2 _ _ _ _ _ _ _ _ _
      | exact chargeparklaw27_head.mono _
      | exact chargeparkref27_Few.mono _ _ _ _ _ _
      | exact chargeparkref27_Valid.mono _ _ _
      | exact LeO.none _
      | refine LeO.ite ?_ ?_
      | refine LeO.bind ?_ (fun _ => ?_)
def chargeparklaw27_PlanFewer.T8 : Bool × List (List Nat × List Nat) := (true, [([], []), ([0], [0]), ([1], [1]), ([], []), ([], []), ([3, 4], [3, 4]), ([2, 5], [2, 5]), ([], []), ([], []), ([8], [8]), ([7, 9], [7, 9]), ([6, 10, 6], [6, 10]), ([11, 11, 0, 1, 2, 3, 4, 5, 6, 7, 8, 9, 10, 11], [11])])
def chargeparklaw27_PlanFewer.B8 : List Nat := [0, 1, 3, 0, 0, 24, 63, 0, 0, 256, 896, 2047, 4095]
theorem chargeparklaw27_PlanFewer.tab8 : rtab .any (opsOf Try.f6 8) = chargeparklaw27_PlanFewer.T8 := by kernel_rfl
theorem chargeparklaw27_PlanFewer.bits8 : waitsOk chargeparklaw27_PlanFewer.T8.2 chargeparklaw27_PlanFewer.B8 = true := by kernel_rfl
set_option maxHeartbeats 8000000 in
set_option maxRecDepth 100000 in
theorem chargeparklaw27_PlanFewer.calls (k : Nat) (A0 : Option Addr) (c0 : Nat) (l0 : List (S38)) (A1 : Option Addr) (c1 : Nat) (l1 : List Int) (a2 : Int) (a3 : Int) (a4 : Int) (a5 : Int) (a6 : Int) (r : Bool) (w : World) (hr0 : Kd.C k38 w A0 l0.length l0) (hc0 : l0.length ≤ c0) (hr1 : Kd.C (Kd.int .i64) w A1 l1.length l1) (hc1 : l1.length ≤ c1) (h : chargeparklaw27_PlanFewer.f k l0 l1 a2 a3 a4 a5 a6 = some r) :
    Calls Try.prog 6 #[.slice A0 l0.length c0, .slice A1 l1.length c1, .int .i64 a2, .int .i64 a3, .int .i64 a4, .int .i64 a5, .int .i64 a6] w fun e w' => e = .returned (.bool r) ∧ Below w.heap.size w w' := by
  have hu26 := Try.underlying26
  have HR0 := Aside0.mk hr0
  have HC0 := Aside0.mk hc0
  clear hr0 hc0
  have HR1 := Aside0.mk hr1
  have HC1 := Aside0.mk hc1
  clear hr1 hc1
  have HB := Aside0.mk (Below.refl w.heap.size w)
  have H : ((chargeparklaw27_head.f k).bind fun t345 => ((chargeparkref27_Few.f k l0 l1 ([] : List (List Int)) ([] : List Int) ([] : List Int)).bind fun t346 => (if t346 = true then ((chargeparkref27_Valid.f k l0 l1).bind fun t347 => (chargeparklaw27_PlanFewer.j0 k l0 l1 a2 a3 a4 a5 a6 t345 t347)) else (chargeparklaw27_PlanFewer.j0 k l0 l1 a2 a3 a4 a5 a6 t345 false)))) = some r := h
  clear h
  replace H := Option.bind_eq_some_iff.mp H
  obtain ⟨t345, A80, H⟩ := H
  replace H : ((chargeparkref27_Few.f k l0 l1 ([] : List (List Int)) ([] : List Int) ([] : List Int)).bind fun t346 => (if t346 = true then ((chargeparkref27_Valid.f k l0 l1).bind fun t347 => (chargeparklaw27_PlanFewer.j0 k l0 l1 a2 a3 a4 a5 a6 t345 t347)) else (chargeparklaw27_PlanFewer.j0 k l0 l1 a2 a3 a4 a5 a6 t345 false))) = some r := H
  have A8 := Aside0.mk A80
  clear A80
  replace H := Option.bind_eq_some_iff.mp H
  obtain ⟨t346, A90, H⟩ := H
  replace H : (if t346 = true then ((chargeparkref27_Valid.f k l0 l1).bind fun t347 => (chargeparklaw27_PlanFewer.j0 k l0 l1 a2 a3 a4 a5 a6 t345 t347)) else (chargeparklaw27_PlanFewer.j0 k l0 l1 a2 a3 a4 a5 a6 t345 false)) = some r := H
  have A9 := Aside0.mk A90
  clear A90
  have HC10 := Aside0.mk H
  clear H
  go_enter Try.func6, Try.ntmps6
  go_upto_region 3 with (first | ((with_reducible refine gate_callee (f := 10) rfl ?_); refine goesL_ (some 29) rfl rfl Try.func10 (by kernel_rfl) rfl #[] rfl (by (try simp only [List.map_toArray, List.map_cons, List.map_nil]); first | done | rfl | (simp only [List.length_drop, List.length_take]; rfl)) ?_; (with_reducible refine (chargeparklaw27_head.calls k  t345 _ A8.out).mono ?_); rintro e w11 ⟨rfl, hb⟩; refine ⟨_, rfl, ?_⟩; have n0_ := Aside0.mk (below_step (by repeat (first | (with_reducible first | exact HB.out | apply below_alloc | apply pw_below_drewN | apply below_drew1) | exact HB.out)) hb); clear HB; have HB := n0_; clear n0_; (try clear hb); (try clear hb2); (try clear hk); (try clear hi)) | ((with_reducible refine gate_callee (f := 11) rfl ?_); refine goesL_ (some 33) rfl rfl Try.func11 (by kernel_rfl) rfl #[.slice A0 l0.length c0, .slice A1 l1.length c1, .slice none 0 0, .agg #[.slice none 0 0, .slice none 0 0]] rfl (by (try simp only [List.map_toArray, List.map_cons, List.map_nil]); first | done | rfl | (simp only [List.length_drop, List.length_take]; rfl)) ?_; (refine (chargeparkref27_Few.calls k _ _ l0 _ _ l1 _ _ ([] : List (List Int)) _ _ ([] : List Int) _ _ ([] : List Int) t346 _ ?side1 ?side2 ?side3 ?side4 ?side5 ?side6 ?side7 ?side8 ?side9 ?side10 A9.out).mono ?_); (case side1 => repeat (first | exact (Kd.C_below HR0.out HB.out) | (with_reducible refine Kd.C_alloc ?_ _) | (with_reducible refine Kd.C_drewN ?_ _) | (with_reducible refine Kd.C_drew ?_))); (case side2 => exact HC0.out); (case side3 => repeat (first | exact (Kd.C_below HR1.out HB.out) | (with_reducible refine Kd.C_alloc ?_ _) | (with_reducible refine Kd.C_drewN ?_ _) | (with_reducible refine Kd.C_drew ?_))); (case side4 => exact HC1.out); (case side5 => exact Kd.C_nil _ _); (case side6 => exact Nat.le_refl _); (case side7 => exact Kd.C_nil _ _); (case side8 => exact Nat.le_refl _); (case side9 => exact Kd.C_nil _ _); (case side10 => exact Nat.le_refl _); rintro e w12 ⟨rfl, hb⟩; refine ⟨_, rfl, ?_⟩; have n0_ := Aside0.mk (below_step (by repeat (first | (with_reducible first | exact HB.out | apply below_alloc | apply pw_below_drewN | apply below_drew1) | exact HB.out)) hb); clear HB; have HB := n0_; clear n0_; (try clear hb); (try clear hb2); (try clear hk); (try clear hi)))
  (try simp only [Act.put, List.setIfInBounds_toArray, List.set_cons_zero, List.set_cons_succ])
  go_cut [17] (fun v17 wc => ∃ (kq : Nat) (x17_9 : Bool), v17 = .bool x17_9 ∧ Aside0 (chargeparklaw27_PlanFewer.j0 kq l0 l1 a2 a3 a4 a5 a6 t345 x17_9 = some r) ∧ Aside0 (kq ≤ k) ∧ Aside0 (Below w.heap.size w wc))
  case first =>
    have H := HC10.out
    clear HC10
    by_cases c13 : t346 = true
    · subst c13
      have H1 : ((chargeparkref27_Valid.f k l0 l1).bind fun t347 => (chargeparklaw27_PlanFewer.j0 k l0 l1 a2 a3 a4 a5 a6 t345 t347)) = some r := by rw [if_pos rfl] at H; exact H
      clear H
      have H := H1
      clear H1
      replace H := Option.bind_eq_some_iff.mp H
      obtain ⟨t347, A140, H⟩ := H
      replace H : (chargeparklaw27_PlanFewer.j0 k l0 l1 a2 a3 a4 a5 a6 t345 t347) = some r := H
      have A14 := Aside0.mk A140
      clear A140
      have H' := Aside0.mk H
      clear H
      go_wp2_with (first | (go_at_call 15; (with_reducible refine (chargeparkref27_Valid.calls k _ _ l0 _ _ l1 t347 _ ?side1 ?side2 ?side3 ?side4 A14.out).mono ?_); (case side1 => repeat (first | exact (Kd.C_below HR0.out HB.out) | (with_reducible refine Kd.C_alloc ?_ _) | (with_reducible refine Kd.C_drewN ?_ _) | (with_reducible refine Kd.C_drew ?_))); (case side2 => exact HC0.out); (case side3 => repeat (first | exact (Kd.C_below HR1.out HB.out) | (with_reducible refine Kd.C_alloc ?_ _) | (with_reducible refine Kd.C_drewN ?_ _) | (with_reducible refine Kd.C_drew ?_))); (case side4 => exact HC1.out); rintro e w15 ⟨rfl, hb⟩; have n0_ := Aside0.mk (below_step (by repeat (first | (with_reducible first | exact HB.out | apply below_alloc | apply pw_below_drewN | apply below_drew1) | exact HB.out)) hb); clear HB; have HB := n0_; clear n0_; (try clear hb); (try clear hb2); (try clear hk); (try clear hi)))
      go_meet
      case rel => exact ⟨_, (t347), (by first | rfl | (simp; done) | (simp [*]; done)), H', ⟨by first | omega | exact Nat.le_refl _⟩, ⟨by repeat (first | (with_reducible first | exact HB.out | apply below_alloc | apply pw_below_drewN | apply below_drew1) | exact HB.out)⟩⟩
    · replace c13 := Bool.eq_false_iff.mpr c13
      subst c13
      have H1 : (chargeparklaw27_PlanFewer.j0 k l0 l1 a2 a3 a4 a5 a6 t345 false) = some r := by rw [if_neg (show ¬ (false = true) by decide)] at H; exact H
      clear H
      have H := H1
      clear H1
      have H' := Aside0.mk H
      clear H
      go_wp2
      go_meet
      case rel => exact ⟨_, (false), (by first | rfl | (simp; done) | (simp [*]; done)), H', ⟨by first | omega | exact Nat.le_refl _⟩, ⟨by repeat (first | (with_reducible first | exact HB.out | apply below_alloc | apply pw_below_drewN | apply below_drew1) | exact HB.out)⟩⟩
  case rest =>
    clear HC10
    try clear c1
    try clear p2
    try clear c6
    try clear c10
    try clear c11
    try clear c13
    obtain ⟨kq, x17_9, rfl, HA, HJ9, HB⟩ := hcut
    cases kq with
    | zero => exact absurd HA.out (by simp [chargeparklaw27_PlanFewer.j0])
    | succ kj9 =>
      have H := HA.out
      clear HA
      simp only [chargeparklaw27_PlanFewer.j0] at H
      have HC16 := Aside0.mk H
      clear H
      go_upto_region 4 with (fail)
      go_cut [74] (fun v74 wc => ∃ (kq : Nat) (x74_15 : Bool), v74 = .bool x74_15 ∧ Aside0 (chargeparklaw27_PlanFewer.j1 kq l0 l1 a2 a3 a4 a5 a6 t345 x74_15 = some r) ∧ Aside0 (kq ≤ kj9) ∧ Aside0 (Below w.heap.size w wc))
      case first =>
        have H := HC16.out
        clear HC16
        by_cases c17 : x17_9 = true
        · subst c17
          have H1 : (if (l0.length : Int) = 0 then (chargeparklaw27_PlanFewer.j1 kj9 l0 l1 a2 a3 a4 a5 a6 t345 true) else (if a2 < 0 then (chargeparklaw27_PlanFewer.j1 kj9 l0 l1 a2 a3 a4 a5 a6 t345 true) else (if a3 < 0 then (chargeparklaw27_PlanFewer.j1 kj9 l0 l1 a2 a3 a4 a5 a6 t345 true) else (if a4 < 0 then (chargeparklaw27_PlanFewer.j1 kj9 l0 l1 a2 a3 a4 a5 a6 t345 true) else (if a5 < 0 then (chargeparklaw27_PlanFewer.j1 kj9 l0 l1 a2 a3 a4 a5 a6 t345 true) else (if a6 < 0 then (chargeparklaw27_PlanFewer.j1 kj9 l0 l1 a2 a3 a4 a5 a6 t345 true) else (if a6 > 1000 then (chargeparklaw27_PlanFewer.j1 kj9 l0 l1 a2 a3 a4 a5 a6 t345 true) else (chargeparklaw27_PlanFewer.j1 kj9 l0 l1 a2 a3 a4 a5 a6 t345 (decide (a4 > 1000)))))))))) = some r := by rw [if_pos rfl] at H; exact H
          clear H
          have H := H1
          clear H1
          by_cases c18 : (l0.length : Int) = 0
          · rw [if_pos c18] at H
            have c18b0 : ((l0.length : Int) == 0) = true := beq_iff_eq.mpr c18
            have c18b1 : ((l0.length : Int) != 0) = false := bne_eq_false_iff_eq.mpr c18
            clear c18
            (first | rw [c18b0] | (simp only [i64_w, i32_w]; rw [c18b0]) | skip)
            have H' := Aside0.mk H
            clear H
            go_wp2
            go_meet
            case rel => exact ⟨_, (true), (by first | rfl | (simp; done) | (simp [*]; done)), H', ⟨by have := HJ9.out; first | omega | exact Nat.le_refl _⟩, ⟨by repeat (first | (with_reducible first | exact HB.out | apply below_alloc | apply pw_below_drewN | apply below_drew1) | exact HB.out)⟩⟩
          · rw [if_neg c18] at H
            have c18b0 : ((l0.length : Int) == 0) = false := beq_eq_false_iff_ne.mpr c18
            have c18b1 : ((l0.length : Int) != 0) = true := bne_iff_ne.mpr c18
            have c18b2 : ¬ (l0 = []) := fun h_ => c18 (by rw [h_]; rfl)
            (first | rw [c18b0] | (simp only [i64_w, i32_w]; rw [c18b0]) | skip)
            by_cases c19 : a2 < 0
            · rw [if_pos c19] at H
              have c19b0 : decide (a2 < 0) = true := decide_eq_true c19
              clear c19
              have H' := Aside0.mk H
              clear H
              go_wp2
              go_meet
              case rel => exact ⟨_, (true), (by first | rfl | (simp; done) | (simp [*]; done)), H', ⟨by have := HJ9.out; first | omega | exact Nat.le_refl _⟩, ⟨by repeat (first | (with_reducible first | exact HB.out | apply below_alloc | apply pw_below_drewN | apply below_drew1) | exact HB.out)⟩⟩
            · rw [if_neg c19] at H
              have c19b0 : decide (a2 < 0) = false := decide_eq_false c19
              clear c19
              by_cases c20 : a3 < 0
              · rw [if_pos c20] at H
                have c20b0 : decide (a3 < 0) = true := decide_eq_true c20
                clear c20
                have H' := Aside0.mk H
                clear H
                go_wp2
                go_meet
                case rel => exact ⟨_, (true), (by first | rfl | (simp; done) | (simp [*]; done)), H', ⟨by have := HJ9.out; first | omega | exact Nat.le_refl _⟩, ⟨by repeat (first | (with_reducible first | exact HB.out | apply below_alloc | apply pw_below_drewN | apply below_drew1) | exact HB.out)⟩⟩
              · rw [if_neg c20] at H
                have c20b0 : decide (a3 < 0) = false := decide_eq_false c20
                clear c20
                by_cases c21 : a4 < 0
                · rw [if_pos c21] at H
                  have c21b0 : decide (a4 < 0) = true := decide_eq_true c21
                  clear c21
                  have H' := Aside0.mk H
                  clear H
                  go_wp2
                  go_meet
                  case rel => exact ⟨_, (true), (by first | rfl | (simp; done) | (simp [*]; done)), H', ⟨by have := HJ9.out; first | omega | exact Nat.le_refl _⟩, ⟨by repeat (first | (with_reducible first | exact HB.out | apply below_alloc | apply pw_below_drewN | apply below_drew1) | exact HB.out)⟩⟩
                · rw [if_neg c21] at H
                  have c21b0 : decide (a4 < 0) = false := decide_eq_false c21
                  clear c21
                  by_cases c22 : a5 < 0
                  · rw [if_pos c22] at H
                    have c22b0 : decide (a5 < 0) = true := decide_eq_true c22
                    clear c22
                    have H' := Aside0.mk H
                    clear H
                    go_wp2
                    go_meet
                    case rel => exact ⟨_, (true), (by first | rfl | (simp; done) | (simp [*]; done)), H', ⟨by have := HJ9.out; first | omega | exact Nat.le_refl _⟩, ⟨by repeat (first | (with_reducible first | exact HB.out | apply below_alloc | apply pw_below_drewN | apply below_drew1) | exact HB.out)⟩⟩
                  · rw [if_neg c22] at H
                    have c22b0 : decide (a5 < 0) = false := decide_eq_false c22
                    clear c22
                    by_cases c23 : a6 < 0
                    · rw [if_pos c23] at H
                      have c23b0 : decide (a6 < 0) = true := decide_eq_true c23
                      clear c23
                      have H' := Aside0.mk H
                      clear H
                      go_wp2
                      go_meet
                      case rel => exact ⟨_, (true), (by first | rfl | (simp; done) | (simp [*]; done)), H', ⟨by have := HJ9.out; first | omega | exact Nat.le_refl _⟩, ⟨by repeat (first | (with_reducible first | exact HB.out | apply below_alloc | apply pw_below_drewN | apply below_drew1) | exact HB.out)⟩⟩
                    · rw [if_neg c23] at H
                      have c23b0 : decide (a6 < 0) = false := decide_eq_false c23
                      clear c23
                      by_cases c24 : a6 > 1000
                      · rw [if_pos c24] at H
                        have c24b0 : decide (1000 < a6) = true := decide_eq_true c24
                        clear c24
                        have H' := Aside0.mk H
                        clear H
                        go_wp2
                        go_meet
                        case rel => exact ⟨_, (true), (by first | rfl | (simp; done) | (simp [*]; done)), H', ⟨by have := HJ9.out; first | omega | exact Nat.le_refl _⟩, ⟨by repeat (first | (with_reducible first | exact HB.out | apply below_alloc | apply pw_below_drewN | apply below_drew1) | exact HB.out)⟩⟩
                      · rw [if_neg c24] at H
                        have c24b0 : decide (1000 < a6) = false := decide_eq_false c24
                        clear c24
                        have H' := Aside0.mk H
                        clear H
                        go_wp2
                        go_meet
                        case rel => exact ⟨_, (decide (a4 > 1000)), (by first | rfl | (simp; done) | (simp [*]; done)), H', ⟨by have := HJ9.out; first | omega | exact Nat.le_refl _⟩, ⟨by repeat (first | (with_reducible first | exact HB.out | apply below_alloc | apply pw_below_drewN | apply below_drew1) | exact HB.out)⟩⟩
        · replace c17 := Bool.eq_false_iff.mpr c17
          subst c17
          have H1 : (chargeparklaw27_PlanFewer.j1 kj9 l0 l1 a2 a3 a4 a5 a6 t345 true) = some r := by rw [if_neg (show ¬ (false = true) by decide)] at H; exact H
          clear H
          have H := H1
          clear H1
          have H' := Aside0.mk H
          clear H
          go_wp2
          go_meet
          case rel => exact ⟨_, (true), (by first | rfl | (simp; done) | (simp [*]; done)), H', ⟨by have := HJ9.out; first | omega | exact Nat.le_refl _⟩, ⟨by repeat (first | (with_reducible first | exact HB.out | apply below_alloc | apply pw_below_drewN | apply below_drew1) | exact HB.out)⟩⟩
      case rest =>
        clear HC16
        try clear c1
        try clear c2
        try clear p2
        try clear c6
        try clear c10
        try clear c11
        try clear c13
        try clear c17
        try clear c18
        try clear c18b0
        try clear c18b1
        try clear c18b2
        try clear c19
        try clear c19b0
        try clear c20
        try clear c20b0
        try clear c21
        try clear c21b0
        try clear c22
        try clear c22b0
        try clear c23
        try clear c23b0
        try clear c24
        try clear c24b0
        try clear p2
        obtain ⟨kq, x74_15, rfl, HA, HJ15, HB⟩ := hcut
        cases kq with
        | zero => exact absurd HA.out (by simp [chargeparklaw27_PlanFewer.j1])
        | succ kj15 =>
          have H := HA.out
          clear HA
          simp only [chargeparklaw27_PlanFewer.j1] at H
          by_cases c25 : x74_15 = true
          · subst c25
            have H1 : (some t345) = some r := by rw [if_pos rfl] at H; exact H
            clear H
            have H := H1
            clear H1
            obtain rfl := Option.some.inj H
            go_wp2
            go_ret
            exact ⟨by first | rfl | (simp [errW_none, errW_some] <;> rfl) | (simp [*, errW_none, errW_some] <;> rfl), by repeat (first | (with_reducible first | exact HB.out | apply below_alloc | apply pw_below_drewN | apply below_drew1) | exact HB.out)⟩
          · replace c25 := Bool.eq_false_iff.mpr c25
            subst c25
            have H1 : ((chargeparklaw27_met.f l0 l1).bind fun bt348 => (if (l0.length : Int) = 0 then (none) else (if 0 ≤ (l0.length : Int) then (if ((l0.length : Int) : Int).toNat ≤ 7036874417766 then ((some ([] : List (S38))).bind fun y350 => (if 0 ≤ (Int.tmod a2 (l0.length : Int)) then (if (Int.tmod a2 (l0.length : Int)) ≤ (l0.length : Int) then ((some (l0.take ((Int.tmod a2 (l0.length : Int)) : Int).toNat : List (S38))).bind fun y353 => (if y350.length + y353.length < 3518437208883 then ((some (y350 ++ y353 : List (S38))).bind fun y357 => (if 0 ≤ (wrap64 ((Int.tmod a2 (l0.length : Int)) + 1)) then (if (wrap64 ((Int.tmod a2 (l0.length : Int)) + 1)) ≤ (l0.length : Int) then ((some (l0.drop ((wrap64 ((Int.tmod a2 (l0.length : Int)) + 1)) : Int).toNat : List (S38))).bind fun y360 => (if y357.length + y360.length < 3518437208883 then ((some ([] : List (S38))).bind fun y367 => (if y367.length + l0.length < 3518437208883 then ((some (y367 ++ l0 : List (S38))).bind fun y370 => (if (Int.tmod a2 (l0.length : Int)) < (y370.length : Int) then ((some (y370.set ((Int.tmod a2 (l0.length : Int)) : Int).toNat (⟨(rd_T38 y370 (Int.tmod a2 (l0.length : Int))).f0, (rd_T38 y370 (Int.tmod a2 (l0.length : Int))).f1, mx 0 (wrap64 (((rd_T38 y370 (Int.tmod a2 (l0.length : Int))).f2) - a3)), (rd_T38 y370 (Int.tmod a2 (l0.length : Int))).f3, (rd_T38 y370 (Int.tmod a2 (l0.length : Int))).f4⟩ : S38) : List (S38))).bind fun y374 => ((some (y374.set ((Int.tmod a2 (l0.length : Int)) : Int).toNat (⟨(rd_T38 y374 (Int.tmod a2 (l0.length : Int))).f0, (rd_T38 y374 (Int.tmod a2 (l0.length : Int))).f1, (rd_T38 y374 (Int.tmod a2 (l0.length : Int))).f2, mn 1000 (wrap64 (((rd_T38 y374 (Int.tmod a2 (l0.length : Int))).f3) + a4)), (rd_T38 y374 (Int.tmod a2 (l0.length : Int))).f4⟩ : S38) : List (S38))).bind fun y376 => ((some (y376.set ((Int.tmod a2 (l0.length : Int)) : Int).toNat (⟨mx 0 (wrap64 (((rd_T38 y376 (Int.tmod a2 (l0.length : Int))).f0) - (Int.tmod a5 30))), (rd_T38 y376 (Int.tmod a2 (l0.length : Int))).f1, (rd_T38 y376 (Int.tmod a2 (l0.length : Int))).f2, (rd_T38 y376 (Int.tmod a2 (l0.length : Int))).f3, (rd_T38 y376 (Int.tmod a2 (l0.length : Int))).f4⟩ : S38) : List (S38))).bind fun y378 => (chargeparklaw27_PlanFewer.l0 kj15 l1 a6 t345 bt348.1 bt348.2 (y357 ++ y360) (y378.set ((Int.tmod a2 (l0.length : Int)) : Int).toNat (⟨(rd_T38 y378 (Int.tmod a2 (l0.length : Int))).f0, mn (l1.length : Int) (wrap64 (((rd_T38 y378 (Int.tmod a2 (l0.length : Int))).f1) + (Int.tmod a5 7))), (rd_T38 y378 (Int.tmod a2 (l0.length : Int))).f2, (rd_T38 y378 (Int.tmod a2 (l0.length : Int))).f3, (rd_T38 y378 (Int.tmod a2 (l0.length : Int))).f4⟩ : S38)) ([] : List Int) 0)))) else (none))) else (none))) else (none))) else (none)) else (none))) else (none))) else (none)) else (none))) else (none)) else (none)))) = some r := by rw [if_neg (show ¬ (false = true) by decide)] at H; exact H
            clear H
            have H := H1
            clear H1
            replace H := Option.bind_eq_some_iff.mp H
            obtain ⟨⟨t348, t349⟩, A260, H⟩ := H
            replace H : (if (l0.length : Int) = 0 then (none) else (if 0 ≤ (l0.length : Int) then (if ((l0.length : Int) : Int).toNat ≤ 7036874417766 then ((some ([] : List (S38))).bind fun y350 => (if 0 ≤ (Int.tmod a2 (l0.length : Int)) then (if (Int.tmod a2 (l0.length : Int)) ≤ (l0.length : Int) then ((some (l0.take ((Int.tmod a2 (l0.length : Int)) : Int).toNat : List (S38))).bind fun y353 => (if y350.length + y353.length < 3518437208883 then ((some (y350 ++ y353 : List (S38))).bind fun y357 => (if 0 ≤ (wrap64 ((Int.tmod a2 (l0.length : Int)) + 1)) then (if (wrap64 ((Int.tmod a2 (l0.length : Int)) + 1)) ≤ (l0.length : Int) then ((some (l0.drop ((wrap64 ((Int.tmod a2 (l0.length : Int)) + 1)) : Int).toNat : List (S38))).bind fun y360 => (if y357.length + y360.length < 3518437208883 then ((some ([] : List (S38))).bind fun y367 => (if y367.length + l0.length < 3518437208883 then ((some (y367 ++ l0 : List (S38))).bind fun y370 => (if (Int.tmod a2 (l0.length : Int)) < (y370.length : Int) then ((some (y370.set ((Int.tmod a2 (l0.length : Int)) : Int).toNat (⟨(rd_T38 y370 (Int.tmod a2 (l0.length : Int))).f0, (rd_T38 y370 (Int.tmod a2 (l0.length : Int))).f1, mx 0 (wrap64 (((rd_T38 y370 (Int.tmod a2 (l0.length : Int))).f2) - a3)), (rd_T38 y370 (Int.tmod a2 (l0.length : Int))).f3, (rd_T38 y370 (Int.tmod a2 (l0.length : Int))).f4⟩ : S38) : List (S38))).bind fun y374 => ((some (y374.set ((Int.tmod a2 (l0.length : Int)) : Int).toNat (⟨(rd_T38 y374 (Int.tmod a2 (l0.length : Int))).f0, (rd_T38 y374 (Int.tmod a2 (l0.length : Int))).f1, (rd_T38 y374 (Int.tmod a2 (l0.length : Int))).f2, mn 1000 (wrap64 (((rd_T38 y374 (Int.tmod a2 (l0.length : Int))).f3) + a4)), (rd_T38 y374 (Int.tmod a2 (l0.length : Int))).f4⟩ : S38) : List (S38))).bind fun y376 => ((some (y376.set ((Int.tmod a2 (l0.length : Int)) : Int).toNat (⟨mx 0 (wrap64 (((rd_T38 y376 (Int.tmod a2 (l0.length : Int))).f0) - (Int.tmod a5 30))), (rd_T38 y376 (Int.tmod a2 (l0.length : Int))).f1, (rd_T38 y376 (Int.tmod a2 (l0.length : Int))).f2, (rd_T38 y376 (Int.tmod a2 (l0.length : Int))).f3, (rd_T38 y376 (Int.tmod a2 (l0.length : Int))).f4⟩ : S38) : List (S38))).bind fun y378 => (chargeparklaw27_PlanFewer.l0 kj15 l1 a6 t345 t348 t349 (y357 ++ y360) (y378.set ((Int.tmod a2 (l0.length : Int)) : Int).toNat (⟨(rd_T38 y378 (Int.tmod a2 (l0.length : Int))).f0, mn (l1.length : Int) (wrap64 (((rd_T38 y378 (Int.tmod a2 (l0.length : Int))).f1) + (Int.tmod a5 7))), (rd_T38 y378 (Int.tmod a2 (l0.length : Int))).f2, (rd_T38 y378 (Int.tmod a2 (l0.length : Int))).f3, (rd_T38 y378 (Int.tmod a2 (l0.length : Int))).f4⟩ : S38)) ([] : List Int) 0)))) else (none))) else (none))) else (none))) else (none)) else (none))) else (none))) else (none)) else (none))) else (none)) else (none))) = some r := H
            have A26 := Aside0.mk A260
            clear A260
            by_cases c27 : (l0.length : Int) = 0
            · rw [if_pos c27] at H
              exact absurd H (by simp)
            · rw [if_neg c27] at H
              have c27b0 : ((l0.length : Int) == 0) = false := beq_eq_false_iff_ne.mpr c27
              have c27b1 : ((l0.length : Int) != 0) = true := bne_iff_ne.mpr c27
              have c27b2 : ¬ (l0 = []) := fun h_ => c27 (by rw [h_]; rfl)
              by_cases c28 : 0 ≤ (l0.length : Int)
              · rw [if_pos c28] at H
                have c28b0 := eq_true c28
                have c28b1 : decide (0 ≤ (l0.length : Int)) = true := decide_eq_true c28
                clear c28
                by_cases c29 : ((l0.length : Int) : Int).toNat ≤ 7036874417766
                · rw [if_pos c29] at H
                  have c29b0 := eq_true c29
                  have c29b1 : decide (((l0.length : Int) : Int).toNat ≤ 7036874417766) = true := decide_eq_true c29
                  clear c29
                  obtain ⟨y350, hy350⟩ : ∃ y_ : List (S38), y_ = ([]) := ⟨_, rfl⟩
                  replace H : (if 0 ≤ (Int.tmod a2 (l0.length : Int)) then (if (Int.tmod a2 (l0.length : Int)) ≤ (l0.length : Int) then ((some (l0.take ((Int.tmod a2 (l0.length : Int)) : Int).toNat : List (S38))).bind fun y353 => (if y350.length + y353.length < 3518437208883 then ((some (y350 ++ y353 : List (S38))).bind fun y357 => (if 0 ≤ (wrap64 ((Int.tmod a2 (l0.length : Int)) + 1)) then (if (wrap64 ((Int.tmod a2 (l0.length : Int)) + 1)) ≤ (l0.length : Int) then ((some (l0.drop ((wrap64 ((Int.tmod a2 (l0.length : Int)) + 1)) : Int).toNat : List (S38))).bind fun y360 => (if y357.length + y360.length < 3518437208883 then ((some ([] : List (S38))).bind fun y367 => (if y367.length + l0.length < 3518437208883 then ((some (y367 ++ l0 : List (S38))).bind fun y370 => (if (Int.tmod a2 (l0.length : Int)) < (y370.length : Int) then ((some (y370.set ((Int.tmod a2 (l0.length : Int)) : Int).toNat (⟨(rd_T38 y370 (Int.tmod a2 (l0.length : Int))).f0, (rd_T38 y370 (Int.tmod a2 (l0.length : Int))).f1, mx 0 (wrap64 (((rd_T38 y370 (Int.tmod a2 (l0.length : Int))).f2) - a3)), (rd_T38 y370 (Int.tmod a2 (l0.length : Int))).f3, (rd_T38 y370 (Int.tmod a2 (l0.length : Int))).f4⟩ : S38) : List (S38))).bind fun y374 => ((some (y374.set ((Int.tmod a2 (l0.length : Int)) : Int).toNat (⟨(rd_T38 y374 (Int.tmod a2 (l0.length : Int))).f0, (rd_T38 y374 (Int.tmod a2 (l0.length : Int))).f1, (rd_T38 y374 (Int.tmod a2 (l0.length : Int))).f2, mn 1000 (wrap64 (((rd_T38 y374 (Int.tmod a2 (l0.length : Int))).f3) + a4)), (rd_T38 y374 (Int.tmod a2 (l0.length : Int))).f4⟩ : S38) : List (S38))).bind fun y376 => ((some (y376.set ((Int.tmod a2 (l0.length : Int)) : Int).toNat (⟨mx 0 (wrap64 (((rd_T38 y376 (Int.tmod a2 (l0.length : Int))).f0) - (Int.tmod a5 30))), (rd_T38 y376 (Int.tmod a2 (l0.length : Int))).f1, (rd_T38 y376 (Int.tmod a2 (l0.length : Int))).f2, (rd_T38 y376 (Int.tmod a2 (l0.length : Int))).f3, (rd_T38 y376 (Int.tmod a2 (l0.length : Int))).f4⟩ : S38) : List (S38))).bind fun y378 => (chargeparklaw27_PlanFewer.l0 kj15 l1 a6 t345 t348 t349 (y357 ++ y360) (y378.set ((Int.tmod a2 (l0.length : Int)) : Int).toNat (⟨(rd_T38 y378 (Int.tmod a2 (l0.length : Int))).f0, mn (l1.length : Int) (wrap64 (((rd_T38 y378 (Int.tmod a2 (l0.length : Int))).f1) + (Int.tmod a5 7))), (rd_T38 y378 (Int.tmod a2 (l0.length : Int))).f2, (rd_T38 y378 (Int.tmod a2 (l0.length : Int))).f3, (rd_T38 y378 (Int.tmod a2 (l0.length : Int))).f4⟩ : S38)) ([] : List Int) 0)))) else (none))) else (none))) else (none))) else (none)) else (none))) else (none))) else (none)) else (none)) = some r := by first | (rw [hy350]; with_reducible exact H) | (have H2_ := (Option.bind_some _ _).symm.trans H; rw [hy350]; with_reducible exact H2_) | (have H2_ := (Option.bind_some _ _).symm.trans H; with_reducible exact H2_) | with_reducible exact H | (rw [hy350]; exact H) | exact H
                  have Ny350 := Aside0.mk hy350
                  clear hy350
                  obtain ⟨ji30, hji30⟩ : ∃ j_ : Int, (Int.tmod a2 (l0.length : Int)) = j_ := ⟨_, rfl⟩
                  replace H : (if 0 ≤ (ji30) then (if (ji30) ≤ (l0.length : Int) then ((some (l0.take ((ji30) : Int).toNat : List (S38))).bind fun y353 => (if y350.length + y353.length < 3518437208883 then ((some (y350 ++ y353 : List (S38))).bind fun y357 => (if 0 ≤ (wrap64 ((ji30) + 1)) then (if (wrap64 ((ji30) + 1)) ≤ (l0.length : Int) then ((some (l0.drop ((wrap64 ((ji30) + 1)) : Int).toNat : List (S38))).bind fun y360 => (if y357.length + y360.length < 3518437208883 then ((some ([] : List (S38))).bind fun y367 => (if y367.length + l0.length < 3518437208883 then ((some (y367 ++ l0 : List (S38))).bind fun y370 => (if (ji30) < (y370.length : Int) then ((some (y370.set ((ji30) : Int).toNat (⟨(rd_T38 y370 (ji30)).f0, (rd_T38 y370 (ji30)).f1, mx 0 (wrap64 (((rd_T38 y370 (ji30)).f2) - a3)), (rd_T38 y370 (ji30)).f3, (rd_T38 y370 (ji30)).f4⟩ : S38) : List (S38))).bind fun y374 => ((some (y374.set ((ji30) : Int).toNat (⟨(rd_T38 y374 (ji30)).f0, (rd_T38 y374 (ji30)).f1, (rd_T38 y374 (ji30)).f2, mn 1000 (wrap64 (((rd_T38 y374 (ji30)).f3) + a4)), (rd_T38 y374 (ji30)).f4⟩ : S38) : List (S38))).bind fun y376 => ((some (y376.set ((ji30) : Int).toNat (⟨mx 0 (wrap64 (((rd_T38 y376 (ji30)).f0) - (Int.tmod a5 30))), (rd_T38 y376 (ji30)).f1, (rd_T38 y376 (ji30)).f2, (rd_T38 y376 (ji30)).f3, (rd_T38 y376 (ji30)).f4⟩ : S38) : List (S38))).bind fun y378 => (chargeparklaw27_PlanFewer.l0 kj15 l1 a6 t345 t348 t349 (y357 ++ y360) (y378.set ((ji30) : Int).toNat (⟨(rd_T38 y378 (ji30)).f0, mn (l1.length : Int) (wrap64 (((rd_T38 y378 (ji30)).f1) + (Int.tmod a5 7))), (rd_T38 y378 (ji30)).f2, (rd_T38 y378 (ji30)).f3, (rd_T38 y378 (ji30)).f4⟩ : S38)) ([] : List Int) 0)))) else (none))) else (none))) else (none))) else (none)) else (none))) else (none))) else (none)) else (none)) = some r := by first | (rw [hji30] at H; exact H) | (simp only [hji30] at H ⊢; exact H)
                  (try rw [hji30] at A26)
                  by_cases c31 : 0 ≤ (ji30)
                  · rw [if_pos c31] at H
                    have c31b0 := eq_true c31
                    have c31b1 : decide (0 ≤ (ji30)) = true := decide_eq_true c31
                    clear c31
                    by_cases c32 : (ji30) ≤ (l0.length : Int)
                    · rw [if_pos c32] at H
                      have c32b0 := eq_true c32
                      have c32b1 : decide ((ji30) ≤ (l0.length : Int)) = true := decide_eq_true c32
                      clear c32
                      obtain ⟨y353, hy353⟩ : ∃ y_ : List (S38), y_ = (l0.take ((ji30) : Int).toNat) := ⟨_, rfl⟩
                      replace H : (if y350.length + y353.length < 3518437208883 then ((some (y350 ++ y353 : List (S38))).bind fun y357 => (if 0 ≤ (wrap64 ((ji30) + 1)) then (if (wrap64 ((ji30) + 1)) ≤ (l0.length : Int) then ((some (l0.drop ((wrap64 ((ji30) + 1)) : Int).toNat : List (S38))).bind fun y360 => (if y357.length + y360.length < 3518437208883 then ((some ([] : List (S38))).bind fun y367 => (if y367.length + l0.length < 3518437208883 then ((some (y367 ++ l0 : List (S38))).bind fun y370 => (if (ji30) < (y370.length : Int) then ((some (y370.set ((ji30) : Int).toNat (⟨(rd_T38 y370 (ji30)).f0, (rd_T38 y370 (ji30)).f1, mx 0 (wrap64 (((rd_T38 y370 (ji30)).f2) - a3)), (rd_T38 y370 (ji30)).f3, (rd_T38 y370 (ji30)).f4⟩ : S38) : List (S38))).bind fun y374 => ((some (y374.set ((ji30) : Int).toNat (⟨(rd_T38 y374 (ji30)).f0, (rd_T38 y374 (ji30)).f1, (rd_T38 y374 (ji30)).f2, mn 1000 (wrap64 (((rd_T38 y374 (ji30)).f3) + a4)), (rd_T38 y374 (ji30)).f4⟩ : S38) : List (S38))).bind fun y376 => ((some (y376.set ((ji30) : Int).toNat (⟨mx 0 (wrap64 (((rd_T38 y376 (ji30)).f0) - (Int.tmod a5 30))), (rd_T38 y376 (ji30)).f1, (rd_T38 y376 (ji30)).f2, (rd_T38 y376 (ji30)).f3, (rd_T38 y376 (ji30)).f4⟩ : S38) : List (S38))).bind fun y378 => (chargeparklaw27_PlanFewer.l0 kj15 l1 a6 t345 t348 t349 (y357 ++ y360) (y378.set ((ji30) : Int).toNat (⟨(rd_T38 y378 (ji30)).f0, mn (l1.length : Int) (wrap64 (((rd_T38 y378 (ji30)).f1) + (Int.tmod a5 7))), (rd_T38 y378 (ji30)).f2, (rd_T38 y378 (ji30)).f3, (rd_T38 y378 (ji30)).f4⟩ : S38)) ([] : List Int) 0)))) else (none))) else (none))) else (none))) else (none)) else (none))) else (none)) = some r := by first | (rw [hy353]; with_reducible exact H) | (have H2_ := (Option.bind_some _ _).symm.trans H; rw [hy353]; with_reducible exact H2_) | (have H2_ := (Option.bind_some _ _).symm.trans H; with_reducible exact H2_) | with_reducible exact H | (rw [hy353]; exact H) | exact H
                      have Ny353 := Aside0.mk hy353
                      clear hy353
                      by_cases c33 : y350.length + y353.length < 3518437208883
                      · rw [if_pos c33] at H
                        have LMc33 := Aside0.mk c33
                        clear c33
                        obtain ⟨y357, hy357⟩ : ∃ y_ : List (S38), y_ = (y350 ++ y353) := ⟨_, rfl⟩
                        replace H : (if 0 ≤ (wrap64 ((ji30) + 1)) then (if (wrap64 ((ji30) + 1)) ≤ (l0.length : Int) then ((some (l0.drop ((wrap64 ((ji30) + 1)) : Int).toNat : List (S38))).bind fun y360 => (if y357.length + y360.length < 3518437208883 then ((some ([] : List (S38))).bind fun y367 => (if y367.length + l0.length < 3518437208883 then ((some (y367 ++ l0 : List (S38))).bind fun y370 => (if (ji30) < (y370.length : Int) then ((some (y370.set ((ji30) : Int).toNat (⟨(rd_T38 y370 (ji30)).f0, (rd_T38 y370 (ji30)).f1, mx 0 (wrap64 (((rd_T38 y370 (ji30)).f2) - a3)), (rd_T38 y370 (ji30)).f3, (rd_T38 y370 (ji30)).f4⟩ : S38) : List (S38))).bind fun y374 => ((some (y374.set ((ji30) : Int).toNat (⟨(rd_T38 y374 (ji30)).f0, (rd_T38 y374 (ji30)).f1, (rd_T38 y374 (ji30)).f2, mn 1000 (wrap64 (((rd_T38 y374 (ji30)).f3) + a4)), (rd_T38 y374 (ji30)).f4⟩ : S38) : List (S38))).bind fun y376 => ((some (y376.set ((ji30) : Int).toNat (⟨mx 0 (wrap64 (((rd_T38 y376 (ji30)).f0) - (Int.tmod a5 30))), (rd_T38 y376 (ji30)).f1, (rd_T38 y376 (ji30)).f2, (rd_T38 y376 (ji30)).f3, (rd_T38 y376 (ji30)).f4⟩ : S38) : List (S38))).bind fun y378 => (chargeparklaw27_PlanFewer.l0 kj15 l1 a6 t345 t348 t349 (y357 ++ y360) (y378.set ((ji30) : Int).toNat (⟨(rd_T38 y378 (ji30)).f0, mn (l1.length : Int) (wrap64 (((rd_T38 y378 (ji30)).f1) + (Int.tmod a5 7))), (rd_T38 y378 (ji30)).f2, (rd_T38 y378 (ji30)).f3, (rd_T38 y378 (ji30)).f4⟩ : S38)) ([] : List Int) 0)))) else (none))) else (none))) else (none))) else (none)) else (none)) = some r := by first | (rw [hy357]; with_reducible exact H) | (have H2_ := (Option.bind_some _ _).symm.trans H; rw [hy357]; with_reducible exact H2_) | (have H2_ := (Option.bind_some _ _).symm.trans H; with_reducible exact H2_) | with_reducible exact H | (rw [hy357]; exact H) | exact H
                        have Ny357 := Aside0.mk hy357
                        clear hy357
                        obtain ⟨ji34, hji34⟩ : ∃ j_ : Int, (wrap64 ((ji30) + 1)) = j_ := ⟨_, rfl⟩
                        replace H : (if 0 ≤ (ji34) then (if (ji34) ≤ (l0.length : Int) then ((some (l0.drop ((ji34) : Int).toNat : List (S38))).bind fun y360 => (if y357.length + y360.length < 3518437208883 then ((some ([] : List (S38))).bind fun y367 => (if y367.length + l0.length < 3518437208883 then ((some (y367 ++ l0 : List (S38))).bind fun y370 => (if (ji30) < (y370.length : Int) then ((some (y370.set ((ji30) : Int).toNat (⟨(rd_T38 y370 (ji30)).f0, (rd_T38 y370 (ji30)).f1, mx 0 (wrap64 (((rd_T38 y370 (ji30)).f2) - a3)), (rd_T38 y370 (ji30)).f3, (rd_T38 y370 (ji30)).f4⟩ : S38) : List (S38))).bind fun y374 => ((some (y374.set ((ji30) : Int).toNat (⟨(rd_T38 y374 (ji30)).f0, (rd_T38 y374 (ji30)).f1, (rd_T38 y374 (ji30)).f2, mn 1000 (wrap64 (((rd_T38 y374 (ji30)).f3) + a4)), (rd_T38 y374 (ji30)).f4⟩ : S38) : List (S38))).bind fun y376 => ((some (y376.set ((ji30) : Int).toNat (⟨mx 0 (wrap64 (((rd_T38 y376 (ji30)).f0) - (Int.tmod a5 30))), (rd_T38 y376 (ji30)).f1, (rd_T38 y376 (ji30)).f2, (rd_T38 y376 (ji30)).f3, (rd_T38 y376 (ji30)).f4⟩ : S38) : List (S38))).bind fun y378 => (chargeparklaw27_PlanFewer.l0 kj15 l1 a6 t345 t348 t349 (y357 ++ y360) (y378.set ((ji30) : Int).toNat (⟨(rd_T38 y378 (ji30)).f0, mn (l1.length : Int) (wrap64 (((rd_T38 y378 (ji30)).f1) + (Int.tmod a5 7))), (rd_T38 y378 (ji30)).f2, (rd_T38 y378 (ji30)).f3, (rd_T38 y378 (ji30)).f4⟩ : S38)) ([] : List Int) 0)))) else (none))) else (none))) else (none))) else (none)) else (none)) = some r := by first | (rw [hji34] at H; exact H) | (simp only [hji34] at H ⊢; exact H)
                        (try rw [hji34] at A26)
                        have hji34w : (IntKind.i64.wrap ((ji30) + 1)) = ji34 := (i64_w _).trans hji34
                        by_cases c35 : 0 ≤ (ji34)
                        · rw [if_pos c35] at H
                          have c35b0 := eq_true c35
                          have c35b1 : decide (0 ≤ (ji34)) = true := decide_eq_true c35
                          clear c35
                          by_cases c36 : (ji34) ≤ (l0.length : Int)
                          · rw [if_pos c36] at H
                            have c36b0 := eq_true c36
                            have c36b1 : decide ((ji34) ≤ (l0.length : Int)) = true := decide_eq_true c36
                            clear c36
                            obtain ⟨y360, hy360⟩ : ∃ y_ : List (S38), y_ = (l0.drop ((ji34) : Int).toNat) := ⟨_, rfl⟩
                            replace H : (if y357.length + y360.length < 3518437208883 then ((some ([] : List (S38))).bind fun y367 => (if y367.length + l0.length < 3518437208883 then ((some (y367 ++ l0 : List (S38))).bind fun y370 => (if (ji30) < (y370.length : Int) then ((some (y370.set ((ji30) : Int).toNat (⟨(rd_T38 y370 (ji30)).f0, (rd_T38 y370 (ji30)).f1, mx 0 (wrap64 (((rd_T38 y370 (ji30)).f2) - a3)), (rd_T38 y370 (ji30)).f3, (rd_T38 y370 (ji30)).f4⟩ : S38) : List (S38))).bind fun y374 => ((some (y374.set ((ji30) : Int).toNat (⟨(rd_T38 y374 (ji30)).f0, (rd_T38 y374 (ji30)).f1, (rd_T38 y374 (ji30)).f2, mn 1000 (wrap64 (((rd_T38 y374 (ji30)).f3) + a4)), (rd_T38 y374 (ji30)).f4⟩ : S38) : List (S38))).bind fun y376 => ((some (y376.set ((ji30) : Int).toNat (⟨mx 0 (wrap64 (((rd_T38 y376 (ji30)).f0) - (Int.tmod a5 30))), (rd_T38 y376 (ji30)).f1, (rd_T38 y376 (ji30)).f2, (rd_T38 y376 (ji30)).f3, (rd_T38 y376 (ji30)).f4⟩ : S38) : List (S38))).bind fun y378 => (chargeparklaw27_PlanFewer.l0 kj15 l1 a6 t345 t348 t349 (y357 ++ y360) (y378.set ((ji30) : Int).toNat (⟨(rd_T38 y378 (ji30)).f0, mn (l1.length : Int) (wrap64 (((rd_T38 y378 (ji30)).f1) + (Int.tmod a5 7))), (rd_T38 y378 (ji30)).f2, (rd_T38 y378 (ji30)).f3, (rd_T38 y378 (ji30)).f4⟩ : S38)) ([] : List Int) 0)))) else (none))) else (none))) else (none)) = some r := by first | (rw [hy360]; with_reducible exact H) | (have H2_ := (Option.bind_some _ _).symm.trans H; rw [hy360]; with_reducible exact H2_) | (have H2_ := (Option.bind_some _ _).symm.trans H; with_reducible exact H2_) | with_reducible exact H | (rw [hy360]; exact H) | exact H
                            have Ny360 := Aside0.mk hy360
                            clear hy360
                            by_cases c37 : y357.length + y360.length < 3518437208883
                            · rw [if_pos c37] at H
                              have LMc37 := Aside0.mk c37
                              clear c37
                              obtain ⟨y364, hy364⟩ : ∃ y_ : List (S38), y_ = (y357 ++ y360) := ⟨_, rfl⟩
                              replace H : ((some ([] : List (S38))).bind fun y367 => (if y367.length + l0.length < 3518437208883 then ((some (y367 ++ l0 : List (S38))).bind fun y370 => (if (ji30) < (y370.length : Int) then ((some (y370.set ((ji30) : Int).toNat (⟨(rd_T38 y370 (ji30)).f0, (rd_T38 y370 (ji30)).f1, mx 0 (wrap64 (((rd_T38 y370 (ji30)).f2) - a3)), (rd_T38 y370 (ji30)).f3, (rd_T38 y370 (ji30)).f4⟩ : S38) : List (S38))).bind fun y374 => ((some (y374.set ((ji30) : Int).toNat (⟨(rd_T38 y374 (ji30)).f0, (rd_T38 y374 (ji30)).f1, (rd_T38 y374 (ji30)).f2, mn 1000 (wrap64 (((rd_T38 y374 (ji30)).f3) + a4)), (rd_T38 y374 (ji30)).f4⟩ : S38) : List (S38))).bind fun y376 => ((some (y376.set ((ji30) : Int).toNat (⟨mx 0 (wrap64 (((rd_T38 y376 (ji30)).f0) - (Int.tmod a5 30))), (rd_T38 y376 (ji30)).f1, (rd_T38 y376 (ji30)).f2, (rd_T38 y376 (ji30)).f3, (rd_T38 y376 (ji30)).f4⟩ : S38) : List (S38))).bind fun y378 => (chargeparklaw27_PlanFewer.l0 kj15 l1 a6 t345 t348 t349 y364 (y378.set ((ji30) : Int).toNat (⟨(rd_T38 y378 (ji30)).f0, mn (l1.length : Int) (wrap64 (((rd_T38 y378 (ji30)).f1) + (Int.tmod a5 7))), (rd_T38 y378 (ji30)).f2, (rd_T38 y378 (ji30)).f3, (rd_T38 y378 (ji30)).f4⟩ : S38)) ([] : List Int) 0)))) else (none))) else (none))) = some r := by first | (rw [hy364]; with_reducible exact H) | (have H2_ := (Option.bind_some _ _).symm.trans H; rw [hy364]; with_reducible exact H2_) | (have H2_ := (Option.bind_some _ _).symm.trans H; with_reducible exact H2_) | with_reducible exact H | (rw [hy364]; exact H) | exact H
                              have Ny364 := Aside0.mk hy364
                              clear hy364
                              obtain ⟨y367, hy367⟩ : ∃ y_ : List (S38), y_ = ([]) := ⟨_, rfl⟩
                              replace H : (if y367.length + l0.length < 3518437208883 then ((some (y367 ++ l0 : List (S38))).bind fun y370 => (if (ji30) < (y370.length : Int) then ((some (y370.set ((ji30) : Int).toNat (⟨(rd_T38 y370 (ji30)).f0, (rd_T38 y370 (ji30)).f1, mx 0 (wrap64 (((rd_T38 y370 (ji30)).f2) - a3)), (rd_T38 y370 (ji30)).f3, (rd_T38 y370 (ji30)).f4⟩ : S38) : List (S38))).bind fun y374 => ((some (y374.set ((ji30) : Int).toNat (⟨(rd_T38 y374 (ji30)).f0, (rd_T38 y374 (ji30)).f1, (rd_T38 y374 (ji30)).f2, mn 1000 (wrap64 (((rd_T38 y374 (ji30)).f3) + a4)), (rd_T38 y374 (ji30)).f4⟩ : S38) : List (S38))).bind fun y376 => ((some (y376.set ((ji30) : Int).toNat (⟨mx 0 (wrap64 (((rd_T38 y376 (ji30)).f0) - (Int.tmod a5 30))), (rd_T38 y376 (ji30)).f1, (rd_T38 y376 (ji30)).f2, (rd_T38 y376 (ji30)).f3, (rd_T38 y376 (ji30)).f4⟩ : S38) : List (S38))).bind fun y378 => (chargeparklaw27_PlanFewer.l0 kj15 l1 a6 t345 t348 t349 y364 (y378.set ((ji30) : Int).toNat (⟨(rd_T38 y378 (ji30)).f0, mn (l1.length : Int) (wrap64 (((rd_T38 y378 (ji30)).f1) + (Int.tmod a5 7))), (rd_T38 y378 (ji30)).f2, (rd_T38 y378 (ji30)).f3, (rd_T38 y378 (ji30)).f4⟩ : S38)) ([] : List Int) 0)))) else (none))) else (none)) = some r := by first | (rw [hy367]; with_reducible exact H) | (have H2_ := (Option.bind_some _ _).symm.trans H; rw [hy367]; with_reducible exact H2_) | (have H2_ := (Option.bind_some _ _).symm.trans H; with_reducible exact H2_) | with_reducible exact H | (rw [hy367]; exact H) | exact H
                              have Ny367 := Aside0.mk hy367
                              clear hy367
                              by_cases c38 : y367.length + l0.length < 3518437208883
                              · rw [if_pos c38] at H
                                have LMc38 := Aside0.mk c38
                                clear c38
                                obtain ⟨y370, hy370⟩ : ∃ y_ : List (S38), y_ = (y367 ++ l0) := ⟨_, rfl⟩
                                replace H : (if (ji30) < (y370.length : Int) then ((some (y370.set ((ji30) : Int).toNat (⟨(rd_T38 y370 (ji30)).f0, (rd_T38 y370 (ji30)).f1, mx 0 (wrap64 (((rd_T38 y370 (ji30)).f2) - a3)), (rd_T38 y370 (ji30)).f3, (rd_T38 y370 (ji30)).f4⟩ : S38) : List (S38))).bind fun y374 => ((some (y374.set ((ji30) : Int).toNat (⟨(rd_T38 y374 (ji30)).f0, (rd_T38 y374 (ji30)).f1, (rd_T38 y374 (ji30)).f2, mn 1000 (wrap64 (((rd_T38 y374 (ji30)).f3) + a4)), (rd_T38 y374 (ji30)).f4⟩ : S38) : List (S38))).bind fun y376 => ((some (y376.set ((ji30) : Int).toNat (⟨mx 0 (wrap64 (((rd_T38 y376 (ji30)).f0) - (Int.tmod a5 30))), (rd_T38 y376 (ji30)).f1, (rd_T38 y376 (ji30)).f2, (rd_T38 y376 (ji30)).f3, (rd_T38 y376 (ji30)).f4⟩ : S38) : List (S38))).bind fun y378 => (chargeparklaw27_PlanFewer.l0 kj15 l1 a6 t345 t348 t349 y364 (y378.set ((ji30) : Int).toNat (⟨(rd_T38 y378 (ji30)).f0, mn (l1.length : Int) (wrap64 (((rd_T38 y378 (ji30)).f1) + (Int.tmod a5 7))), (rd_T38 y378 (ji30)).f2, (rd_T38 y378 (ji30)).f3, (rd_T38 y378 (ji30)).f4⟩ : S38)) ([] : List Int) 0)))) else (none)) = some r := by first | (rw [hy370]; with_reducible exact H) | (have H2_ := (Option.bind_some _ _).symm.trans H; rw [hy370]; with_reducible exact H2_) | (have H2_ := (Option.bind_some _ _).symm.trans H; with_reducible exact H2_) | with_reducible exact H | (rw [hy370]; exact H) | exact H
                                have Ny370 := Aside0.mk hy370
                                clear hy370
                                by_cases c39 : (ji30) < (y370.length : Int)
                                · rw [if_pos c39] at H
                                  have c39b0 : decide ((ji30) < (y370.length : Int)) = true := decide_eq_true c39
                                  clear c39
                                  obtain ⟨ji40, hji40⟩ : ∃ j_ : Int, (mx 0 (wrap64 (((rd_T38 y370 (ji30)).f2) - a3))) = j_ := ⟨_, rfl⟩
                                  replace H : ((some (y370.set ((ji30) : Int).toNat (⟨(rd_T38 y370 (ji30)).f0, (rd_T38 y370 (ji30)).f1, ji40, (rd_T38 y370 (ji30)).f3, (rd_T38 y370 (ji30)).f4⟩ : S38) : List (S38))).bind fun y374 => ((some (y374.set ((ji30) : Int).toNat (⟨(rd_T38 y374 (ji30)).f0, (rd_T38 y374 (ji30)).f1, (rd_T38 y374 (ji30)).f2, mn 1000 (wrap64 (((rd_T38 y374 (ji30)).f3) + a4)), (rd_T38 y374 (ji30)).f4⟩ : S38) : List (S38))).bind fun y376 => ((some (y376.set ((ji30) : Int).toNat (⟨mx 0 (wrap64 (((rd_T38 y376 (ji30)).f0) - (Int.tmod a5 30))), (rd_T38 y376 (ji30)).f1, (rd_T38 y376 (ji30)).f2, (rd_T38 y376 (ji30)).f3, (rd_T38 y376 (ji30)).f4⟩ : S38) : List (S38))).bind fun y378 => (chargeparklaw27_PlanFewer.l0 kj15 l1 a6 t345 t348 t349 y364 (y378.set ((ji30) : Int).toNat (⟨(rd_T38 y378 (ji30)).f0, mn (l1.length : Int) (wrap64 (((rd_T38 y378 (ji30)).f1) + (Int.tmod a5 7))), (rd_T38 y378 (ji30)).f2, (rd_T38 y378 (ji30)).f3, (rd_T38 y378 (ji30)).f4⟩ : S38)) ([] : List Int) 0)))) = some r := by first | (rw [hji40] at H; exact H) | (simp only [hji40] at H ⊢; exact H)
                                  (try rw [hji40] at A26)
                                  have hji40_ : (if 0 < (wrap64 (((rd_T38 y370 (ji30)).f2) - a3)) then (wrap64 (((rd_T38 y370 (ji30)).f2) - a3)) else 0) = ji40 := hji40
                                  obtain ⟨y374, hy374⟩ : ∃ y_ : List (S38), y_ = (y370.set ((ji30) : Int).toNat (⟨(rd_T38 y370 (ji30)).f0, (rd_T38 y370 (ji30)).f1, ji40, (rd_T38 y370 (ji30)).f3, (rd_T38 y370 (ji30)).f4⟩ : S38)) := ⟨_, rfl⟩
                                  replace H : ((some (y374.set ((ji30) : Int).toNat (⟨(rd_T38 y374 (ji30)).f0, (rd_T38 y374 (ji30)).f1, (rd_T38 y374 (ji30)).f2, mn 1000 (wrap64 (((rd_T38 y374 (ji30)).f3) + a4)), (rd_T38 y374 (ji30)).f4⟩ : S38) : List (S38))).bind fun y376 => ((some (y376.set ((ji30) : Int).toNat (⟨mx 0 (wrap64 (((rd_T38 y376 (ji30)).f0) - (Int.tmod a5 30))), (rd_T38 y376 (ji30)).f1, (rd_T38 y376 (ji30)).f2, (rd_T38 y376 (ji30)).f3, (rd_T38 y376 (ji30)).f4⟩ : S38) : List (S38))).bind fun y378 => (chargeparklaw27_PlanFewer.l0 kj15 l1 a6 t345 t348 t349 y364 (y378.set ((ji30) : Int).toNat (⟨(rd_T38 y378 (ji30)).f0, mn (l1.length : Int) (wrap64 (((rd_T38 y378 (ji30)).f1) + (Int.tmod a5 7))), (rd_T38 y378 (ji30)).f2, (rd_T38 y378 (ji30)).f3, (rd_T38 y378 (ji30)).f4⟩ : S38)) ([] : List Int) 0))) = some r := by first | (rw [hy374]; with_reducible exact H) | (have H2_ := (Option.bind_some _ _).symm.trans H; rw [hy374]; with_reducible exact H2_) | (have H2_ := (Option.bind_some _ _).symm.trans H; with_reducible exact H2_) | with_reducible exact H | (rw [hy374]; exact H) | exact H
                                  have Ny374 := Aside0.mk hy374
                                  clear hy374
                                  obtain ⟨ji42, hji42⟩ : ∃ j_ : Int, (mn 1000 (wrap64 (((rd_T38 y374 (ji30)).f3) + a4))) = j_ := ⟨_, rfl⟩
                                  replace H : ((some (y374.set ((ji30) : Int).toNat (⟨(rd_T38 y374 (ji30)).f0, (rd_T38 y374 (ji30)).f1, (rd_T38 y374 (ji30)).f2, ji42, (rd_T38 y374 (ji30)).f4⟩ : S38) : List (S38))).bind fun y376 => ((some (y376.set ((ji30) : Int).toNat (⟨mx 0 (wrap64 (((rd_T38 y376 (ji30)).f0) - (Int.tmod a5 30))), (rd_T38 y376 (ji30)).f1, (rd_T38 y376 (ji30)).f2, (rd_T38 y376 (ji30)).f3, (rd_T38 y376 (ji30)).f4⟩ : S38) : List (S38))).bind fun y378 => (chargeparklaw27_PlanFewer.l0 kj15 l1 a6 t345 t348 t349 y364 (y378.set ((ji30) : Int).toNat (⟨(rd_T38 y378 (ji30)).f0, mn (l1.length : Int) (wrap64 (((rd_T38 y378 (ji30)).f1) + (Int.tmod a5 7))), (rd_T38 y378 (ji30)).f2, (rd_T38 y378 (ji30)).f3, (rd_T38 y378 (ji30)).f4⟩ : S38)) ([] : List Int) 0))) = some r := by first | (rw [hji42] at H; exact H) | (simp only [hji42] at H ⊢; exact H)
                                  (try rw [hji42] at A26)
                                  have hji42_ : (if (wrap64 (((rd_T38 y374 (ji30)).f3) + a4)) < 1000 then (wrap64 (((rd_T38 y374 (ji30)).f3) + a4)) else 1000) = ji42 := hji42
                                  obtain ⟨y376, hy376⟩ : ∃ y_ : List (S38), y_ = (y374.set ((ji30) : Int).toNat (⟨(rd_T38 y374 (ji30)).f0, (rd_T38 y374 (ji30)).f1, (rd_T38 y374 (ji30)).f2, ji42, (rd_T38 y374 (ji30)).f4⟩ : S38)) := ⟨_, rfl⟩
                                  replace H : ((some (y376.set ((ji30) : Int).toNat (⟨mx 0 (wrap64 (((rd_T38 y376 (ji30)).f0) - (Int.tmod a5 30))), (rd_T38 y376 (ji30)).f1, (rd_T38 y376 (ji30)).f2, (rd_T38 y376 (ji30)).f3, (rd_T38 y376 (ji30)).f4⟩ : S38) : List (S38))).bind fun y378 => (chargeparklaw27_PlanFewer.l0 kj15 l1 a6 t345 t348 t349 y364 (y378.set ((ji30) : Int).toNat (⟨(rd_T38 y378 (ji30)).f0, mn (l1.length : Int) (wrap64 (((rd_T38 y378 (ji30)).f1) + (Int.tmod a5 7))), (rd_T38 y378 (ji30)).f2, (rd_T38 y378 (ji30)).f3, (rd_T38 y378 (ji30)).f4⟩ : S38)) ([] : List Int) 0)) = some r := by first | (rw [hy376]; with_reducible exact H) | (have H2_ := (Option.bind_some _ _).symm.trans H; rw [hy376]; with_reducible exact H2_) | (have H2_ := (Option.bind_some _ _).symm.trans H; with_reducible exact H2_) | with_reducible exact H | (rw [hy376]; exact H) | exact H
                                  have Ny376 := Aside0.mk hy376
                                  clear hy376
                                  obtain ⟨ji44, hji44⟩ : ∃ j_ : Int, (mx 0 (wrap64 (((rd_T38 y376 (ji30)).f0) - (Int.tmod a5 30)))) = j_ := ⟨_, rfl⟩
                                  replace H : ((some (y376.set ((ji30) : Int).toNat (⟨ji44, (rd_T38 y376 (ji30)).f1, (rd_T38 y376 (ji30)).f2, (rd_T38 y376 (ji30)).f3, (rd_T38 y376 (ji30)).f4⟩ : S38) : List (S38))).bind fun y378 => (chargeparklaw27_PlanFewer.l0 kj15 l1 a6 t345 t348 t349 y364 (y378.set ((ji30) : Int).toNat (⟨(rd_T38 y378 (ji30)).f0, mn (l1.length : Int) (wrap64 (((rd_T38 y378 (ji30)).f1) + (Int.tmod a5 7))), (rd_T38 y378 (ji30)).f2, (rd_T38 y378 (ji30)).f3, (rd_T38 y378 (ji30)).f4⟩ : S38)) ([] : List Int) 0)) = some r := by first | (rw [hji44] at H; exact H) | (simp only [hji44] at H ⊢; exact H)
                                  (try rw [hji44] at A26)
                                  have hji44_ : (if 0 < (wrap64 (((rd_T38 y376 (ji30)).f0) - (Int.tmod a5 30))) then (wrap64 (((rd_T38 y376 (ji30)).f0) - (Int.tmod a5 30))) else 0) = ji44 := hji44
                                  obtain ⟨y378, hy378⟩ : ∃ y_ : List (S38), y_ = (y376.set ((ji30) : Int).toNat (⟨ji44, (rd_T38 y376 (ji30)).f1, (rd_T38 y376 (ji30)).f2, (rd_T38 y376 (ji30)).f3, (rd_T38 y376 (ji30)).f4⟩ : S38)) := ⟨_, rfl⟩
                                  replace H : (chargeparklaw27_PlanFewer.l0 kj15 l1 a6 t345 t348 t349 y364 (y378.set ((ji30) : Int).toNat (⟨(rd_T38 y378 (ji30)).f0, mn (l1.length : Int) (wrap64 (((rd_T38 y378 (ji30)).f1) + (Int.tmod a5 7))), (rd_T38 y378 (ji30)).f2, (rd_T38 y378 (ji30)).f3, (rd_T38 y378 (ji30)).f4⟩ : S38)) ([] : List Int) 0) = some r := by first | (rw [hy378]; with_reducible exact H) | (have H2_ := (Option.bind_some _ _).symm.trans H; rw [hy378]; with_reducible exact H2_) | (have H2_ := (Option.bind_some _ _).symm.trans H; with_reducible exact H2_) | with_reducible exact H | (rw [hy378]; exact H) | exact H
                                  have Ny378 := Aside0.mk hy378
                                  clear hy378
                                  obtain ⟨ji46, hji46⟩ : ∃ j_ : Int, (mn (l1.length : Int) (wrap64 (((rd_T38 y378 (ji30)).f1) + (Int.tmod a5 7)))) = j_ := ⟨_, rfl⟩
                                  replace H : (chargeparklaw27_PlanFewer.l0 kj15 l1 a6 t345 t348 t349 y364 (y378.set ((ji30) : Int).toNat (⟨(rd_T38 y378 (ji30)).f0, ji46, (rd_T38 y378 (ji30)).f2, (rd_T38 y378 (ji30)).f3, (rd_T38 y378 (ji30)).f4⟩ : S38)) ([] : List Int) 0) = some r := by first | (rw [hji46] at H; exact H) | (simp only [hji46] at H ⊢; exact H)
                                  (try rw [hji46] at A26)
                                  have hji46_ : (if (wrap64 (((rd_T38 y378 (ji30)).f1) + (Int.tmod a5 7))) < (l1.length : Int) then (wrap64 (((rd_T38 y378 (ji30)).f1) + (Int.tmod a5 7))) else (l1.length : Int)) = ji46 := hji46
                                  obtain ⟨y380, hy380⟩ : ∃ y_ : List (S38), y_ = (y378.set ((ji30) : Int).toNat (⟨(rd_T38 y378 (ji30)).f0, ji46, (rd_T38 y378 (ji30)).f2, (rd_T38 y378 (ji30)).f3, (rd_T38 y378 (ji30)).f4⟩ : S38)) := ⟨_, rfl⟩
                                  replace H : (chargeparklaw27_PlanFewer.l0 kj15 l1 a6 t345 t348 t349 y364 y380 ([] : List Int) 0) = some r := by first | (rw [hy380]; with_reducible exact H) | (have H2_ := (Option.bind_some _ _).symm.trans H; rw [hy380]; with_reducible exact H2_) | (have H2_ := (Option.bind_some _ _).symm.trans H; with_reducible exact H2_) | with_reducible exact H | (rw [hy380]; exact H) | exact H
                                  have Ny380 := Aside0.mk hy380
                                  clear hy380
                                  have H' := Aside0.mk H
                                  clear H
                                  try go_wp2_with (first | ((with_reducible refine gate_callee (f := 20) rfl ?_); refine goesL_ (some 79) rfl rfl Try.func20 (by kernel_rfl) rfl #[.slice A0 l0.length c0, .slice A1 l1.length c1] rfl (by (try simp only [List.map_toArray, List.map_cons, List.map_nil]); first | done | rfl | (simp only [List.length_drop, List.length_take]; rfl)) ?_; (with_reducible refine (chargeparklaw27_met.calls _ _ l0 _ _ l1 t348 t349 _ ?side1 ?side2 ?side3 ?side4 A26.out).mono ?_); (case side1 => repeat (first | exact (Kd.C_below HR0.out HB.out) | (with_reducible refine Kd.C_alloc ?_ _) | (with_reducible refine Kd.C_drewN ?_ _) | (with_reducible refine Kd.C_drew ?_))); (case side2 => exact HC0.out); (case side3 => repeat (first | exact (Kd.C_below HR1.out HB.out) | (with_reducible refine Kd.C_alloc ?_ _) | (with_reducible refine Kd.C_drewN ?_ _) | (with_reducible refine Kd.C_drew ?_))); (case side4 => exact HC1.out); rintro e w48 ⟨rfl, hb⟩; refine ⟨_, rfl, ?_⟩; have n0_ := Aside0.mk (below_step (by repeat (first | (with_reducible first | exact HB.out | apply below_alloc | apply pw_below_drewN | apply below_drew1) | exact HB.out)) hb); clear HB; have HB := n0_; clear n0_; (try clear hb); (try clear hb2); (try clear hk); (try clear hi)))
                                  have n0_ := Aside0.mk (below_drew1 HB.out)
                                  clear HB
                                  have HB := n0_
                                  clear n0_
                                  have q50 : ((ji30) : Int) ≤ ((l0.length : Int) : Int) := of_decide_eq_true (by first | (with_reducible assumption) | assumption)
                                  obtain ⟨i050, hi050, _, hsz50, _⟩ := info_parts info38
                                  have hroom50 : l0.length ≤ c0 := HC0.out
                                  have hC50 : Kd.C k38 _ A0 l0.length l0 := HR0.out
                                  have hcut50 := cut_to (P := Try.prog) 22 38 .i64 Try.underlying22 hi050 A0 l0.length c0 (ji30) (of_decide_eq_true (by first | (with_reducible assumption) | assumption)) q50 hroom50
                                  have hr50 := Kd.C_take (m := ((ji30) : Int).toNat) hC50 (by omega)
                                  have hy50 : y353.length = ((ji30) : Int).toNat := (by rw [Ny353.out, List.length_take]; omega)
                                  rw [← Ny353.out] at hr50
                                  rw [← hy50] at hcut50
                                  have HR356 := Aside0.mk hr50
                                  have HC356 := Aside0.mk (show y353.length ≤ c0 from by omega)
                                  clear hr50 hC50 hroom50 hi050 hsz50
                                  have KY50 := Aside0.mk hy50
                                  clear hy50
                                  replace q50 := eq_true q50
                                  have q51 : ((ji34) : Int) ≤ ((l0.length : Int) : Int) := of_decide_eq_true (by first | (with_reducible assumption) | assumption)
                                  obtain ⟨i051, hi051, _, hsz51, _⟩ := info_parts info38
                                  have hroom51 : l0.length ≤ c0 := HC0.out
                                  have hC51 : Kd.C k38 _ A0 l0.length l0 := HR0.out
                                  have q051 : (0 : Int) ≤ ((ji34) : Int) := of_decide_eq_true (by first | (with_reducible assumption) | assumption)
                                  have hcut51 := cut_from (P := Try.prog) 22 38 .i64 Try.underlying22 hi051 5 hsz51 A0 l0.length c0 (ji34) q051 q51
                                  have hr51 := Kd.C_drop (m := ((ji34) : Int).toNat) (c := c0) hC51 (by omega) hroom51
                                  obtain ⟨A51, hA51⟩ : ∃ A1, A1 = (if c0 = ((ji34) : Int).toNat then A0 else (A0 : Option Addr).map (·.add (((ji34) : Int).toNat * 5))) := ⟨_, rfl⟩
                                  obtain ⟨c51, hc51⟩ : ∃ c1, c1 = c0 - ((ji34) : Int).toNat := ⟨_, rfl⟩
                                  have hy51 : y360.length = l0.length - ((ji34) : Int).toNat := (by rw [Ny360.out, List.length_drop] <;> omega)
                                  rw [show (l0).drop ((ji34) : Int).toNat = y360 from Ny360.out.symm] at hr51
                                  replace hr51 : Kd.C k38 _ A51 y360.length y360 := (by rw [hA51]; exact hr51)
                                  rw [← hy51, ← hA51, ← hc51] at hcut51
                                  have HR363 := Aside0.mk hr51
                                  have HC363 := Aside0.mk (show y360.length ≤ c51 from by rw [hy51, hc51]; exact Nat.sub_le_sub_right hroom51 _)
                                  clear hr51 hC51 hroom51 hi051 hsz51 hc51
                                  have KY51 := Aside0.mk hy51
                                  have KA51 := Aside0.mk hA51
                                  clear hy51 hA51
                                  replace q51 := eq_true q51
                                  refine start_ (n := 13) (S := fun w' => True) (ds := []) #[false, false, false, false, false, false, false, false, false, false, false, false, false] (by kernel_rfl) rfl rfl trivial (fun hHeld => ?_); refine with_tabW chargeparklaw27_PlanFewer.tab8 chargeparklaw27_PlanFewer.bits8 (fun HT_ HW_ => ?_)
                                  generalize w48.drew = w49 at HB HR356 HR363 hHeld ⊢
                                  refine pure_ (i := 0) (N := some 86) (v := ?_) (a' := ?_) #[true, false, false, false, false, false, false, false, false, false, false, false, false] rfl rfl (any_of HT_.out (by kernel_rfl)) (fun _ _ _ h => h) (Or.inl ⟨by rfl, ?_⟩) ?_ ?_
                                  rotate_left
                                  · intro w'
                                    go_simp
                                    with_reducible rfl
                                  rotate_left
                                  · simp only [Act.put, List.setIfInBounds_toArray, List.set_cons_zero, List.set_cons_succ, i64_w, i32_w]
                                    rfl
                                  refine pure_ (i := 1) (N := some 87) (v := ?_) (a' := ?_) #[true, true, false, false, false, false, false, false, false, false, false, false, false] rfl rfl (any_of HT_.out (by kernel_rfl)) (fun _ _ _ h => h) (Or.inl ⟨by rfl, ?_⟩) ?_ ?_
                                  rotate_left
                                  · intro w'
                                    go_simp
                                    with_reducible rfl
                                  rotate_left
                                  · simp only [Act.put, List.setIfInBounds_toArray, List.set_cons_zero, List.set_cons_succ, i64_w, i32_w]
                                    rfl
                                  refine pure_ (i := 3) (N := some 89) (v := ?_) (a' := ?_) #[true, true, false, true, false, false, false, false, false, false, false, false, false] rfl rfl (any_of HT_.out (by kernel_rfl)) (fun _ _ _ h => h) (Or.inl ⟨by rfl, ?_⟩) ?_ ?_
                                  rotate_left
                                  · intro w'
                                    go_simp
                                    with_reducible rfl
                                  rotate_left
                                  · simp only [Act.put, List.setIfInBounds_toArray, List.set_cons_zero, List.set_cons_succ, i64_w, i32_w]
                                    rfl
                                  refine pure_ (i := 4) (N := some 90) (v := ?_) (a' := ?_) #[true, true, false, true, true, false, false, false, false, false, false, false, false] rfl rfl (any_of HT_.out (by kernel_rfl)) (fun _ _ _ h => h) (Or.inl ⟨by rfl, ?_⟩) ?_ ?_
                                  rotate_left
                                  · intro w'
                                    go_simp
                                    with_reducible rfl
                                  rotate_left
                                  · simp only [Act.put, List.setIfInBounds_toArray, List.set_cons_zero, List.set_cons_succ, i64_w, i32_w]
                                    rfl
                                  refine pure_ (i := 5) (N := some 91) (v := ?_) (a' := ?_) #[true, true, false, true, true, true, false, false, false, false, false, false, false] rfl rfl (any_of HT_.out (by kernel_rfl)) (fun _ _ _ h => h) (Or.inl ⟨by rfl, ?_⟩) ?_ ?_
                                  rotate_left
                                  · intro w'
                                    go_simp
                                    with_reducible rfl
                                  rotate_left
                                  · simp only [Act.put, List.setIfInBounds_toArray, List.set_cons_zero, List.set_cons_succ, i64_w, i32_w]
                                    rfl
                                  refine pure_ (i := 7) (N := some 93) (v := ?_) (a' := ?_) #[true, true, false, true, true, true, false, true, false, false, false, false, false] rfl rfl (any_of HT_.out (by kernel_rfl)) (fun _ _ _ h => h) (Or.inl ⟨by rfl, ?_⟩) ?_ ?_
                                  rotate_left
                                  · intro w'
                                    go_simp
                                    with_reducible rfl
                                  rotate_left
                                  · simp only [Act.put, List.setIfInBounds_toArray, List.set_cons_zero, List.set_cons_succ, i64_w, i32_w]
                                    rfl
                                  refine pure_ (i := 8) (N := some 94) (v := ?_) (a' := ?_) #[true, true, false, true, true, true, false, true, true, false, false, false, false] rfl rfl (any_of HT_.out (by kernel_rfl)) (fun _ _ _ h => h) (Or.inl ⟨by rfl, ?_⟩) ?_ ?_
                                  rotate_left
                                  · intro w'
                                    go_simp
                                    with_reducible rfl
                                  rotate_left
                                  · simp only [Act.put, List.setIfInBounds_toArray, List.set_cons_zero, List.set_cons_succ, i64_w, i32_w]
                                    rfl
                                  refine pure_ (i := 9) (N := some 95) (v := ?_) (a' := ?_) #[true, true, false, true, true, true, false, true, true, true, false, false, false] rfl rfl (any_of HT_.out (by kernel_rfl)) (fun _ _ _ h => h) (Or.inl ⟨by rfl, ?_⟩) ?_ ?_
                                  rotate_left
                                  · intro w'
                                    go_simp
                                    with_reducible rfl
                                  rotate_left
                                  · simp only [Act.put, List.setIfInBounds_toArray, List.set_cons_zero, List.set_cons_succ, i64_w, i32_w]
                                    rfl
                                  refine pure_ (i := 10) (N := some 96) (v := ?_) (a' := ?_) #[true, true, false, true, true, true, false, true, true, true, true, false, false] rfl rfl (any_of HT_.out (by kernel_rfl)) (fun _ _ _ h => h) (Or.inl ⟨by rfl, ?_⟩) ?_ ?_
                                  rotate_left
                                  · intro w'
                                    go_simp
                                    with_reducible rfl
                                  rotate_left
                                  · simp only [Act.put, List.setIfInBounds_toArray, List.set_cons_zero, List.set_cons_succ, i64_w, i32_w]
                                    rfl
                                  refine one_ (i := 2) (N := some 88) #[true, true, true, true, true, true, false, true, true, true, true, false, false] rfl rfl (one_of HT_.out (by kernel_rfl)) (by decide) (fun K hK => ?_)
                                  refine Kd.R_make0_step k38 _ 38 (by rfl) (N := 88) rfl 22 _ _ rfl (l0.length : Int) rfl rfl Try.underlying22 (.agg #[(.int .i64 0), (.int .i64 0), (.int .i64 0), (.int .i64 0), (.int .i64 0)]) 40 info38 (by omega) (ok := fun _ => True) trivial (of_decide_eq_true (by first | (with_reducible assumption) | assumption)) (Nat.le_trans (Nat.mul_le_mul_right _ (of_decide_eq_true (by first | (with_reducible assumption) | assumption) : (l0.length : Int).toNat ≤ 7036874417766)) (by omega)) (Below.refl _ _) (Nat.le_refl _) ?_
                                  intro v351 w52 ho53 hb hg_ hnew_
                                  clear hg_ hnew_
                                  (first | rw [← Ny350.out] at ho53 | (simp only [Int.reduceToNat] at ho53; rw [← Ny350.out] at ho53))
                                  have n0_ := Aside0.mk (Kd.R_lower ho53 (below_size (by repeat (first | (with_reducible first | exact HB.out | apply below_alloc | apply pw_below_drewN | apply below_drew1) | exact HB.out))))
                                  have n1_ := Aside0.mk (below_step (by repeat (first | (with_reducible first | exact HB.out | apply below_alloc | apply pw_below_drewN | apply below_drew1) | exact HB.out)) hb)
                                  clear HB
                                  have HO352 := n0_
                                  have HB := n1_
                                  clear n0_ n1_
                                  clear hb ho53
                                  refine hK.out _ _ trivial (fun hHeld => ?_)
                                  clear hK K
                                  refine norm_ (a' := ?_) ?_ ?_
                                  rotate_left
                                  · show Act.put _ (some 88) _ = _
                                    simp only [Act.put, List.setIfInBounds_toArray, List.set_cons_zero, List.set_cons_succ, i64_w, i32_w]
                                    rfl
                                  refine one_ (i := 6) (N := some 92) #[true, true, true, true, true, true, true, true, true, true, true, false, false] rfl rfl (one_of HT_.out (by kernel_rfl)) (by decide) (fun K hK => ?_)
                                  refine Kd.R_append_rows_step k38 (w0 := w) w.heap.size (by rfl) (.tmp 88) (.tmp 91) 22 38 (.agg #[(.int .i64 0), (.int .i64 0), (.int .i64 0), (.int .i64 0), (.int .i64 0)]) 40 rfl Try.underlying22 info38 rfl (by decide) (by omega) v351 y350 y353 _ _ _ (fun _ => True) (fun _ => False) rfl rfl ?aO ?aR (fun _ _ h => h) (fun _ h => h.elim) ?aF ?aB ?aS ?aL ?_
                                  (case aR => repeat (first | exact (Kd.C_below HR356.out HB.out) | (with_reducible refine Kd.C_alloc ?_ _) | (with_reducible refine Kd.C_drewN ?_ _) | (with_reducible refine Kd.C_drew ?_)))
                                  (case aB => exact (by repeat (first | (with_reducible first | exact HB.out | apply below_alloc | apply pw_below_drewN | apply below_drew1) | exact HB.out)))
                                  (case aF => exact (fun _ _ => trivial))
                                  (case aO => exact (by (with_reducible repeat (first | apply Kd.R_alloc | apply Kd.R_drewN | apply Kd.R_drew)); exact HO352.out))
                                  (case aS => exact (below_size (by repeat (first | (with_reducible first | exact HB.out | apply below_alloc | apply pw_below_drewN | apply below_drew1) | exact HB.out))))
                                  (case aL => have := LMc33.out; omega)
                                  intro v358 w54 ho hb hg hat
                                  rw [← Ny357.out] at ho
                                  have n0_ := Aside0.mk (hb)
                                  have n1_ := Aside0.mk (ho)
                                  clear HB
                                  clear HO352
                                  have HB := n0_
                                  have HO359 := n1_
                                  clear n0_ n1_
                                  clear ho hb hg hat
                                  refine hK.out _ _ trivial (fun hHeld => ?_)
                                  clear hK K
                                  refine norm_ (a' := ?_) ?_ ?_
                                  rotate_left
                                  · show Act.put _ (some 92) _ = _
                                    simp only [Act.put, List.setIfInBounds_toArray, List.set_cons_zero, List.set_cons_succ, i64_w, i32_w]
                                    rfl
                                  refine one_ (i := 11) (N := some 97) #[true, true, true, true, true, true, true, true, true, true, true, true, false] rfl rfl (one_of HT_.out (by kernel_rfl)) (by decide) (fun K hK => ?_)
                                  refine Kd.R_append_rows_step k38 (w0 := w) w.heap.size (by rfl) (.tmp 92) (.tmp 96) 22 38 (.agg #[(.int .i64 0), (.int .i64 0), (.int .i64 0), (.int .i64 0), (.int .i64 0)]) 40 rfl Try.underlying22 info38 rfl (by decide) (by omega) v358 y357 y360 _ _ _ (fun _ => True) (fun _ => False) rfl rfl ?aO ?aR (fun _ _ h => h) (fun _ h => h.elim) ?aF ?aB ?aS ?aL ?_
                                  (case aR => repeat (first | exact (Kd.C_below HR363.out HB.out) | (with_reducible refine Kd.C_alloc ?_ _) | (with_reducible refine Kd.C_drewN ?_ _) | (with_reducible refine Kd.C_drew ?_)))
                                  (case aB => exact (by repeat (first | (with_reducible first | exact HB.out | apply below_alloc | apply pw_below_drewN | apply below_drew1) | exact HB.out)))
                                  (case aF => exact (fun _ _ => trivial))
                                  (case aO => exact (by (with_reducible repeat (first | apply Kd.R_alloc | apply Kd.R_drewN | apply Kd.R_drew)); exact HO359.out))
                                  (case aS => exact (below_size (by repeat (first | (with_reducible first | exact HB.out | apply below_alloc | apply pw_below_drewN | apply below_drew1) | exact HB.out))))
                                  (case aL => have := LMc37.out; omega)
                                  intro v365 w55 ho hb hg hat
                                  rw [← Ny364.out] at ho
                                  have n0_ := Aside0.mk (hb)
                                  have n1_ := Aside0.mk (ho)
                                  clear HB
                                  clear HO359
                                  have HB := n0_
                                  have HO366 := n1_
                                  clear n0_ n1_
                                  clear ho hb hg hat
                                  refine hK.out _ _ trivial (fun hHeld => ?_)
                                  clear hK K
                                  refine norm_ (a' := ?_) ?_ ?_
                                  rotate_left
                                  · show Act.put _ (some 97) _ = _
                                    simp only [Act.put, List.setIfInBounds_toArray, List.set_cons_zero, List.set_cons_succ, i64_w, i32_w]
                                    rfl
                                  refine pure_ (i := 12) (N := some 21) (v := ?_) (a' := ?_) #[true, true, true, true, true, true, true, true, true, true, true, true, true] rfl rfl (any_of HT_.out (by kernel_rfl)) (fun _ _ _ h => h) (Or.inl ⟨by rfl, ?_⟩) ?_ ?_
                                  rotate_left
                                  · intro w'
                                    go_simp
                                    with_reducible rfl
                                  rotate_left
                                  · simp only [Act.put, List.setIfInBounds_toArray, List.set_cons_zero, List.set_cons_succ, i64_w, i32_w]
                                    rfl
                                  refine done_ (done_of HT_.out (by kernel_rfl)) ?_
                                  try go_wp2_with (first | ((with_reducible refine gate_dst (N := 100) rfl ?_); (try (refine gate_guard (by rfl) ?_; dsimp only)); refine Kd.R_make0 k38 _ 38 rfl (N := 100) rfl 22 _ _ rfl (l0.length : Int) rfl rfl Try.underlying22 (.agg #[(.int .i64 0), (.int .i64 0), (.int .i64 0), (.int .i64 0), (.int .i64 0)]) 40 info38 (by omega) (ok := fun _ => True) trivial (of_decide_eq_true (by first | (with_reducible assumption) | assumption)) (Nat.le_trans (Nat.mul_le_mul_right _ (of_decide_eq_true (by first | (with_reducible assumption) | assumption) : (l0.length : Int).toNat ≤ 7036874417766)) (by omega)) (Below.refl _ _) (Nat.le_refl _) ?_; intro v368 w56 ho57 hb hg_ hnew_; clear hg_ hnew_; (first | rw [← Ny367.out] at ho57 | (simp only [Int.reduceToNat] at ho57; rw [← Ny367.out] at ho57)); have n0_ := Aside0.mk (Kd.R_elder' (by (with_reducible repeat (first | apply Kd.R_alloc | apply Kd.R_drewN | apply Kd.R_drew)); exact HO366.out) (Kd.R_base ho57) hb); have n1_ := Aside0.mk (Kd.R_lower (Kd.R_new' ho57 (Kd.R_lt (by (with_reducible repeat (first | apply Kd.R_alloc | apply Kd.R_drewN | apply Kd.R_drew)); exact HO366.out))) (below_size (by repeat (first | (with_reducible first | exact HB.out | apply below_alloc | apply pw_below_drewN | apply below_drew1) | exact HB.out)))); have n2_ := Aside0.mk (below_step (by repeat (first | (with_reducible first | exact HB.out | apply below_alloc | apply pw_below_drewN | apply below_drew1) | exact HB.out)) hb); clear HO366; clear HB; have HO366 := n0_; have HO369 := n1_; have HB := n2_; clear n0_ n1_ n2_; clear hb ho57) | ((with_reducible refine gate_builtin (b := .append) (xs := #[.tmp 100, .tmp 101]) rfl ?_); (try (refine gate_guard (by rfl) ?_; dsimp only)); at_builtin; refine Kd.R_append_rows k38 (w0 := w) w.heap.size rfl (.tmp 100) (.tmp 101) 22 38 (.agg #[(.int .i64 0), (.int .i64 0), (.int .i64 0), (.int .i64 0), (.int .i64 0)]) 40 rfl Try.underlying22 info38 rfl (by decide) (by omega) v368 y367 l0 _ _ _ (fun k_ => some k_ ≠ (v365 : Value).ownBlock) (fun _ => False) rfl rfl ?aO ?aR (fun _ _ h => h) (fun _ h => h.elim) ?aF ?aB ?aS ?aL ?_; (case aR => repeat (first | exact (Kd.C_below HR0.out HB.out) | (with_reducible refine Kd.C_alloc ?_ _) | (with_reducible refine Kd.C_drewN ?_ _) | (with_reducible refine Kd.C_drew ?_))); (case aB => exact (by repeat (first | (with_reducible first | exact HB.out | apply below_alloc | apply pw_below_drewN | apply below_drew1) | exact HB.out))); (case aF => exact (fun k_ hk => Kd.fresh' (Kd.R_lt (by (with_reducible repeat (first | apply Kd.R_alloc | apply Kd.R_drewN | apply Kd.R_drew)); exact HO366.out)) k_ hk)); (case aO => exact (by (with_reducible repeat (first | apply Kd.R_alloc | apply Kd.R_drewN | apply Kd.R_drew)); exact Kd.R_mono HO369.out (fun _ hk => hk.2))); (case aS => exact (below_size (by repeat (first | (with_reducible first | exact HB.out | apply below_alloc | apply pw_below_drewN | apply below_drew1) | exact HB.out)))); (case aL => have := LMc38.out; omega); intro v371 w58 ho hb hg hat; rw [← Ny370.out] at ho; have n0_ := Aside0.mk (Kd.R_after (ok := (fun _ => True)) (by (with_reducible repeat (first | apply Kd.R_alloc | apply Kd.R_drewN | apply Kd.R_drew)); exact HO366.out) hg hat); have n1_ := Aside0.mk (hb); have n2_ := Aside0.mk (ho); clear HO366; clear HB; clear HO369; have HO366 := n0_; have HB := n1_; have HO372 := n2_; clear n0_ n1_ n2_; clear ho hb hg hat; obtain ⟨Ao59, co59, eo59⟩ := Kd.R_slice HO372.out; subst eo59; have p373 : 0 ≤ ((ji30) : Int) := of_decide_eq_true (by first | (with_reducible assumption) | assumption); have q373 : (ji30) < (y370.length : Int) := of_decide_eq_true (by first | (with_reducible assumption) | assumption); obtain ⟨ad373, e373, hx373_0, hx373_1, hx373_2, hx373_3, hx373_4⟩ := at_T38 (Kd.R_reads' HO372.out).2.2 (ji30) p373 q373; cases e373; replace p373 := eq_true p373; replace q373 := eq_true q373; have p41 : 0 ≤ ((ji30) : Int) := of_decide_eq_true (by first | (with_reducible assumption) | assumption); have q41 : ((ji30) : Int) < ((y370.length : Int) : Int) := of_decide_eq_true (by first | (with_reducible assumption) | assumption); obtain ⟨go41, co41, eo41, gb41, gl41, cl41, HG41⟩ := Kd.R_form HO372.out (by omega); (first | cases eo41 | (injection eo41 with ea_ en_ ec_; (first | subst ea_ | (injection ea_ with ea_; subst ea_)); subst ec_; clear en_)); have GB41 := Aside0.mk gb41; have GG41 := Aside0.mk HG41; clear gb41 gl41 HG41; (first | simp only [add_plain] at hx373_0 | skip); (first | simp only [add_plain] at hx373_1 | skip); (first | simp only [add_plain] at hx373_2 | skip); (first | simp only [add_plain] at hx373_3 | skip); (first | simp only [add_plain] at hx373_4 | skip); obtain ⟨ce41, hcl41, hM41, hcc41, hfr41⟩ := Kd.R_elem HO372.out z38 ((ji30) : Int) p41 q41; obtain rfl := k38_openM hM41; have hx41_0 : w58.cell? ⟨go41, ((ji30) : Int).toNat * 5, none⟩ = some (.int .i64 ((rd_T38 y370 (ji30)).f0)) := hcc41 0 _ rfl; have hx41_1 : w58.cell? ⟨go41, ((ji30) : Int).toNat * 5 + 1, none⟩ = some (.int .i64 ((rd_T38 y370 (ji30)).f1)) := hcc41 1 _ rfl; have hx41_2 : w58.cell? ⟨go41, ((ji30) : Int).toNat * 5 + 2, none⟩ = some (.int .i64 ((rd_T38 y370 (ji30)).f2)) := hcc41 2 _ rfl; have hx41_3 : w58.cell? ⟨go41, ((ji30) : Int).toNat * 5 + 3, none⟩ = some (.int .i64 ((rd_T38 y370 (ji30)).f3)) := hcc41 3 _ rfl; have hx41_4 : w58.cell? ⟨go41, ((ji30) : Int).toNat * 5 + 4, none⟩ = some (.int .i64 ((rd_T38 y370 (ji30)).f4)) := hcc41 4 _ rfl; have hf41_0 : w58.frozen? ⟨go41, ((ji30) : Int).toNat * 5, none⟩ = false := hfr41 0; have hf41_1 : w58.frozen? ⟨go41, ((ji30) : Int).toNat * 5 + 1, none⟩ = false := hfr41 1; have hf41_2 : w58.frozen? ⟨go41, ((ji30) : Int).toNat * 5 + 2, none⟩ = false := hfr41 2; have hf41_3 : w58.frozen? ⟨go41, ((ji30) : Int).toNat * 5 + 3, none⟩ = false := hfr41 3; have hf41_4 : w58.frozen? ⟨go41, ((ji30) : Int).toNat * 5 + 4, none⟩ = false := hfr41 4; clear hcl41 hcc41 hfr41 hM41; replace p41 := eq_true p41; replace q41 := eq_true q41; have HX60 := Aside0.mk (show Kd.R k38 38 w58 w.heap.size (fun k_ => some k_ ≠ (v365 : Value).ownBlock) (.slice (some ⟨go41, 0, none⟩) y370.length co59) y370 from (by (with_reducible repeat (first | apply Kd.R_alloc | apply Kd.R_drewN | apply Kd.R_drew)); exact HO372.out)); obtain ⟨ce60, hcl60, hM60, hcc60, hfr60⟩ := Kd.R_elem HX60.out z38 ((ji30) : Int) (of_decide_eq_true (by first | (with_reducible assumption) | assumption)) (by have h_ : ((ji30) : Int) < ((y370.length : Int) : Int) := of_decide_eq_true (by first | (with_reducible assumption) | assumption); first | exact h_ | (have e_ := (Kd.R_reads' HO372.out).1; omega) | simpa using h_); obtain rfl := k38_openM hM60; have HP60 := Kd.R_seg HX60.out ((ji30) : Int) (of_decide_eq_true (by first | (with_reducible assumption) | assumption)) (by have h_ : ((ji30) : Int) < ((y370.length : Int) : Int) := of_decide_eq_true (by first | (with_reducible assumption) | assumption); first | exact h_ | (have e_ := (Kd.R_reads' HO372.out).1; omega) | simpa using h_) (seg := [.int .i64 ji40]) (j := 2) hcl60 hcc60 (show 3 ≤ 5 from by decide) (x' := (⟨(rd_T38 y370 (ji30)).f0, (rd_T38 y370 (ji30)).f1, ji40, (rd_T38 y370 (ji30)).f3, (rd_T38 y370 (ji30)).f4⟩ : S38)) (k38_mkM _ _ _ (⟨(rd_T38 y370 (ji30)).f0, (rd_T38 y370 (ji30)).f1, ji40, (rd_T38 y370 (ji30)).f3, (rd_T38 y370 (ji30)).f4⟩ : S38) ) (fun _ hk => hk); have hx60_2 := hcc60 2 _ rfl; (try simp only [show (k38).sz = 5 from rfl, Nat.mul_one, Nat.add_zero] at hx60_2); have hf60_2 := hfr60 2; (try simp only [show (k38).sz = 5 from rfl, Nat.mul_one, Nat.add_zero] at hf60_2); clear hcl60 hcc60 hfr60 hM60) | ((with_reducible refine gate_store (t := 3) (p := 114) rfl ?_); refine store_event (t := 3) (p := 114) (v := ?vo_w61) (w1 := (w58.setCell ⟨go41, ((ji30) : Int).toNat * 5 + 2, none⟩ (.int .i64 ji40))) ?hg ?ho ?hn ?hr ?_; (case ho => rfl); (case hg => rfl); (case hn => rfl); (case hr => first | (go_simp; done) | (go_simp; rfl)); intro w61 hw; have hg : w58.grownBy w61 (some go41) := (by rw [hw]; exact HP60.2); have hp_ : Kd.R k38 38 w61 w.heap.size (fun k_ => some k_ ≠ (v365 : Value).ownBlock) (.slice (some ⟨go41, 0, none⟩) y370.length co59) y374 := (by rw [hw, Ny374.out]; exact HP60.1); clear HP60; have n0_ := Aside0.mk (Kd.R_after (v := (.slice (some ⟨go41, 0, none⟩) y370.length co59)) (v1 := (.slice (some ⟨go41, 0, none⟩) y370.length co59)) (ok := (fun _ => True)) (by (with_reducible repeat (first | apply Kd.R_alloc | apply Kd.R_drewN | apply Kd.R_drew)); exact HO366.out) hg (.inl rfl)); have n1_ := Aside0.mk (hp_); have n2_ := Aside0.mk ((by rw [hw]; exact below_set (HB.out) GB41.out : Below w.heap.size w w61)); clear HO366; clear HO372; clear HB; have HO366 := n0_; have HO372 := n1_; have HB := n2_; clear n0_ n1_ n2_; clear hg hw hp_; have p375 : 0 ≤ ((ji30) : Int) := of_decide_eq_true (by first | (with_reducible assumption) | assumption); have q375 : (ji30) < (y374.length : Int) := (by have h_ : ((ji30) : Int) < ((y370.length : Int) : Int) := of_decide_eq_true (by first | (with_reducible assumption) | assumption); first | (have e_ := (Kd.R_reads' HO372.out).1; omega) | simpa only [Ny374.out, List.length_set] using h_); have ql375 : (((ji30) : Int) < ((y370.length : Int) : Int)) = True := eq_true (of_decide_eq_true (by first | (with_reducible assumption) | assumption)); obtain ⟨ad375, e375, hx375_0, hx375_1, hx375_2, hx375_3, hx375_4⟩ := at_T38 (Kd.R_reads' HO372.out).2.2 (ji30) p375 q375; obtain rfl : (⟨go41, 0, none⟩ : Addr) = ad375 := (by injection e375); (first | simp only [add_plain] at hx375_0 | simp only [add_at] at hx375_0 | simp only [Addr.add, Nat.zero_add] at hx375_0 | skip); (first | simp only [add_plain] at hx375_1 | simp only [add_at] at hx375_1 | simp only [Addr.add, Nat.zero_add] at hx375_1 | skip); (first | simp only [add_plain] at hx375_2 | simp only [add_at] at hx375_2 | simp only [Addr.add, Nat.zero_add] at hx375_2 | skip); (first | simp only [add_plain] at hx375_3 | simp only [add_at] at hx375_3 | simp only [Addr.add, Nat.zero_add] at hx375_3 | skip); (first | simp only [add_plain] at hx375_4 | simp only [add_at] at hx375_4 | simp only [Addr.add, Nat.zero_add] at hx375_4 | skip); replace p375 := eq_true p375; replace q375 := eq_true q375; have p43 : 0 ≤ ((ji30) : Int) := of_decide_eq_true (by first | (with_reducible assumption) | assumption); have q43 : ((ji30) : Int) < ((y370.length : Int) : Int) := of_decide_eq_true (by first | (with_reducible assumption) | assumption); obtain ⟨ce43, hcl43, hM43, hcc43, hfr43⟩ := Kd.R_elem HO372.out z38 ((ji30) : Int) p43 q43; obtain rfl := k38_openM hM43; have hx43_0 : w61.cell? ⟨go41, ((ji30) : Int).toNat * 5, none⟩ = some (.int .i64 ((rd_T38 y374 (ji30)).f0)) := hcc43 0 _ rfl; have hx43_1 : w61.cell? ⟨go41, ((ji30) : Int).toNat * 5 + 1, none⟩ = some (.int .i64 ((rd_T38 y374 (ji30)).f1)) := hcc43 1 _ rfl; have hx43_2 : w61.cell? ⟨go41, ((ji30) : Int).toNat * 5 + 2, none⟩ = some (.int .i64 ((rd_T38 y374 (ji30)).f2)) := hcc43 2 _ rfl; have hx43_3 : w61.cell? ⟨go41, ((ji30) : Int).toNat * 5 + 3, none⟩ = some (.int .i64 ((rd_T38 y374 (ji30)).f3)) := hcc43 3 _ rfl; have hx43_4 : w61.cell? ⟨go41, ((ji30) : Int).toNat * 5 + 4, none⟩ = some (.int .i64 ((rd_T38 y374 (ji30)).f4)) := hcc43 4 _ rfl; have hf43_0 : w61.frozen? ⟨go41, ((ji30) : Int).toNat * 5, none⟩ = false := hfr43 0; have hf43_1 : w61.frozen? ⟨go41, ((ji30) : Int).toNat * 5 + 1, none⟩ = false := hfr43 1; have hf43_2 : w61.frozen? ⟨go41, ((ji30) : Int).toNat * 5 + 2, none⟩ = false := hfr43 2; have hf43_3 : w61.frozen? ⟨go41, ((ji30) : Int).toNat * 5 + 3, none⟩ = false := hfr43 3; have hf43_4 : w61.frozen? ⟨go41, ((ji30) : Int).toNat * 5 + 4, none⟩ = false := hfr43 4; clear hcl43 hcc43 hfr43 hM43; replace p43 := eq_true p43; replace q43 := eq_true q43; have HX62 := Aside0.mk (show Kd.R k38 38 w61 w.heap.size (fun k_ => some k_ ≠ (v365 : Value).ownBlock) (.slice (some ⟨go41, 0, none⟩) y370.length co59) y374 from (by (with_reducible repeat (first | apply Kd.R_alloc | apply Kd.R_drewN | apply Kd.R_drew)); exact HO372.out)); obtain ⟨ce62, hcl62, hM62, hcc62, hfr62⟩ := Kd.R_elem HX62.out z38 ((ji30) : Int) (of_decide_eq_true (by first | (with_reducible assumption) | assumption)) (by have h_ : ((ji30) : Int) < ((y370.length : Int) : Int) := of_decide_eq_true (by first | (with_reducible assumption) | assumption); first | exact h_ | (have e_ := (Kd.R_reads' HO372.out).1; omega) | simpa using h_); obtain rfl := k38_openM hM62; have HP62 := Kd.R_seg HX62.out ((ji30) : Int) (of_decide_eq_true (by first | (with_reducible assumption) | assumption)) (by have h_ : ((ji30) : Int) < ((y370.length : Int) : Int) := of_decide_eq_true (by first | (with_reducible assumption) | assumption); first | exact h_ | (have e_ := (Kd.R_reads' HO372.out).1; omega) | simpa using h_) (seg := [.int .i64 ji42]) (j := 3) hcl62 hcc62 (show 4 ≤ 5 from by decide) (x' := (⟨(rd_T38 y374 (ji30)).f0, (rd_T38 y374 (ji30)).f1, (rd_T38 y374 (ji30)).f2, ji42, (rd_T38 y374 (ji30)).f4⟩ : S38)) (k38_mkM _ _ _ (⟨(rd_T38 y374 (ji30)).f0, (rd_T38 y374 (ji30)).f1, (rd_T38 y374 (ji30)).f2, ji42, (rd_T38 y374 (ji30)).f4⟩ : S38) ) (fun _ hk => hk); have hx62_3 := hcc62 3 _ rfl; (try simp only [show (k38).sz = 5 from rfl, Nat.mul_one, Nat.add_zero] at hx62_3); have hf62_3 := hfr62 3; (try simp only [show (k38).sz = 5 from rfl, Nat.mul_one, Nat.add_zero] at hf62_3); clear hcl62 hcc62 hfr62 hM62) | ((with_reducible refine gate_store (t := 3) (p := 126) rfl ?_); refine store_event (t := 3) (p := 126) (v := ?vo_w63) (w1 := (w61.setCell ⟨go41, ((ji30) : Int).toNat * 5 + 3, none⟩ (.int .i64 ji42))) ?hg ?ho ?hn ?hr ?_; (case ho => rfl); (case hg => rfl); (case hn => rfl); (case hr => first | (go_simp; done) | (go_simp; rfl)); intro w63 hw; have hg : w61.grownBy w63 (some go41) := (by rw [hw]; exact HP62.2); have hp_ : Kd.R k38 38 w63 w.heap.size (fun k_ => some k_ ≠ (v365 : Value).ownBlock) (.slice (some ⟨go41, 0, none⟩) y370.length co59) y376 := (by rw [hw, Ny376.out]; exact HP62.1); clear HP62; have n0_ := Aside0.mk (Kd.R_after (v := (.slice (some ⟨go41, 0, none⟩) y370.length co59)) (v1 := (.slice (some ⟨go41, 0, none⟩) y370.length co59)) (ok := (fun _ => True)) (by (with_reducible repeat (first | apply Kd.R_alloc | apply Kd.R_drewN | apply Kd.R_drew)); exact HO366.out) hg (.inl rfl)); have n1_ := Aside0.mk (hp_); have n2_ := Aside0.mk ((by rw [hw]; exact below_set (HB.out) GB41.out : Below w.heap.size w w63)); clear HO366; clear HO372; clear HB; have HO366 := n0_; have HO372 := n1_; have HB := n2_; clear n0_ n1_ n2_; clear hg hw hp_; have p377 : 0 ≤ ((ji30) : Int) := of_decide_eq_true (by first | (with_reducible assumption) | assumption); have q377 : (ji30) < (y376.length : Int) := (by have h_ : ((ji30) : Int) < ((y370.length : Int) : Int) := of_decide_eq_true (by first | (with_reducible assumption) | assumption); first | (have e_ := (Kd.R_reads' HO372.out).1; omega) | simpa only [Ny374.out, Ny376.out, List.length_set] using h_); have ql377 : (((ji30) : Int) < ((y370.length : Int) : Int)) = True := eq_true (of_decide_eq_true (by first | (with_reducible assumption) | assumption)); obtain ⟨ad377, e377, hx377_0, hx377_1, hx377_2, hx377_3, hx377_4⟩ := at_T38 (Kd.R_reads' HO372.out).2.2 (ji30) p377 q377; obtain rfl : (⟨go41, 0, none⟩ : Addr) = ad377 := (by injection e377); (first | simp only [add_plain] at hx377_0 | simp only [add_at] at hx377_0 | simp only [Addr.add, Nat.zero_add] at hx377_0 | skip); (first | simp only [add_plain] at hx377_1 | simp only [add_at] at hx377_1 | simp only [Addr.add, Nat.zero_add] at hx377_1 | skip); (first | simp only [add_plain] at hx377_2 | simp only [add_at] at hx377_2 | simp only [Addr.add, Nat.zero_add] at hx377_2 | skip); (first | simp only [add_plain] at hx377_3 | simp only [add_at] at hx377_3 | simp only [Addr.add, Nat.zero_add] at hx377_3 | skip); (first | simp only [add_plain] at hx377_4 | simp only [add_at] at hx377_4 | simp only [Addr.add, Nat.zero_add] at hx377_4 | skip); replace p377 := eq_true p377; replace q377 := eq_true q377; have p45 : 0 ≤ ((ji30) : Int) := of_decide_eq_true (by first | (with_reducible assumption) | assumption); have q45 : ((ji30) : Int) < ((y370.length : Int) : Int) := of_decide_eq_true (by first | (with_reducible assumption) | assumption); obtain ⟨ce45, hcl45, hM45, hcc45, hfr45⟩ := Kd.R_elem HO372.out z38 ((ji30) : Int) p45 q45; obtain rfl := k38_openM hM45; have hx45_0 : w63.cell? ⟨go41, ((ji30) : Int).toNat * 5, none⟩ = some (.int .i64 ((rd_T38 y376 (ji30)).f0)) := hcc45 0 _ rfl; have hx45_1 : w63.cell? ⟨go41, ((ji30) : Int).toNat * 5 + 1, none⟩ = some (.int .i64 ((rd_T38 y376 (ji30)).f1)) := hcc45 1 _ rfl; have hx45_2 : w63.cell? ⟨go41, ((ji30) : Int).toNat * 5 + 2, none⟩ = some (.int .i64 ((rd_T38 y376 (ji30)).f2)) := hcc45 2 _ rfl; have hx45_3 : w63.cell? ⟨go41, ((ji30) : Int).toNat * 5 + 3, none⟩ = some (.int .i64 ((rd_T38 y376 (ji30)).f3)) := hcc45 3 _ rfl; have hx45_4 : w63.cell? ⟨go41, ((ji30) : Int).toNat * 5 + 4, none⟩ = some (.int .i64 ((rd_T38 y376 (ji30)).f4)) := hcc45 4 _ rfl; have hf45_0 : w63.frozen? ⟨go41, ((ji30) : Int).toNat * 5, none⟩ = false := hfr45 0; have hf45_1 : w63.frozen? ⟨go41, ((ji30) : Int).toNat * 5 + 1, none⟩ = false := hfr45 1; have hf45_2 : w63.frozen? ⟨go41, ((ji30) : Int).toNat * 5 + 2, none⟩ = false := hfr45 2; have hf45_3 : w63.frozen? ⟨go41, ((ji30) : Int).toNat * 5 + 3, none⟩ = false := hfr45 3; have hf45_4 : w63.frozen? ⟨go41, ((ji30) : Int).toNat * 5 + 4, none⟩ = false := hfr45 4; clear hcl45 hcc45 hfr45 hM45; replace p45 := eq_true p45; replace q45 := eq_true q45; have HX64 := Aside0.mk (show Kd.R k38 38 w63 w.heap.size (fun k_ => some k_ ≠ (v365 : Value).ownBlock) (.slice (some ⟨go41, 0, none⟩) y370.length co59) y376 from (by (with_reducible repeat (first | apply Kd.R_alloc | apply Kd.R_drewN | apply Kd.R_drew)); exact HO372.out)); obtain ⟨ce64, hcl64, hM64, hcc64, hfr64⟩ := Kd.R_elem HX64.out z38 ((ji30) : Int) (of_decide_eq_true (by first | (with_reducible assumption) | assumption)) (by have h_ : ((ji30) : Int) < ((y370.length : Int) : Int) := of_decide_eq_true (by first | (with_reducible assumption) | assumption); first | exact h_ | (have e_ := (Kd.R_reads' HO372.out).1; omega) | simpa using h_); obtain rfl := k38_openM hM64; have HP64 := Kd.R_seg HX64.out ((ji30) : Int) (of_decide_eq_true (by first | (with_reducible assumption) | assumption)) (by have h_ : ((ji30) : Int) < ((y370.length : Int) : Int) := of_decide_eq_true (by first | (with_reducible assumption) | assumption); first | exact h_ | (have e_ := (Kd.R_reads' HO372.out).1; omega) | simpa using h_) (seg := [.int .i64 ji44]) (j := 0) hcl64 hcc64 (show 1 ≤ 5 from by decide) (x' := (⟨ji44, (rd_T38 y376 (ji30)).f1, (rd_T38 y376 (ji30)).f2, (rd_T38 y376 (ji30)).f3, (rd_T38 y376 (ji30)).f4⟩ : S38)) (k38_mkM _ _ _ (⟨ji44, (rd_T38 y376 (ji30)).f1, (rd_T38 y376 (ji30)).f2, (rd_T38 y376 (ji30)).f3, (rd_T38 y376 (ji30)).f4⟩ : S38) ) (fun _ hk => hk); have hx64_0 := hcc64 0 _ rfl; (try simp only [show (k38).sz = 5 from rfl, Nat.mul_one, Nat.add_zero] at hx64_0); have hf64_0 := hfr64 0; (try simp only [show (k38).sz = 5 from rfl, Nat.mul_one, Nat.add_zero] at hf64_0); clear hcl64 hcc64 hfr64 hM64) | ((with_reducible refine gate_store (t := 3) (p := 139) rfl ?_); refine store_event (t := 3) (p := 139) (v := ?vo_w65) (w1 := (w63.setCell ⟨go41, ((ji30) : Int).toNat * 5, none⟩ (.int .i64 ji44))) ?hg ?ho ?hn ?hr ?_; (case ho => rfl); (case hg => rfl); (case hn => rfl); (case hr => first | (go_simp; done) | (go_simp; rfl)); intro w65 hw; have hg : w63.grownBy w65 (some go41) := (by rw [hw]; exact HP64.2); have hp_ : Kd.R k38 38 w65 w.heap.size (fun k_ => some k_ ≠ (v365 : Value).ownBlock) (.slice (some ⟨go41, 0, none⟩) y370.length co59) y378 := (by rw [hw, Ny378.out]; exact HP64.1); clear HP64; have n0_ := Aside0.mk (Kd.R_after (v := (.slice (some ⟨go41, 0, none⟩) y370.length co59)) (v1 := (.slice (some ⟨go41, 0, none⟩) y370.length co59)) (ok := (fun _ => True)) (by (with_reducible repeat (first | apply Kd.R_alloc | apply Kd.R_drewN | apply Kd.R_drew)); exact HO366.out) hg (.inl rfl)); have n1_ := Aside0.mk (hp_); have n2_ := Aside0.mk ((by rw [hw]; exact below_set (HB.out) GB41.out : Below w.heap.size w w65)); clear HO366; clear HO372; clear HB; have HO366 := n0_; have HO372 := n1_; have HB := n2_; clear n0_ n1_ n2_; clear hg hw hp_; have p379 : 0 ≤ ((ji30) : Int) := of_decide_eq_true (by first | (with_reducible assumption) | assumption); have q379 : (ji30) < (y378.length : Int) := (by have h_ : ((ji30) : Int) < ((y370.length : Int) : Int) := of_decide_eq_true (by first | (with_reducible assumption) | assumption); first | (have e_ := (Kd.R_reads' HO372.out).1; omega) | simpa only [Ny374.out, Ny376.out, Ny378.out, List.length_set] using h_); have ql379 : (((ji30) : Int) < ((y370.length : Int) : Int)) = True := eq_true (of_decide_eq_true (by first | (with_reducible assumption) | assumption)); obtain ⟨ad379, e379, hx379_0, hx379_1, hx379_2, hx379_3, hx379_4⟩ := at_T38 (Kd.R_reads' HO372.out).2.2 (ji30) p379 q379; obtain rfl : (⟨go41, 0, none⟩ : Addr) = ad379 := (by injection e379); (first | simp only [add_plain] at hx379_0 | simp only [add_at] at hx379_0 | simp only [Addr.add, Nat.zero_add] at hx379_0 | skip); (first | simp only [add_plain] at hx379_1 | simp only [add_at] at hx379_1 | simp only [Addr.add, Nat.zero_add] at hx379_1 | skip); (first | simp only [add_plain] at hx379_2 | simp only [add_at] at hx379_2 | simp only [Addr.add, Nat.zero_add] at hx379_2 | skip); (first | simp only [add_plain] at hx379_3 | simp only [add_at] at hx379_3 | simp only [Addr.add, Nat.zero_add] at hx379_3 | skip); (first | simp only [add_plain] at hx379_4 | simp only [add_at] at hx379_4 | simp only [Addr.add, Nat.zero_add] at hx379_4 | skip); replace p379 := eq_true p379; replace q379 := eq_true q379; have p47 : 0 ≤ ((ji30) : Int) := of_decide_eq_true (by first | (with_reducible assumption) | assumption); have q47 : ((ji30) : Int) < ((y370.length : Int) : Int) := of_decide_eq_true (by first | (with_reducible assumption) | assumption); obtain ⟨ce47, hcl47, hM47, hcc47, hfr47⟩ := Kd.R_elem HO372.out z38 ((ji30) : Int) p47 q47; obtain rfl := k38_openM hM47; have hx47_0 : w65.cell? ⟨go41, ((ji30) : Int).toNat * 5, none⟩ = some (.int .i64 ((rd_T38 y378 (ji30)).f0)) := hcc47 0 _ rfl; have hx47_1 : w65.cell? ⟨go41, ((ji30) : Int).toNat * 5 + 1, none⟩ = some (.int .i64 ((rd_T38 y378 (ji30)).f1)) := hcc47 1 _ rfl; have hx47_2 : w65.cell? ⟨go41, ((ji30) : Int).toNat * 5 + 2, none⟩ = some (.int .i64 ((rd_T38 y378 (ji30)).f2)) := hcc47 2 _ rfl; have hx47_3 : w65.cell? ⟨go41, ((ji30) : Int).toNat * 5 + 3, none⟩ = some (.int .i64 ((rd_T38 y378 (ji30)).f3)) := hcc47 3 _ rfl; have hx47_4 : w65.cell? ⟨go41, ((ji30) : Int).toNat * 5 + 4, none⟩ = some (.int .i64 ((rd_T38 y378 (ji30)).f4)) := hcc47 4 _ rfl; have hf47_0 : w65.frozen? ⟨go41, ((ji30) : Int).toNat * 5, none⟩ = false := hfr47 0; have hf47_1 : w65.frozen? ⟨go41, ((ji30) : Int).toNat * 5 + 1, none⟩ = false := hfr47 1; have hf47_2 : w65.frozen? ⟨go41, ((ji30) : Int).toNat * 5 + 2, none⟩ = false := hfr47 2; have hf47_3 : w65.frozen? ⟨go41, ((ji30) : Int).toNat * 5 + 3, none⟩ = false := hfr47 3; have hf47_4 : w65.frozen? ⟨go41, ((ji30) : Int).toNat * 5 + 4, none⟩ = false := hfr47 4; clear hcl47 hcc47 hfr47 hM47; replace p47 := eq_true p47; replace q47 := eq_true q47; have HX66 := Aside0.mk (show Kd.R k38 38 w65 w.heap.size (fun k_ => some k_ ≠ (v365 : Value).ownBlock) (.slice (some ⟨go41, 0, none⟩) y370.length co59) y378 from (by (with_reducible repeat (first | apply Kd.R_alloc | apply Kd.R_drewN | apply Kd.R_drew)); exact HO372.out)); obtain ⟨ce66, hcl66, hM66, hcc66, hfr66⟩ := Kd.R_elem HX66.out z38 ((ji30) : Int) (of_decide_eq_true (by first | (with_reducible assumption) | assumption)) (by have h_ : ((ji30) : Int) < ((y370.length : Int) : Int) := of_decide_eq_true (by first | (with_reducible assumption) | assumption); first | exact h_ | (have e_ := (Kd.R_reads' HO372.out).1; omega) | simpa using h_); obtain rfl := k38_openM hM66; have HP66 := Kd.R_seg HX66.out ((ji30) : Int) (of_decide_eq_true (by first | (with_reducible assumption) | assumption)) (by have h_ : ((ji30) : Int) < ((y370.length : Int) : Int) := of_decide_eq_true (by first | (with_reducible assumption) | assumption); first | exact h_ | (have e_ := (Kd.R_reads' HO372.out).1; omega) | simpa using h_) (seg := [.int .i64 ji46]) (j := 1) hcl66 hcc66 (show 2 ≤ 5 from by decide) (x' := (⟨(rd_T38 y378 (ji30)).f0, ji46, (rd_T38 y378 (ji30)).f2, (rd_T38 y378 (ji30)).f3, (rd_T38 y378 (ji30)).f4⟩ : S38)) (k38_mkM _ _ _ (⟨(rd_T38 y378 (ji30)).f0, ji46, (rd_T38 y378 (ji30)).f2, (rd_T38 y378 (ji30)).f3, (rd_T38 y378 (ji30)).f4⟩ : S38) ) (fun _ hk => hk); have hx66_1 := hcc66 1 _ rfl; (try simp only [show (k38).sz = 5 from rfl, Nat.mul_one, Nat.add_zero] at hx66_1); have hf66_1 := hfr66 1; (try simp only [show (k38).sz = 5 from rfl, Nat.mul_one, Nat.add_zero] at hf66_1); clear hcl66 hcc66 hfr66 hM66) | ((with_reducible refine gate_store (t := 3) (p := 154) rfl ?_); refine store_event (t := 3) (p := 154) (v := ?vo_w67) (w1 := (w65.setCell ⟨go41, ((ji30) : Int).toNat * 5 + 1, none⟩ (.int .i64 ji46))) ?hg ?ho ?hn ?hr ?_; (case ho => rfl); (case hg => rfl); (case hn => rfl); (case hr => first | (go_simp; done) | (go_simp; rfl)); intro w67 hw; have hg : w65.grownBy w67 (some go41) := (by rw [hw]; exact HP66.2); have hp_ : Kd.R k38 38 w67 w.heap.size (fun k_ => some k_ ≠ (v365 : Value).ownBlock) (.slice (some ⟨go41, 0, none⟩) y370.length co59) y380 := (by rw [hw, Ny380.out]; exact HP66.1); clear HP66; have n0_ := Aside0.mk (Kd.R_after (v := (.slice (some ⟨go41, 0, none⟩) y370.length co59)) (v1 := (.slice (some ⟨go41, 0, none⟩) y370.length co59)) (ok := (fun _ => True)) (by (with_reducible repeat (first | apply Kd.R_alloc | apply Kd.R_drewN | apply Kd.R_drew)); exact HO366.out) hg (.inl rfl)); have n1_ := Aside0.mk (hp_); have n2_ := Aside0.mk ((by rw [hw]; exact below_set (HB.out) GB41.out : Below w.heap.size w w67)); clear HO366; clear HO372; clear HB; have HO366 := n0_; have HO372 := n1_; have HB := n2_; clear n0_ n1_ n2_; clear hg hw hp_))
                                  go_loopg [23, 24] kj15 (fun kq v23 v24 w' => ∃ (x23_3 : List Int) (x24_3 : Int), v24 = .int .i64 x24_3 ∧ Aside0 (chargeparklaw27_PlanFewer.l0 kq l1 a6 t345 t348 t349 y364 y380 x23_3 x24_3 = some r) ∧ Aside0 (kq ≤ kj15) ∧ Aside0 (Kd.R k38 38 w' w.heap.size (fun k_ => some k_ ≠ ((.slice (some ⟨go41, 0, none⟩) y370.length co59) : Value).ownBlock) v365 y364) ∧ Aside0 (Kd.R k38 38 w' w.heap.size (fun k_ => some k_ ≠ (v365 : Value).ownBlock) (.slice (some ⟨go41, 0, none⟩) y370.length co59) y380) ∧ Aside0 (Kd.R (Kd.int .i64) 3 w' w.heap.size (fun _ => True) v23 x23_3) ∧ Aside0 (Below w.heap.size w w'))
                                  case atStart => exact ⟨(([] : List Int)), (0), (by first | rfl | (simp; done) | (simp [*]; done)), H', ⟨Nat.le_refl _⟩, ⟨by (with_reducible repeat (first | apply Kd.R_alloc | apply Kd.R_drewN | apply Kd.R_drew)); exact Kd.R_mono HO366.out (fun _ hk => hk.2)⟩, ⟨by (with_reducible repeat (first | apply Kd.R_alloc | apply Kd.R_drewN | apply Kd.R_drew)); exact HO372.out⟩, ⟨by first | exact Kd.R_nil _ _ _ _ _ | exact Kd.N_nil _ _ _ _ _ | exact Kd.V_nil _ _ _ _ _ | exact Kd.Q_nil _ _ _ _ _ | exact Kd.S_nil _ _ _ _ _⟩, ⟨by repeat (first | (with_reducible first | exact HB.out | apply below_alloc | apply pw_below_drewN | apply below_drew1) | exact HB.out)⟩⟩
                                  case round =>
                                    clear H'
                                    try clear c1
                                    try clear c2
                                    try clear p2
                                    try clear c3
                                    try clear p3
                                    try clear q3
                                    try clear hx3
                                    try clear c4
                                    try clear p4
                                    try clear q4
                                    try clear hx4
                                    try clear c5
                                    try clear q5
                                    try clear c6
                                    try clear p6
                                    try clear hx6
                                    try clear c10
                                    try clear c11
                                    try clear c13
                                    try clear c17
                                    try clear c18
                                    try clear c18b0
                                    try clear c18b1
                                    try clear c18b2
                                    try clear c19
                                    try clear c19b0
                                    try clear c20
                                    try clear c20b0
                                    try clear c21
                                    try clear c21b0
                                    try clear c22
                                    try clear c22b0
                                    try clear c23
                                    try clear c23b0
                                    try clear c24
                                    try clear c24b0
                                    try clear c25
                                    try clear c27
                                    try clear c27b0
                                    try clear c27b1
                                    try clear c27b2
                                    try clear c28
                                    try clear c28b0
                                    try clear c28b1
                                    try clear c29
                                    try clear c29b0
                                    try clear c29b1
                                    try clear c31
                                    try clear c31b0
                                    try clear c31b1
                                    try clear c32
                                    try clear c32b0
                                    try clear c32b1
                                    try clear c33
                                    try clear c35
                                    try clear c35b0
                                    try clear c35b1
                                    try clear c36
                                    try clear c36b0
                                    try clear c36b1
                                    try clear c37
                                    try clear p37
                                    try clear q37
                                    try clear hx37
                                    try clear c38
                                    try clear c39
                                    try clear c39b0
                                    try clear c41
                                    try clear p41
                                    try clear q41
                                    try clear hx41
                                    try clear hf41
                                    try clear c43
                                    try clear p43
                                    try clear q43
                                    try clear hx43
                                    try clear hf43
                                    try clear c45
                                    try clear p45
                                    try clear q45
                                    try clear hx45
                                    try clear hf45
                                    try clear c47
                                    try clear p47
                                    try clear q47
                                    try clear hx47
                                    try clear hf47
                                    try clear q50
                                    try clear c51
                                    try clear q51
                                    try clear c60
                                    try clear hx60
                                    try clear hf60
                                    try clear c62
                                    try clear hx62
                                    try clear hf62
                                    try clear c64
                                    try clear p64
                                    try clear hx64
                                    try clear hf64
                                    try clear c66
                                    try clear hx66
                                    try clear hf66
                                    try clear hx373_0
                                    try clear hx373_1
                                    try clear hx373_2
                                    try clear hx373_3
                                    try clear hx373_4
                                    try clear hx375_0
                                    try clear hx375_1
                                    try clear hx375_2
                                    try clear hx375_3
                                    try clear hx375_4
                                    try clear hx377_0
                                    try clear hx377_1
                                    try clear hx377_2
                                    try clear hx377_3
                                    try clear hx377_4
                                    try clear hx379_0
                                    try clear hx379_1
                                    try clear hx379_2
                                    try clear hx379_3
                                    try clear hx379_4
                                    try clear hx41_0
                                    try clear hx41_1
                                    try clear hx41_2
                                    try clear hx41_3
                                    try clear hx41_4
                                    try clear hx43_0
                                    try clear hx43_1
                                    try clear hx43_2
                                    try clear hx43_3
                                    try clear hx43_4
                                    try clear hx45_0
                                    try clear hx45_1
                                    try clear hx45_2
                                    try clear hx45_3
                                    try clear hx45_4
                                    try clear hx47_0
                                    try clear hx47_1
                                    try clear hx47_2
                                    try clear hx47_3
                                    try clear hx47_4
                                    try clear hx60_2
                                    try clear hx62_3
                                    try clear hx64_0
                                    try clear hx66_1
                                    try clear p2
                                    try clear p373
                                    try clear p375
                                    try clear p377
                                    try clear p379
                                    try clear p41
                                    try clear p43
                                    try clear p45
                                    try clear p47
                                    try clear q051
                                    try clear q373
                                    try clear q375
                                    try clear q377
                                    try clear q379
                                    try clear q41
                                    try clear q43
                                    try clear q45
                                    try clear q47
                                    try clear q50
                                    try clear q51
                                    obtain ⟨x23_3, x24_3, rfl, HA, HK3, HO_21, HO_22, HO_23, HB⟩ := hrel
                                    have hl22_3 := (Kd.R_reads' HO_22.out).1
                                    rw [hl22_3] at HO_22
                                    (try simp only [hl22_3])
                                    (try simp only [hl22_3] at HO_21)
                                    (try simp only [hl22_3] at HO_23)
                                    cases gk with
                                    | zero => exact absurd HA.out (by simp [chargeparklaw27_PlanFewer.l0])
                                    | succ k3 =>
                                      have H := HA.out
                                      clear HA
                                      simp only [chargeparklaw27_PlanFewer.l0] at H
                                      by_cases c68 : x24_3 < (l1.length : Int)
                                      · rw [if_pos c68] at H
                                        have c68b0 : decide (x24_3 < (l1.length : Int)) = true := decide_eq_true c68
                                        clear c68
                                        by_cases c69 : 0 ≤ x24_3
                                        · rw [if_pos c69] at H
                                          have c69b0 : decide (0 ≤ x24_3) = true := decide_eq_true c69
                                          clear c69
                                          obtain ⟨ji70, hji70⟩ : ∃ j_ : Int, (mn 1000 (wrap64 ((rd l1 x24_3) + (wrap64 (a6 * (Int.tmod x24_3 2)))))) = j_ := ⟨_, rfl⟩
                                          replace H : (if x23_3.length < 17592186044416 then (chargeparklaw27_PlanFewer.l0 k3 l1 a6 t345 t348 t349 y364 y380 (x23_3 ++ [ji70]) (wrap64 (x24_3 + 1))) else (none)) = some r := by first | (rw [hji70] at H; exact H) | (simp only [hji70] at H ⊢; exact H)
                                          have hji70_ : (if (wrap64 ((rd l1 x24_3) + (wrap64 (a6 * (Int.tmod x24_3 2))))) < 1000 then (wrap64 ((rd l1 x24_3) + (wrap64 (a6 * (Int.tmod x24_3 2))))) else 1000) = ji70 := hji70
                                          by_cases c71 : x23_3.length < 17592186044416
                                          · rw [if_pos c71] at H
                                            have LMc71 := Aside0.mk c71
                                            clear c71
                                            obtain ⟨y382, hy382⟩ : ∃ y_ : List Int, y_ = (x23_3 ++ [ji70]) := ⟨_, rfl⟩
                                            replace H : (chargeparklaw27_PlanFewer.l0 k3 l1 a6 t345 t348 t349 y364 y380 y382 (wrap64 (x24_3 + 1))) = some r := by first | (rw [hy382]; with_reducible exact H) | (have H2_ := (Option.bind_some _ _).symm.trans H; rw [hy382]; with_reducible exact H2_) | (have H2_ := (Option.bind_some _ _).symm.trans H; with_reducible exact H2_) | with_reducible exact H | (rw [hy382]; exact H) | exact H
                                            have Ny382 := Aside0.mk hy382
                                            clear hy382
                                            have H' := Aside0.mk H
                                            clear H
                                            have p381 : 0 ≤ (x24_3 : Int) := of_decide_eq_true (by first | (with_reducible assumption) | assumption)
                                            have q381 : x24_3 < (l1.length : Int) := of_decide_eq_true (by first | (with_reducible assumption) | assumption)
                                            obtain ⟨ad381, e381, hx381_0⟩ := Kd.at_int HR1.out x24_3 p381 q381
                                            cases e381
                                            replace hx381_0 := (HB.out.cell (World.block_lt_of_cell? w _ hx381_0)).trans hx381_0
                                            replace p381 := eq_true p381
                                            replace q381 := eq_true q381
                                            go_wp2_with (first | ((with_reducible refine gate_builtin (b := .append) (xs := #[.tmp 161, .tmp 172]) rfl ?_); (try (refine gate_guard (by rfl) ?_; dsimp only)); at_builtin; refine Kd.R_append (Kd.int .i64) (w0 := w) w.heap.size rfl (.tmp 161) (.tmp 172) 23 3 (.int .i64 0) 8 rfl Try.underlying23 info3 rfl (by decide) (by omega) u23 x23_3 ji70 [.int .i64 ji70] (fun _ => True) (fun _ => False) rfl rfl ?aP (fun _ hk => hk.elim) ?aF ?aO ?aB ?aS ?aL ?_; (case aP => exact rfl); (case aB => exact (by repeat (first | (with_reducible first | exact HB.out | apply below_alloc | apply pw_below_drewN | apply below_drew1) | exact HB.out))); (case aF => exact (fun _ _ => trivial)); (case aO => exact (by (with_reducible repeat (first | apply Kd.R_alloc | apply Kd.R_drewN | apply Kd.R_drew)); exact HO_23.out)); (case aS => exact (below_size (by repeat (first | (with_reducible first | exact HB.out | apply below_alloc | apply pw_below_drewN | apply below_drew1) | exact HB.out)))); (case aL => have := LMc71.out; omega); intro v383 w72 ho hb hg hat; rw [← Ny382.out] at ho; have n0_ := Aside0.mk (Kd.R_over' (by (with_reducible repeat (first | apply Kd.R_alloc | apply Kd.R_drewN | apply Kd.R_drew)); exact HO_21.out) (Kd.R_typed (by (with_reducible repeat (first | apply Kd.R_alloc | apply Kd.R_drewN | apply Kd.R_drew)); exact HO_23.out)) (by decide) hg); have n1_ := Aside0.mk (Kd.R_over' (by (with_reducible repeat (first | apply Kd.R_alloc | apply Kd.R_drewN | apply Kd.R_drew)); exact HO_22.out) (Kd.R_typed (by (with_reducible repeat (first | apply Kd.R_alloc | apply Kd.R_drewN | apply Kd.R_drew)); exact HO_23.out)) (by decide) hg); have n2_ := Aside0.mk (hb); have n3_ := Aside0.mk (ho); clear HO_21; clear HO_22; clear HB; clear HO_23; have HO_21 := n0_; have HO_22 := n1_; have HB := n2_; have HO384 := n3_; clear n0_ n1_ n2_ n3_; clear ho hb hg hat))
                                            (try simp only [← hl22_3])
                                            go_roundg k3
                                            case measure => have := HJ9.out; have := HJ15.out; have := HK3.out; omega
                                            case rel => exact ⟨(y382), (wrap64 (x24_3 + 1)), (by first | rfl | (simp; done) | (simp [*]; done)), H', ⟨by have := HJ9.out; have := HJ15.out; have := HK3.out; omega⟩, ⟨by (try simp only [hl22_3]); (with_reducible repeat (first | apply Kd.R_alloc | apply Kd.R_drewN | apply Kd.R_drew)); exact HO_21.out⟩, ⟨by (try simp only [hl22_3]); (with_reducible repeat (first | apply Kd.R_alloc | apply Kd.R_drewN | apply Kd.R_drew)); exact HO_22.out⟩, ⟨by (try simp only [hl22_3]); (with_reducible repeat (first | apply Kd.R_alloc | apply Kd.R_drewN | apply Kd.R_drew)); exact HO384.out⟩, ⟨by repeat (first | (with_reducible first | exact HB.out | apply below_alloc | apply pw_below_drewN | apply below_drew1) | exact HB.out)⟩⟩
                                          · rw [if_neg c71] at H
                                            exact absurd H (by simp)
                                        · rw [if_neg c69] at H
                                          exact absurd H (by simp)
                                      · rw [if_neg c68] at H
                                        have c68b0 : decide (x24_3 < (l1.length : Int)) = false := decide_eq_false c68
                                        clear c68
                                        replace H := Option.bind_eq_some_iff.mp H
                                        obtain ⟨⟨t385, t386⟩, A730, H⟩ := H
                                        replace H : ((chargeparklaw27_met.f y380 x23_3).bind fun bt387 => (if t345 = true then (if t349 = true then (if t386 = true then (if bt387.2 = true then (if t348 = true then (if t385 = true then (some bt387.1) else (some false)) else (some true)) else (some false)) else (some false)) else (some false)) else (some false))) = some r := H
                                        have A73 := Aside0.mk A730
                                        clear A730
                                        replace H := Option.bind_eq_some_iff.mp H
                                        obtain ⟨⟨t387, t388⟩, A740, H⟩ := H
                                        replace H : (if t345 = true then (if t349 = true then (if t386 = true then (if t388 = true then (if t348 = true then (if t385 = true then (some t387) else (some false)) else (some true)) else (some false)) else (some false)) else (some false)) else (some false)) = some r := H
                                        have A74 := Aside0.mk A740
                                        clear A740
                                        by_cases c75 : t345 = true
                                        · subst c75
                                          have H1 : (if t349 = true then (if t386 = true then (if t388 = true then (if t348 = true then (if t385 = true then (some t387) else (some false)) else (some true)) else (some false)) else (some false)) else (some false)) = some r := by rw [if_pos rfl] at H; exact H
                                          clear H
                                          have H := H1
                                          clear H1
                                          by_cases c76 : t349 = true
                                          · subst c76
                                            have H1 : (if t386 = true then (if t388 = true then (if t348 = true then (if t385 = true then (some t387) else (some false)) else (some true)) else (some false)) else (some false)) = some r := by rw [if_pos rfl] at H; exact H
                                            clear H
                                            have H := H1
                                            clear H1
                                            by_cases c77 : t386 = true
                                            · subst c77
                                              have H1 : (if t388 = true then (if t348 = true then (if t385 = true then (some t387) else (some false)) else (some true)) else (some false)) = some r := by rw [if_pos rfl] at H; exact H
                                              clear H
                                              have H := H1
                                              clear H1
                                              by_cases c78 : t388 = true
                                              · subst c78
                                                have H1 : (if t348 = true then (if t385 = true then (some t387) else (some false)) else (some true)) = some r := by rw [if_pos rfl] at H; exact H
                                                clear H
                                                have H := H1
                                                clear H1
                                                by_cases c79 : t348 = true
                                                · subst c79
                                                  have H1 : (if t385 = true then (some t387) else (some false)) = some r := by rw [if_pos rfl] at H; exact H
                                                  clear H
                                                  have H := H1
                                                  clear H1
                                                  by_cases c80 : t385 = true
                                                  · subst c80
                                                    have H1 : (some t387) = some r := by rw [if_pos rfl] at H; exact H
                                                    clear H
                                                    have H := H1
                                                    clear H1
                                                    obtain rfl := Option.some.inj H
                                                    obtain ⟨Ao81, co81, eo81⟩ := Kd.R_slice HO_21.out
                                                    subst eo81
                                                    go_wp2_with (first | ((with_reducible refine gate_callee (f := 20) rfl ?_); refine goesL_ (some 177) rfl rfl Try.func20 (by kernel_rfl) rfl #[.slice Ao81 y364.length co81, .slice A1 l1.length c1] rfl (by (try simp only [List.map_toArray, List.map_cons, List.map_nil]); first | done | rfl | (simp only [List.length_drop, List.length_take]; rfl)) ?_; (with_reducible refine (chargeparklaw27_met.calls _ _ y364 _ _ l1 true true _ ?side1 ?side2 ?side3 ?side4 A73.out).mono ?_); (case side1 => repeat (first | exact (Kd.R_reads' HO_21.out).2.2 | (with_reducible refine Kd.C_alloc ?_ _) | (with_reducible refine Kd.C_drewN ?_ _) | (with_reducible refine Kd.C_drew ?_))); (case side2 => exact (Kd.R_reads' HO_21.out).2.1); (case side3 => repeat (first | exact (Kd.C_below HR1.out HB.out) | (with_reducible refine Kd.C_alloc ?_ _) | (with_reducible refine Kd.C_drewN ?_ _) | (with_reducible refine Kd.C_drew ?_))); (case side4 => exact HC1.out); rintro e w82 ⟨rfl, hb⟩; refine ⟨_, rfl, ?_⟩; have n0_ := Aside0.mk (Kd.R_below (by (with_reducible repeat (first | apply Kd.R_alloc | apply Kd.R_drewN | apply Kd.R_drew)); exact HO_21.out) hb); have n1_ := Aside0.mk (Kd.R_below (by (with_reducible repeat (first | apply Kd.R_alloc | apply Kd.R_drewN | apply Kd.R_drew)); exact HO_22.out) hb); have n2_ := Aside0.mk (Kd.R_below (by (with_reducible repeat (first | apply Kd.R_alloc | apply Kd.R_drewN | apply Kd.R_drew)); exact HO_23.out) hb); have n3_ := Aside0.mk (below_step (by repeat (first | (with_reducible first | exact HB.out | apply below_alloc | apply pw_below_drewN | apply below_drew1) | exact HB.out)) hb); clear HO_21; clear HO_22; clear HO_23; clear HB; have HO_21 := n0_; have HO_22 := n1_; have HO_23 := n2_; have HB := n3_; clear n0_ n1_ n2_ n3_; (try clear hb); (try clear hb2); (try clear hk); (try clear hi); obtain ⟨Ao83, co83, eo83⟩ := Kd.R_slice HO_23.out; subst eo83) | ((with_reducible refine gate_callee (f := 20) rfl ?_); refine goesL_ (some 183) rfl rfl Try.func20 (by kernel_rfl) rfl #[.slice (some ⟨go41, 0, none⟩) y380.length co59, .slice Ao83 x23_3.length co83] rfl (by (try simp only [List.map_toArray, List.map_cons, List.map_nil]); first | done | rfl | (simp only [List.length_drop, List.length_take]; rfl)) ?_; (with_reducible refine (chargeparklaw27_met.calls _ _ y380 _ _ x23_3 t387 true _ ?side1 ?side2 ?side3 ?side4 A74.out).mono ?_); (case side1 => repeat (first | exact (Kd.R_reads' HO_22.out).2.2 | (with_reducible refine Kd.C_alloc ?_ _) | (with_reducible refine Kd.C_drewN ?_ _) | (with_reducible refine Kd.C_drew ?_))); (case side2 => exact (Kd.R_reads' HO_22.out).2.1); (case side3 => repeat (first | exact (Kd.R_reads' HO_23.out).2.2 | (with_reducible refine Kd.C_alloc ?_ _) | (with_reducible refine Kd.C_drewN ?_ _) | (with_reducible refine Kd.C_drew ?_))); (case side4 => exact (Kd.R_reads' HO_23.out).2.1); rintro e w84 ⟨rfl, hb⟩; refine ⟨_, rfl, ?_⟩; have n0_ := Aside0.mk (Kd.R_below (by (with_reducible repeat (first | apply Kd.R_alloc | apply Kd.R_drewN | apply Kd.R_drew)); exact HO_21.out) hb); have n1_ := Aside0.mk (Kd.R_below (by (with_reducible repeat (first | apply Kd.R_alloc | apply Kd.R_drewN | apply Kd.R_drew)); exact HO_22.out) hb); have n2_ := Aside0.mk (Kd.R_below (by (with_reducible repeat (first | apply Kd.R_alloc | apply Kd.R_drewN | apply Kd.R_drew)); exact HO_23.out) hb); have n3_ := Aside0.mk (below_step (by repeat (first | (with_reducible first | exact HB.out | apply below_alloc | apply pw_below_drewN | apply below_drew1) | exact HB.out)) hb); clear HO_21; clear HO_22; clear HO_23; clear HB; have HO_21 := n0_; have HO_22 := n1_; have HO_23 := n2_; have HB := n3_; clear n0_ n1_ n2_ n3_; (try clear hb); (try clear hb2); (try clear hk); (try clear hi)))
                                                    go_ret
                                                    exact ⟨by first | rfl | (simp [errW_none, errW_some] <;> rfl) | (simp only [← hji30, ← hji34, ← hji40, ← hji42, ← hji44, ← hji46]; first | rfl | (simp [errW_none, errW_some] <;> rfl)) | (simp [*, errW_none, errW_some] <;> rfl), by repeat (first | (with_reducible first | exact HB.out | apply below_alloc | apply pw_below_drewN | apply below_drew1) | exact HB.out)⟩
                                                  · replace c80 := Bool.eq_false_iff.mpr c80
                                                    subst c80
                                                    have H1 : (some false) = some r := by rw [if_neg (show ¬ (false = true) by decide)] at H; exact H
                                                    clear H
                                                    have H := H1
                                                    clear H1
                                                    obtain rfl := Option.some.inj H
                                                    obtain ⟨Ao85, co85, eo85⟩ := Kd.R_slice HO_21.out
                                                    subst eo85
                                                    go_wp2_with (first | ((with_reducible refine gate_callee (f := 20) rfl ?_); refine goesL_ (some 177) rfl rfl Try.func20 (by kernel_rfl) rfl #[.slice Ao85 y364.length co85, .slice A1 l1.length c1] rfl (by (try simp only [List.map_toArray, List.map_cons, List.map_nil]); first | done | rfl | (simp only [List.length_drop, List.length_take]; rfl)) ?_; (with_reducible refine (chargeparklaw27_met.calls _ _ y364 _ _ l1 false true _ ?side1 ?side2 ?side3 ?side4 A73.out).mono ?_); (case side1 => repeat (first | exact (Kd.R_reads' HO_21.out).2.2 | (with_reducible refine Kd.C_alloc ?_ _) | (with_reducible refine Kd.C_drewN ?_ _) | (with_reducible refine Kd.C_drew ?_))); (case side2 => exact (Kd.R_reads' HO_21.out).2.1); (case side3 => repeat (first | exact (Kd.C_below HR1.out HB.out) | (with_reducible refine Kd.C_alloc ?_ _) | (with_reducible refine Kd.C_drewN ?_ _) | (with_reducible refine Kd.C_drew ?_))); (case side4 => exact HC1.out); rintro e w86 ⟨rfl, hb⟩; refine ⟨_, rfl, ?_⟩; have n0_ := Aside0.mk (Kd.R_below (by (with_reducible repeat (first | apply Kd.R_alloc | apply Kd.R_drewN | apply Kd.R_drew)); exact HO_21.out) hb); have n1_ := Aside0.mk (Kd.R_below (by (with_reducible repeat (first | apply Kd.R_alloc | apply Kd.R_drewN | apply Kd.R_drew)); exact HO_22.out) hb); have n2_ := Aside0.mk (Kd.R_below (by (with_reducible repeat (first | apply Kd.R_alloc | apply Kd.R_drewN | apply Kd.R_drew)); exact HO_23.out) hb); have n3_ := Aside0.mk (below_step (by repeat (first | (with_reducible first | exact HB.out | apply below_alloc | apply pw_below_drewN | apply below_drew1) | exact HB.out)) hb); clear HO_21; clear HO_22; clear HO_23; clear HB; have HO_21 := n0_; have HO_22 := n1_; have HO_23 := n2_; have HB := n3_; clear n0_ n1_ n2_ n3_; (try clear hb); (try clear hb2); (try clear hk); (try clear hi); obtain ⟨Ao87, co87, eo87⟩ := Kd.R_slice HO_23.out; subst eo87) | ((with_reducible refine gate_callee (f := 20) rfl ?_); refine goesL_ (some 183) rfl rfl Try.func20 (by kernel_rfl) rfl #[.slice (some ⟨go41, 0, none⟩) y380.length co59, .slice Ao87 x23_3.length co87] rfl (by (try simp only [List.map_toArray, List.map_cons, List.map_nil]); first | done | rfl | (simp only [List.length_drop, List.length_take]; rfl)) ?_; (with_reducible refine (chargeparklaw27_met.calls _ _ y380 _ _ x23_3 t387 true _ ?side1 ?side2 ?side3 ?side4 A74.out).mono ?_); (case side1 => repeat (first | exact (Kd.R_reads' HO_22.out).2.2 | (with_reducible refine Kd.C_alloc ?_ _) | (with_reducible refine Kd.C_drewN ?_ _) | (with_reducible refine Kd.C_drew ?_))); (case side2 => exact (Kd.R_reads' HO_22.out).2.1); (case side3 => repeat (first | exact (Kd.R_reads' HO_23.out).2.2 | (with_reducible refine Kd.C_alloc ?_ _) | (with_reducible refine Kd.C_drewN ?_ _) | (with_reducible refine Kd.C_drew ?_))); (case side4 => exact (Kd.R_reads' HO_23.out).2.1); rintro e w88 ⟨rfl, hb⟩; refine ⟨_, rfl, ?_⟩; have n0_ := Aside0.mk (Kd.R_below (by (with_reducible repeat (first | apply Kd.R_alloc | apply Kd.R_drewN | apply Kd.R_drew)); exact HO_21.out) hb); have n1_ := Aside0.mk (Kd.R_below (by (with_reducible repeat (first | apply Kd.R_alloc | apply Kd.R_drewN | apply Kd.R_drew)); exact HO_22.out) hb); have n2_ := Aside0.mk (Kd.R_below (by (with_reducible repeat (first | apply Kd.R_alloc | apply Kd.R_drewN | apply Kd.R_drew)); exact HO_23.out) hb); have n3_ := Aside0.mk (below_step (by repeat (first | (with_reducible first | exact HB.out | apply below_alloc | apply pw_below_drewN | apply below_drew1) | exact HB.out)) hb); clear HO_21; clear HO_22; clear HO_23; clear HB; have HO_21 := n0_; have HO_22 := n1_; have HO_23 := n2_; have HB := n3_; clear n0_ n1_ n2_ n3_; (try clear hb); (try clear hb2); (try clear hk); (try clear hi)))
                                                    go_ret
                                                    exact ⟨by first | rfl | (simp [errW_none, errW_some] <;> rfl) | (simp only [← hji30, ← hji34, ← hji40, ← hji42, ← hji44, ← hji46]; first | rfl | (simp [errW_none, errW_some] <;> rfl)) | (simp [*, errW_none, errW_some] <;> rfl), by repeat (first | (with_reducible first | exact HB.out | apply below_alloc | apply pw_below_drewN | apply below_drew1) | exact HB.out)⟩
                                                · replace c79 := Bool.eq_false_iff.mpr c79
                                                  subst c79
                                                  have H1 : (some true) = some r := by rw [if_neg (show ¬ (false = true) by decide)] at H; exact H
                                                  clear H
                                                  have H := H1
                                                  clear H1
                                                  obtain rfl := Option.some.inj H
                                                  obtain ⟨Ao89, co89, eo89⟩ := Kd.R_slice HO_21.out
                                                  subst eo89
                                                  go_wp2_with (first | ((with_reducible refine gate_callee (f := 20) rfl ?_); refine goesL_ (some 177) rfl rfl Try.func20 (by kernel_rfl) rfl #[.slice Ao89 y364.length co89, .slice A1 l1.length c1] rfl (by (try simp only [List.map_toArray, List.map_cons, List.map_nil]); first | done | rfl | (simp only [List.length_drop, List.length_take]; rfl)) ?_; (with_reducible refine (chargeparklaw27_met.calls _ _ y364 _ _ l1 t385 true _ ?side1 ?side2 ?side3 ?side4 A73.out).mono ?_); (case side1 => repeat (first | exact (Kd.R_reads' HO_21.out).2.2 | (with_reducible refine Kd.C_alloc ?_ _) | (with_reducible refine Kd.C_drewN ?_ _) | (with_reducible refine Kd.C_drew ?_))); (case side2 => exact (Kd.R_reads' HO_21.out).2.1); (case side3 => repeat (first | exact (Kd.C_below HR1.out HB.out) | (with_reducible refine Kd.C_alloc ?_ _) | (with_reducible refine Kd.C_drewN ?_ _) | (with_reducible refine Kd.C_drew ?_))); (case side4 => exact HC1.out); rintro e w90 ⟨rfl, hb⟩; refine ⟨_, rfl, ?_⟩; have n0_ := Aside0.mk (Kd.R_below (by (with_reducible repeat (first | apply Kd.R_alloc | apply Kd.R_drewN | apply Kd.R_drew)); exact HO_21.out) hb); have n1_ := Aside0.mk (Kd.R_below (by (with_reducible repeat (first | apply Kd.R_alloc | apply Kd.R_drewN | apply Kd.R_drew)); exact HO_22.out) hb); have n2_ := Aside0.mk (Kd.R_below (by (with_reducible repeat (first | apply Kd.R_alloc | apply Kd.R_drewN | apply Kd.R_drew)); exact HO_23.out) hb); have n3_ := Aside0.mk (below_step (by repeat (first | (with_reducible first | exact HB.out | apply below_alloc | apply pw_below_drewN | apply below_drew1) | exact HB.out)) hb); clear HO_21; clear HO_22; clear HO_23; clear HB; have HO_21 := n0_; have HO_22 := n1_; have HO_23 := n2_; have HB := n3_; clear n0_ n1_ n2_ n3_; (try clear hb); (try clear hb2); (try clear hk); (try clear hi); obtain ⟨Ao91, co91, eo91⟩ := Kd.R_slice HO_23.out; subst eo91) | ((with_reducible refine gate_callee (f := 20) rfl ?_); refine goesL_ (some 183) rfl rfl Try.func20 (by kernel_rfl) rfl #[.slice (some ⟨go41, 0, none⟩) y380.length co59, .slice Ao91 x23_3.length co91] rfl (by (try simp only [List.map_toArray, List.map_cons, List.map_nil]); first | done | rfl | (simp only [List.length_drop, List.length_take]; rfl)) ?_; (with_reducible refine (chargeparklaw27_met.calls _ _ y380 _ _ x23_3 t387 true _ ?side1 ?side2 ?side3 ?side4 A74.out).mono ?_); (case side1 => repeat (first | exact (Kd.R_reads' HO_22.out).2.2 | (with_reducible refine Kd.C_alloc ?_ _) | (with_reducible refine Kd.C_drewN ?_ _) | (with_reducible refine Kd.C_drew ?_))); (case side2 => exact (Kd.R_reads' HO_22.out).2.1); (case side3 => repeat (first | exact (Kd.R_reads' HO_23.out).2.2 | (with_reducible refine Kd.C_alloc ?_ _) | (with_reducible refine Kd.C_drewN ?_ _) | (with_reducible refine Kd.C_drew ?_))); (case side4 => exact (Kd.R_reads' HO_23.out).2.1); rintro e w92 ⟨rfl, hb⟩; refine ⟨_, rfl, ?_⟩; have n0_ := Aside0.mk (Kd.R_below (by (with_reducible repeat (first | apply Kd.R_alloc | apply Kd.R_drewN | apply Kd.R_drew)); exact HO_21.out) hb); have n1_ := Aside0.mk (Kd.R_below (by (with_reducible repeat (first | apply Kd.R_alloc | apply Kd.R_drewN | apply Kd.R_drew)); exact HO_22.out) hb); have n2_ := Aside0.mk (Kd.R_below (by (with_reducible repeat (first | apply Kd.R_alloc | apply Kd.R_drewN | apply Kd.R_drew)); exact HO_23.out) hb); have n3_ := Aside0.mk (below_step (by repeat (first | (with_reducible first | exact HB.out | apply below_alloc | apply pw_below_drewN | apply below_drew1) | exact HB.out)) hb); clear HO_21; clear HO_22; clear HO_23; clear HB; have HO_21 := n0_; have HO_22 := n1_; have HO_23 := n2_; have HB := n3_; clear n0_ n1_ n2_ n3_; (try clear hb); (try clear hb2); (try clear hk); (try clear hi)))
                                                  go_ret
                                                  exact ⟨by first | rfl | (simp [errW_none, errW_some] <;> rfl) | (simp only [← hji30, ← hji34, ← hji40, ← hji42, ← hji44, ← hji46]; first | rfl | (simp [errW_none, errW_some] <;> rfl)) | (simp [*, errW_none, errW_some] <;> rfl), by repeat (first | (with_reducible first | exact HB.out | apply below_alloc | apply pw_below_drewN | apply below_drew1) | exact HB.out)⟩
                                              · replace c78 := Bool.eq_false_iff.mpr c78
                                                subst c78
                                                have H1 : (some false) = some r := by rw [if_neg (show ¬ (false = true) by decide)] at H; exact H
                                                clear H
                                                have H := H1
                                                clear H1
                                                obtain rfl := Option.some.inj H
                                                obtain ⟨Ao93, co93, eo93⟩ := Kd.R_slice HO_21.out
                                                subst eo93
                                                go_wp2_with (first | ((with_reducible refine gate_callee (f := 20) rfl ?_); refine goesL_ (some 177) rfl rfl Try.func20 (by kernel_rfl) rfl #[.slice Ao93 y364.length co93, .slice A1 l1.length c1] rfl (by (try simp only [List.map_toArray, List.map_cons, List.map_nil]); first | done | rfl | (simp only [List.length_drop, List.length_take]; rfl)) ?_; (with_reducible refine (chargeparklaw27_met.calls _ _ y364 _ _ l1 t385 true _ ?side1 ?side2 ?side3 ?side4 A73.out).mono ?_); (case side1 => repeat (first | exact (Kd.R_reads' HO_21.out).2.2 | (with_reducible refine Kd.C_alloc ?_ _) | (with_reducible refine Kd.C_drewN ?_ _) | (with_reducible refine Kd.C_drew ?_))); (case side2 => exact (Kd.R_reads' HO_21.out).2.1); (case side3 => repeat (first | exact (Kd.C_below HR1.out HB.out) | (with_reducible refine Kd.C_alloc ?_ _) | (with_reducible refine Kd.C_drewN ?_ _) | (with_reducible refine Kd.C_drew ?_))); (case side4 => exact HC1.out); rintro e w94 ⟨rfl, hb⟩; refine ⟨_, rfl, ?_⟩; have n0_ := Aside0.mk (Kd.R_below (by (with_reducible repeat (first | apply Kd.R_alloc | apply Kd.R_drewN | apply Kd.R_drew)); exact HO_21.out) hb); have n1_ := Aside0.mk (Kd.R_below (by (with_reducible repeat (first | apply Kd.R_alloc | apply Kd.R_drewN | apply Kd.R_drew)); exact HO_22.out) hb); have n2_ := Aside0.mk (Kd.R_below (by (with_reducible repeat (first | apply Kd.R_alloc | apply Kd.R_drewN | apply Kd.R_drew)); exact HO_23.out) hb); have n3_ := Aside0.mk (below_step (by repeat (first | (with_reducible first | exact HB.out | apply below_alloc | apply pw_below_drewN | apply below_drew1) | exact HB.out)) hb); clear HO_21; clear HO_22; clear HO_23; clear HB; have HO_21 := n0_; have HO_22 := n1_; have HO_23 := n2_; have HB := n3_; clear n0_ n1_ n2_ n3_; (try clear hb); (try clear hb2); (try clear hk); (try clear hi); obtain ⟨Ao95, co95, eo95⟩ := Kd.R_slice HO_23.out; subst eo95) | ((with_reducible refine gate_callee (f := 20) rfl ?_); refine goesL_ (some 183) rfl rfl Try.func20 (by kernel_rfl) rfl #[.slice (some ⟨go41, 0, none⟩) y380.length co59, .slice Ao95 x23_3.length co95] rfl (by (try simp only [List.map_toArray, List.map_cons, List.map_nil]); first | done | rfl | (simp only [List.length_drop, List.length_take]; rfl)) ?_; (with_reducible refine (chargeparklaw27_met.calls _ _ y380 _ _ x23_3 t387 false _ ?side1 ?side2 ?side3 ?side4 A74.out).mono ?_); (case side1 => repeat (first | exact (Kd.R_reads' HO_22.out).2.2 | (with_reducible refine Kd.C_alloc ?_ _) | (with_reducible refine Kd.C_drewN ?_ _) | (with_reducible refine Kd.C_drew ?_))); (case side2 => exact (Kd.R_reads' HO_22.out).2.1); (case side3 => repeat (first | exact (Kd.R_reads' HO_23.out).2.2 | (with_reducible refine Kd.C_alloc ?_ _) | (with_reducible refine Kd.C_drewN ?_ _) | (with_reducible refine Kd.C_drew ?_))); (case side4 => exact (Kd.R_reads' HO_23.out).2.1); rintro e w96 ⟨rfl, hb⟩; refine ⟨_, rfl, ?_⟩; have n0_ := Aside0.mk (Kd.R_below (by (with_reducible repeat (first | apply Kd.R_alloc | apply Kd.R_drewN | apply Kd.R_drew)); exact HO_21.out) hb); have n1_ := Aside0.mk (Kd.R_below (by (with_reducible repeat (first | apply Kd.R_alloc | apply Kd.R_drewN | apply Kd.R_drew)); exact HO_22.out) hb); have n2_ := Aside0.mk (Kd.R_below (by (with_reducible repeat (first | apply Kd.R_alloc | apply Kd.R_drewN | apply Kd.R_drew)); exact HO_23.out) hb); have n3_ := Aside0.mk (below_step (by repeat (first | (with_reducible first | exact HB.out | apply below_alloc | apply pw_below_drewN | apply below_drew1) | exact HB.out)) hb); clear HO_21; clear HO_22; clear HO_23; clear HB; have HO_21 := n0_; have HO_22 := n1_; have HO_23 := n2_; have HB := n3_; clear n0_ n1_ n2_ n3_; (try clear hb); (try clear hb2); (try clear hk); (try clear hi)))
                                                go_ret
                                                exact ⟨by first | rfl | (simp [errW_none, errW_some] <;> rfl) | (simp only [← hji30, ← hji34, ← hji40, ← hji42, ← hji44, ← hji46]; first | rfl | (simp [errW_none, errW_some] <;> rfl)) | (simp [*, errW_none, errW_some] <;> rfl), by repeat (first | (with_reducible first | exact HB.out | apply below_alloc | apply pw_below_drewN | apply below_drew1) | exact HB.out)⟩
                                            · replace c77 := Bool.eq_false_iff.mpr c77
                                              subst c77
                                              have H1 : (some false) = some r := by rw [if_neg (show ¬ (false = true) by decide)] at H; exact H
                                              clear H
                                              have H := H1
                                              clear H1
                                              obtain rfl := Option.some.inj H
                                              obtain ⟨Ao97, co97, eo97⟩ := Kd.R_slice HO_21.out
                                              subst eo97
                                              go_wp2_with (first | ((with_reducible refine gate_callee (f := 20) rfl ?_); refine goesL_ (some 177) rfl rfl Try.func20 (by kernel_rfl) rfl #[.slice Ao97 y364.length co97, .slice A1 l1.length c1] rfl (by (try simp only [List.map_toArray, List.map_cons, List.map_nil]); first | done | rfl | (simp only [List.length_drop, List.length_take]; rfl)) ?_; (with_reducible refine (chargeparklaw27_met.calls _ _ y364 _ _ l1 t385 false _ ?side1 ?side2 ?side3 ?side4 A73.out).mono ?_); (case side1 => repeat (first | exact (Kd.R_reads' HO_21.out).2.2 | (with_reducible refine Kd.C_alloc ?_ _) | (with_reducible refine Kd.C_drewN ?_ _) | (with_reducible refine Kd.C_drew ?_))); (case side2 => exact (Kd.R_reads' HO_21.out).2.1); (case side3 => repeat (first | exact (Kd.C_below HR1.out HB.out) | (with_reducible refine Kd.C_alloc ?_ _) | (with_reducible refine Kd.C_drewN ?_ _) | (with_reducible refine Kd.C_drew ?_))); (case side4 => exact HC1.out); rintro e w98 ⟨rfl, hb⟩; refine ⟨_, rfl, ?_⟩; have n0_ := Aside0.mk (Kd.R_below (by (with_reducible repeat (first | apply Kd.R_alloc | apply Kd.R_drewN | apply Kd.R_drew)); exact HO_21.out) hb); have n1_ := Aside0.mk (Kd.R_below (by (with_reducible repeat (first | apply Kd.R_alloc | apply Kd.R_drewN | apply Kd.R_drew)); exact HO_22.out) hb); have n2_ := Aside0.mk (Kd.R_below (by (with_reducible repeat (first | apply Kd.R_alloc | apply Kd.R_drewN | apply Kd.R_drew)); exact HO_23.out) hb); have n3_ := Aside0.mk (below_step (by repeat (first | (with_reducible first | exact HB.out | apply below_alloc | apply pw_below_drewN | apply below_drew1) | exact HB.out)) hb); clear HO_21; clear HO_22; clear HO_23; clear HB; have HO_21 := n0_; have HO_22 := n1_; have HO_23 := n2_; have HB := n3_; clear n0_ n1_ n2_ n3_; (try clear hb); (try clear hb2); (try clear hk); (try clear hi); obtain ⟨Ao99, co99, eo99⟩ := Kd.R_slice HO_23.out; subst eo99) | ((with_reducible refine gate_callee (f := 20) rfl ?_); refine goesL_ (some 183) rfl rfl Try.func20 (by kernel_rfl) rfl #[.slice (some ⟨go41, 0, none⟩) y380.length co59, .slice Ao99 x23_3.length co99] rfl (by (try simp only [List.map_toArray, List.map_cons, List.map_nil]); first | done | rfl | (simp only [List.length_drop, List.length_take]; rfl)) ?_; (with_reducible refine (chargeparklaw27_met.calls _ _ y380 _ _ x23_3 t387 t388 _ ?side1 ?side2 ?side3 ?side4 A74.out).mono ?_); (case side1 => repeat (first | exact (Kd.R_reads' HO_22.out).2.2 | (with_reducible refine Kd.C_alloc ?_ _) | (with_reducible refine Kd.C_drewN ?_ _) | (with_reducible refine Kd.C_drew ?_))); (case side2 => exact (Kd.R_reads' HO_22.out).2.1); (case side3 => repeat (first | exact (Kd.R_reads' HO_23.out).2.2 | (with_reducible refine Kd.C_alloc ?_ _) | (with_reducible refine Kd.C_drewN ?_ _) | (with_reducible refine Kd.C_drew ?_))); (case side4 => exact (Kd.R_reads' HO_23.out).2.1); rintro e w100 ⟨rfl, hb⟩; refine ⟨_, rfl, ?_⟩; have n0_ := Aside0.mk (Kd.R_below (by (with_reducible repeat (first | apply Kd.R_alloc | apply Kd.R_drewN | apply Kd.R_drew)); exact HO_21.out) hb); have n1_ := Aside0.mk (Kd.R_below (by (with_reducible repeat (first | apply Kd.R_alloc | apply Kd.R_drewN | apply Kd.R_drew)); exact HO_22.out) hb); have n2_ := Aside0.mk (Kd.R_below (by (with_reducible repeat (first | apply Kd.R_alloc | apply Kd.R_drewN | apply Kd.R_drew)); exact HO_23.out) hb); have n3_ := Aside0.mk (below_step (by repeat (first | (with_reducible first | exact HB.out | apply below_alloc | apply pw_below_drewN | apply below_drew1) | exact HB.out)) hb); clear HO_21; clear HO_22; clear HO_23; clear HB; have HO_21 := n0_; have HO_22 := n1_; have HO_23 := n2_; have HB := n3_; clear n0_ n1_ n2_ n3_; (try clear hb); (try clear hb2); (try clear hk); (try clear hi)))
                                              go_ret
                                              exact ⟨by first | rfl | (simp [errW_none, errW_some] <;> rfl) | (simp only [← hji30, ← hji34, ← hji40, ← hji42, ← hji44, ← hji46]; first | rfl | (simp [errW_none, errW_some] <;> rfl)) | (simp [*, errW_none, errW_some] <;> rfl), by repeat (first | (with_reducible first | exact HB.out | apply below_alloc | apply pw_below_drewN | apply below_drew1) | exact HB.out)⟩
                                          · replace c76 := Bool.eq_false_iff.mpr c76
                                            subst c76
                                            have H1 : (some false) = some r := by rw [if_neg (show ¬ (false = true) by decide)] at H; exact H
                                            clear H
                                            have H := H1
                                            clear H1
                                            obtain rfl := Option.some.inj H
                                            obtain ⟨Ao101, co101, eo101⟩ := Kd.R_slice HO_21.out
                                            subst eo101
                                            go_wp2_with (first | ((with_reducible refine gate_callee (f := 20) rfl ?_); refine goesL_ (some 177) rfl rfl Try.func20 (by kernel_rfl) rfl #[.slice Ao101 y364.length co101, .slice A1 l1.length c1] rfl (by (try simp only [List.map_toArray, List.map_cons, List.map_nil]); first | done | rfl | (simp only [List.length_drop, List.length_take]; rfl)) ?_; (with_reducible refine (chargeparklaw27_met.calls _ _ y364 _ _ l1 t385 t386 _ ?side1 ?side2 ?side3 ?side4 A73.out).mono ?_); (case side1 => repeat (first | exact (Kd.R_reads' HO_21.out).2.2 | (with_reducible refine Kd.C_alloc ?_ _) | (with_reducible refine Kd.C_drewN ?_ _) | (with_reducible refine Kd.C_drew ?_))); (case side2 => exact (Kd.R_reads' HO_21.out).2.1); (case side3 => repeat (first | exact (Kd.C_below HR1.out HB.out) | (with_reducible refine Kd.C_alloc ?_ _) | (with_reducible refine Kd.C_drewN ?_ _) | (with_reducible refine Kd.C_drew ?_))); (case side4 => exact HC1.out); rintro e w102 ⟨rfl, hb⟩; refine ⟨_, rfl, ?_⟩; have n0_ := Aside0.mk (Kd.R_below (by (with_reducible repeat (first | apply Kd.R_alloc | apply Kd.R_drewN | apply Kd.R_drew)); exact HO_21.out) hb); have n1_ := Aside0.mk (Kd.R_below (by (with_reducible repeat (first | apply Kd.R_alloc | apply Kd.R_drewN | apply Kd.R_drew)); exact HO_22.out) hb); have n2_ := Aside0.mk (Kd.R_below (by (with_reducible repeat (first | apply Kd.R_alloc | apply Kd.R_drewN | apply Kd.R_drew)); exact HO_23.out) hb); have n3_ := Aside0.mk (below_step (by repeat (first | (with_reducible first | exact HB.out | apply below_alloc | apply pw_below_drewN | apply below_drew1) | exact HB.out)) hb); clear HO_21; clear HO_22; clear HO_23; clear HB; have HO_21 := n0_; have HO_22 := n1_; have HO_23 := n2_; have HB := n3_; clear n0_ n1_ n2_ n3_; (try clear hb); (try clear hb2); (try clear hk); (try clear hi); obtain ⟨Ao103, co103, eo103⟩ := Kd.R_slice HO_23.out; subst eo103) | ((with_reducible refine gate_callee (f := 20) rfl ?_); refine goesL_ (some 183) rfl rfl Try.func20 (by kernel_rfl) rfl #[.slice (some ⟨go41, 0, none⟩) y380.length co59, .slice Ao103 x23_3.length co103] rfl (by (try simp only [List.map_toArray, List.map_cons, List.map_nil]); first | done | rfl | (simp only [List.length_drop, List.length_take]; rfl)) ?_; (with_reducible refine (chargeparklaw27_met.calls _ _ y380 _ _ x23_3 t387 t388 _ ?side1 ?side2 ?side3 ?side4 A74.out).mono ?_); (case side1 => repeat (first | exact (Kd.R_reads' HO_22.out).2.2 | (with_reducible refine Kd.C_alloc ?_ _) | (with_reducible refine Kd.C_drewN ?_ _) | (with_reducible refine Kd.C_drew ?_))); (case side2 => exact (Kd.R_reads' HO_22.out).2.1); (case side3 => repeat (first | exact (Kd.R_reads' HO_23.out).2.2 | (with_reducible refine Kd.C_alloc ?_ _) | (with_reducible refine Kd.C_drewN ?_ _) | (with_reducible refine Kd.C_drew ?_))); (case side4 => exact (Kd.R_reads' HO_23.out).2.1); rintro e w104 ⟨rfl, hb⟩; refine ⟨_, rfl, ?_⟩; have n0_ := Aside0.mk (Kd.R_below (by (with_reducible repeat (first | apply Kd.R_alloc | apply Kd.R_drewN | apply Kd.R_drew)); exact HO_21.out) hb); have n1_ := Aside0.mk (Kd.R_below (by (with_reducible repeat (first | apply Kd.R_alloc | apply Kd.R_drewN | apply Kd.R_drew)); exact HO_22.out) hb); have n2_ := Aside0.mk (Kd.R_below (by (with_reducible repeat (first | apply Kd.R_alloc | apply Kd.R_drewN | apply Kd.R_drew)); exact HO_23.out) hb); have n3_ := Aside0.mk (below_step (by repeat (first | (with_reducible first | exact HB.out | apply below_alloc | apply pw_below_drewN | apply below_drew1) | exact HB.out)) hb); clear HO_21; clear HO_22; clear HO_23; clear HB; have HO_21 := n0_; have HO_22 := n1_; have HO_23 := n2_; have HB := n3_; clear n0_ n1_ n2_ n3_; (try clear hb); (try clear hb2); (try clear hk); (try clear hi)))
                                            go_ret
                                            exact ⟨by first | rfl | (simp [errW_none, errW_some] <;> rfl) | (simp only [← hji30, ← hji34, ← hji40, ← hji42, ← hji44, ← hji46]; first | rfl | (simp [errW_none, errW_some] <;> rfl)) | (simp [*, errW_none, errW_some] <;> rfl), by repeat (first | (with_reducible first | exact HB.out | apply below_alloc | apply pw_below_drewN | apply below_drew1) | exact HB.out)⟩
                                        · replace c75 := Bool.eq_false_iff.mpr c75
                                          subst c75
                                          have H1 : (some false) = some r := by rw [if_neg (show ¬ (false = true) by decide)] at H; exact H
                                          clear H
                                          have H := H1
                                          clear H1
                                          obtain rfl := Option.some.inj H
                                          obtain ⟨Ao105, co105, eo105⟩ := Kd.R_slice HO_21.out
                                          subst eo105
                                          go_wp2_with (first | ((with_reducible refine gate_callee (f := 20) rfl ?_); refine goesL_ (some 177) rfl rfl Try.func20 (by kernel_rfl) rfl #[.slice Ao105 y364.length co105, .slice A1 l1.length c1] rfl (by (try simp only [List.map_toArray, List.map_cons, List.map_nil]); first | done | rfl | (simp only [List.length_drop, List.length_take]; rfl)) ?_; (with_reducible refine (chargeparklaw27_met.calls _ _ y364 _ _ l1 t385 t386 _ ?side1 ?side2 ?side3 ?side4 A73.out).mono ?_); (case side1 => repeat (first | exact (Kd.R_reads' HO_21.out).2.2 | (with_reducible refine Kd.C_alloc ?_ _) | (with_reducible refine Kd.C_drewN ?_ _) | (with_reducible refine Kd.C_drew ?_))); (case side2 => exact (Kd.R_reads' HO_21.out).2.1); (case side3 => repeat (first | exact (Kd.C_below HR1.out HB.out) | (with_reducible refine Kd.C_alloc ?_ _) | (with_reducible refine Kd.C_drewN ?_ _) | (with_reducible refine Kd.C_drew ?_))); (case side4 => exact HC1.out); rintro e w106 ⟨rfl, hb⟩; refine ⟨_, rfl, ?_⟩; have n0_ := Aside0.mk (Kd.R_below (by (with_reducible repeat (first | apply Kd.R_alloc | apply Kd.R_drewN | apply Kd.R_drew)); exact HO_21.out) hb); have n1_ := Aside0.mk (Kd.R_below (by (with_reducible repeat (first | apply Kd.R_alloc | apply Kd.R_drewN | apply Kd.R_drew)); exact HO_22.out) hb); have n2_ := Aside0.mk (Kd.R_below (by (with_reducible repeat (first | apply Kd.R_alloc | apply Kd.R_drewN | apply Kd.R_drew)); exact HO_23.out) hb); have n3_ := Aside0.mk (below_step (by repeat (first | (with_reducible first | exact HB.out | apply below_alloc | apply pw_below_drewN | apply below_drew1) | exact HB.out)) hb); clear HO_21; clear HO_22; clear HO_23; clear HB; have HO_21 := n0_; have HO_22 := n1_; have HO_23 := n2_; have HB := n3_; clear n0_ n1_ n2_ n3_; (try clear hb); (try clear hb2); (try clear hk); (try clear hi); obtain ⟨Ao107, co107, eo107⟩ := Kd.R_slice HO_23.out; subst eo107) | ((with_reducible refine gate_callee (f := 20) rfl ?_); refine goesL_ (some 183) rfl rfl Try.func20 (by kernel_rfl) rfl #[.slice (some ⟨go41, 0, none⟩) y380.length co59, .slice Ao107 x23_3.length co107] rfl (by (try simp only [List.map_toArray, List.map_cons, List.map_nil]); first | done | rfl | (simp only [List.length_drop, List.length_take]; rfl)) ?_; (with_reducible refine (chargeparklaw27_met.calls _ _ y380 _ _ x23_3 t387 t388 _ ?side1 ?side2 ?side3 ?side4 A74.out).mono ?_); (case side1 => repeat (first | exact (Kd.R_reads' HO_22.out).2.2 | (with_reducible refine Kd.C_alloc ?_ _) | (with_reducible refine Kd.C_drewN ?_ _) | (with_reducible refine Kd.C_drew ?_))); (case side2 => exact (Kd.R_reads' HO_22.out).2.1); (case side3 => repeat (first | exact (Kd.R_reads' HO_23.out).2.2 | (with_reducible refine Kd.C_alloc ?_ _) | (with_reducible refine Kd.C_drewN ?_ _) | (with_reducible refine Kd.C_drew ?_))); (case side4 => exact (Kd.R_reads' HO_23.out).2.1); rintro e w108 ⟨rfl, hb⟩; refine ⟨_, rfl, ?_⟩; have n0_ := Aside0.mk (Kd.R_below (by (with_reducible repeat (first | apply Kd.R_alloc | apply Kd.R_drewN | apply Kd.R_drew)); exact HO_21.out) hb); have n1_ := Aside0.mk (Kd.R_below (by (with_reducible repeat (first | apply Kd.R_alloc | apply Kd.R_drewN | apply Kd.R_drew)); exact HO_22.out) hb); have n2_ := Aside0.mk (Kd.R_below (by (with_reducible repeat (first | apply Kd.R_alloc | apply Kd.R_drewN | apply Kd.R_drew)); exact HO_23.out) hb); have n3_ := Aside0.mk (below_step (by repeat (first | (with_reducible first | exact HB.out | apply below_alloc | apply pw_below_drewN | apply below_drew1) | exact HB.out)) hb); clear HO_21; clear HO_22; clear HO_23; clear HB; have HO_21 := n0_; have HO_22 := n1_; have HO_23 := n2_; have HB := n3_; clear n0_ n1_ n2_ n3_; (try clear hb); (try clear hb2); (try clear hk); (try clear hi)))
                                          go_ret
                                          exact ⟨by first | rfl | (simp [errW_none, errW_some] <;> rfl) | (simp only [← hji30, ← hji34, ← hji40, ← hji42, ← hji44, ← hji46]; first | rfl | (simp [errW_none, errW_some] <;> rfl)) | (simp [*, errW_none, errW_some] <;> rfl), by repeat (first | (with_reducible first | exact HB.out | apply below_alloc | apply pw_below_drewN | apply below_drew1) | exact HB.out)⟩
                                · rw [if_neg c39] at H
                                  exact absurd H (by simp)
                              · rw [if_neg c38] at H
                                exact absurd H (by simp)
                            · rw [if_neg c37] at H
                              exact absurd H (by simp)
                          · rw [if_neg c36] at H
                            exact absurd H (by simp)
                        · rw [if_neg c35] at H
                          exact absurd H (by simp)
                      · rw [if_neg c33] at H
                        exact absurd H (by simp)
                    · rw [if_neg c32] at H
                      exact absurd H (by simp)
                  · rw [if_neg c31] at H
                    exact absurd H (by simp)
                · rw [if_neg c29] at H
                  exact absurd H (by simp)
              · rw [if_neg c28] at H
                exact absurd H (by simp)

end Go.Proofs.Ytioglahnliajlaa.Pr
