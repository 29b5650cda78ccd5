-- Written by a program of this session over the kit's print.
import Derived.Test.YtfjbbmgnfpeogaaPr0
import Derived.Test.YtfjbbmgnfpeogaaMake0
import Derived.Test.YtfjbbmgnfpeogaaMost
import Derived.Test.YtfjbbmgnfpeogaaPr4
import Derived.Test.YtfjbbmgnfpeogaaPr5
namespace Go.Proofs.Ytfjbbmgnfpeogaa.Pr
open Go.RowKit Go.Proofs.YtfjbbmgnfpeogaaW.PrintWords Go.Proofs.YtfjbbmgnfpeogaaW.PrintLast Go.Proofs.YtfjbbmgnfpeogaaW.PrintMore
attribute [local go_sem] max2_int min2_int max_two min_two max_three min_three max_four min_four   -- for this text's walks alone
set_option linter.unusedVariables false
set_option linter.unusedSimpArgs false

/-! ### chargeparklaw21_FlowMoreRoom: function 7 -/
mutual
def chargeparklaw21_FlowMoreRoom.j0 : Nat → Int → Int → Int → Int → Bool → Bool → Int → List (S39) → Option (Bool)
  | 0, _, _, _, _, _, _, _, _ => none
  | k + 1, x1, x2, x3, x4, x11, x46, x102000, x102001 => if x46 = true then (some x11) else (if 0 ≤ (x102001.length : Int) then (if ((x102001.length : Int) : Int).toNat ≤ 11728124029610 then ((some ([] : List (S39))).bind fun y104 => (if y104.length + x102001.length < 5864062014805 then ((some (y104 ++ x102001 : List (S39))).bind fun y107 => (if (y107.length : Int) = 0 then (none) else (if 0 ≤ (Int.tmod x3 (y107.length : Int)) then (if (Int.tmod x3 (y107.length : Int)) < (y107.length : Int) then ((flow_Most.f x102000 x102001 x1 x2).bind fun bt112 => ((flow_Most.f x102000 (y107.set ((Int.tmod x3 (y107.length : Int)) : Int).toNat (⟨(rd_T39 y107 (Int.tmod x3 (y107.length : Int))).f0, (rd_T39 y107 (Int.tmod x3 (y107.length : Int))).f1, mn 1000000 (wrap64 (((rd_T39 y107 (Int.tmod x3 (y107.length : Int))).f2) + x4))⟩ : S39)) x1 x2).bind fun bt120 => (if x11 = true then (if bt112.2.2.2 = 0 then (if bt120.2.2.2 = 0 then (if bt120.1 ≥ bt112.1 then (chargeparklaw21_FlowMoreRoom.j1 k (decide (bt120.1 ≤ (wrap64 (bt112.1 + x4))))) else (chargeparklaw21_FlowMoreRoom.j1 k false)) else (chargeparklaw21_FlowMoreRoom.j1 k false)) else (chargeparklaw21_FlowMoreRoom.j1 k false)) else (chargeparklaw21_FlowMoreRoom.j1 k false)))) else (none)) else (none)))) else (none))) else (none)) else (none))
def chargeparklaw21_FlowMoreRoom.j1 : Nat → Bool → Option (Bool)
  | 0, _ => none
  | k + 1, x10 => some x10
end
def chargeparklaw21_FlowMoreRoom.f (k : Nat) (a0_0 : Int) (l0_1 : List (S39)) (a1 : Int) (a2 : Int) (a3 : Int) (a4 : Int) : Option (Bool) := (chargeparklaw21_head.f k).bind fun t102 => ((chargeparkref21_Ends.f k a0_0 l0_1 a1 a2).bind fun t103 => (if t103 = true then (if (l0_1.length : Int) = 0 then (chargeparklaw21_FlowMoreRoom.j0 k a1 a2 a3 a4 t102 true a0_0 l0_1) else (if a3 < 0 then (chargeparklaw21_FlowMoreRoom.j0 k a1 a2 a3 a4 t102 true a0_0 l0_1) else (if a4 < 0 then (chargeparklaw21_FlowMoreRoom.j0 k a1 a2 a3 a4 t102 true a0_0 l0_1) else (chargeparklaw21_FlowMoreRoom.j0 k a1 a2 a3 a4 t102 (decide (a4 > 1000000)) a0_0 l0_1)))) else (chargeparklaw21_FlowMoreRoom.j0 k a1 a2 a3 a4 t102 true a0_0 l0_1)))
theorem chargeparklaw21_FlowMoreRoom.mono_l : ∀ k, (∀ y0 y1 y2 y3 y4 y5 y6 y7, LeO (chargeparklaw21_FlowMoreRoom.j0 k y0 y1 y2 y3 y4 y5 y6 y7) (chargeparklaw21_FlowMoreRoom.j0 (k + 1) y0 y1 y2 y3 y4 y5 y6 y7)) ∧ (∀ y0, LeO (chargeparklaw21_FlowMoreRoom.j1 k y0) (chargeparklaw21_FlowMoreRoom.j1 (k + 1) y0))
  | 0 => ⟨fun _ _ _ _ _ _ _ _ r h => by simp [chargeparklaw21_FlowMoreRoom.j0] at h, fun _ r h => by simp [chargeparklaw21_FlowMoreRoom.j1] at h⟩
  | k + 1 => by
    obtain ⟨ih0, ih1⟩ := chargeparklaw21_FlowMoreRoom.mono_l k
    refine ⟨?_, ?_⟩
    · intro y0 y1 y2 y3 y4 y5 y6 y7
      unfold chargeparklaw21_FlowMoreRoom.j0
      repeat' first
      | (with_reducible exact ih0 _ _ _ _ _ _ _ _)
      | (with_reducible exact ih1 _)
      | (with_reducible exact chargeparklaw21_head.mono _)
      | (with_reducible exact chargeparkref21_Ends.mono _ _ _ _ _)
      | (with_reducible exact LeO.refl _)
      | (with_reducible exact LeO.none _)
      | (with_reducible refine LeO.ite ?_ ?_)
      | (with_reducible refine LeO.bind ?_ (fun _ => ?_))
      | exact ih0 _ _ _ _ _ _ _ _
      | exact ih1 _
      | exact chargeparklaw21_head.mono _
      | exact chargeparkref21_Ends.mono _ _ _ _ _
      | exact LeO.none _
      | refine LeO.ite ?_ ?_
      | refine LeO.bind ?_ (fun _ => ?_)
    · intro y0
      unfold chargeparklaw21_FlowMoreRoom.j1
      repeat' first
      | (with_reducible exact ih0 _ _ _ _ _ _ _ _)
      | (with_reducible exact ih1 _)
      | (with_reducible exact chargeparklaw21_head.mono _)
      | (with_reducible exact chargeparkref21_Ends.mono _ _ _ _ _)
      | (with_reducible exact LeO.refl _)
      | (with_reducible exact LeO.none _)
      | (with_reducible refine LeO.ite ?_ ?_)
      | (with_reducible refine LeO.bind ?_ (fun _ => ?_))
      | exact ih0 _ _ _ _ _ _ _ _
      | exact ih1 _
      | exact chargeparklaw21_head.mono _
      | exact chargeparkref21_Ends.mono _ _ _ _ _
      | exact LeO.none _
      | refine LeO.ite ?_ ?_
      | refine LeO.bind ?_ (fun _ => ?_)
theorem chargeparklaw21_FlowMoreRoom.mono : ∀ a0 a1 a2 a3 a4 a5 k, LeO (chargeparklaw21_FlowMoreRoom.f k a0 a1 a2 a3 a4 a5) (chargeparklaw21_FlowMoreRoom.f (k + 1) a0 a1 a2 a3 a4 a5) := by
  intro a0 a1 a2 a3 a4 a5 k
  obtain ⟨ih0, ih1⟩ := chargeparklaw21_FlowMoreRoom.mono_l k
  unfold chargeparklaw21_FlowMoreRoom.f
  repeat' first
      | (with_reducible exact ih0 _ _ _ _ _ _ _ _)
      | (with_reducible exact ih1 _)
      | (with_reducible exact chargeparklaw21_head.mono _)
      | (with_reducible exact chargeparkref21_Ends.mono _ _ _ _ _)
      | (with_reducible exact LeO.refl _)
      | (with_reducible exact LeO.none _)
      | (with_reducible refine LeO.ite ?_ ?_)
      | (with_reducible refine LeO.bind ?_ (fun _ => ?_))
      | exact ih0 _ _ _ _ _ _ _ _
      | exact ih1 _
      | exact chargeparklaw21_head.mono _
      | exact chargeparkref21_Ends.mono _ _ _ _ _
      | exact LeO.none _
      | refine LeO.ite ?_ ?_
      | refine LeO.bind ?_ (fun _ => ?_)
def chargeparklaw21_FlowMoreRoom.T5 : Bool × List (List Nat × List Nat) := (true, [([], []), ([0], [0]), ([1], [1]), ([2], [2]), ([], []), ([4], [4]), ([3, 5], [3, 5]), ([6, 6, 0, 1, 2, 3, 4, 5, 6], [6])])
def chargeparklaw21_FlowMoreRoom.B5 : List Nat := [0, 1, 3, 7, 0, 16, 63, 127]
theorem chargeparklaw21_FlowMoreRoom.tab5 : rtab .any (opsOf Try.f7 5) = chargeparklaw21_FlowMoreRoom.T5 := by kernel_rfl
theorem chargeparklaw21_FlowMoreRoom.bits5 : waitsOk chargeparklaw21_FlowMoreRoom.T5.2 chargeparklaw21_FlowMoreRoom.B5 = true := by kernel_rfl
def chargeparklaw21_FlowMoreRoom.T6 : Bool × List (List Nat × List Nat) := (true, [([], []), ([], []), ([], []), ([2], [2]), ([1, 3], [1, 3]), ([], []), ([], []), ([], []), ([7], [7]), ([6, 8], [6, 8]), ([5, 9], [5, 9]), ([10], [10]), ([11], [11]), ([], []), ([12, 13], [12, 13]), ([14], [14]), ([0, 4, 0, 1, 2, 3, 4, 5, 6, 7, 8, 9, 10, 11, 12, 13, 14, 15], [0, 4]), ([16, 0, 1, 2, 3, 4, 5, 6, 7, 8, 9, 10, 11, 12, 13, 14, 15], [16]), ([17, 15, 0, 1, 2, 3, 4, 5, 6, 7, 8, 9, 10, 11, 12, 13, 14, 15], [15, 17])])
def chargeparklaw21_FlowMoreRoom.B6 : List Nat := [0, 0, 0, 4, 14, 0, 0, 0, 128, 448, 992, 2016, 4064, 0, 16352, 32736, 65535, 131071, 262143]
theorem chargeparklaw21_FlowMoreRoom.tab6 : rtab .any (opsOf Try.f7 6) = chargeparklaw21_FlowMoreRoom.T6 := by kernel_rfl
theorem chargeparklaw21_FlowMoreRoom.bits6 : waitsOk chargeparklaw21_FlowMoreRoom.T6.2 chargeparklaw21_FlowMoreRoom.B6 = true := by kernel_rfl
set_option maxHeartbeats 8000000 in
set_option maxRecDepth 100000 in
theorem chargeparklaw21_FlowMoreRoom.calls (k : Nat) (a0_0 : Int) (A0_1 : Option Addr) (c0_1 : Nat) (l0_1 : List (S39)) (a1 : Int) (a2 : Int) (a3 : Int) (a4 : Int) (r : Bool) (w : World) (hr0_1 : Kd.C k39 w A0_1 l0_1.length l0_1) (hc0_1 : l0_1.length ≤ c0_1) (h : chargeparklaw21_FlowMoreRoom.f k a0_0 l0_1 a1 a2 a3 a4 = some r) :
    Calls Try.prog 7 #[.agg #[.int .i64 a0_0, .slice A0_1 l0_1.length c0_1], .int .i64 a1, .int .i64 a2, .int .i64 a3, .int .i64 a4] w fun e w' => e = .returned (.bool r) ∧ Below w.heap.size w w' := by
  have hu24 := Try.underlying24
  have HR0_1 := Aside0.mk hr0_1
  have HC0_1 := Aside0.mk hc0_1
  clear hr0_1 hc0_1
  have HB := Aside0.mk (Below.refl w.heap.size w)
  have H : ((chargeparklaw21_head.f k).bind fun t102 => ((chargeparkref21_Ends.f k a0_0 l0_1 a1 a2).bind fun t103 => (if t103 = true then (if (l0_1.length : Int) = 0 then (chargeparklaw21_FlowMoreRoom.j0 k a1 a2 a3 a4 t102 true a0_0 l0_1) else (if a3 < 0 then (chargeparklaw21_FlowMoreRoom.j0 k a1 a2 a3 a4 t102 true a0_0 l0_1) else (if a4 < 0 then (chargeparklaw21_FlowMoreRoom.j0 k a1 a2 a3 a4 t102 true a0_0 l0_1) else (chargeparklaw21_FlowMoreRoom.j0 k a1 a2 a3 a4 t102 (decide (a4 > 1000000)) a0_0 l0_1)))) else (chargeparklaw21_FlowMoreRoom.j0 k a1 a2 a3 a4 t102 true a0_0 l0_1)))) = some r := h
  clear h
  replace H := Option.bind_eq_some_iff.mp H
  obtain ⟨t102, A60, H⟩ := H
  replace H : ((chargeparkref21_Ends.f k a0_0 l0_1 a1 a2).bind fun t103 => (if t103 = true then (if (l0_1.length : Int) = 0 then (chargeparklaw21_FlowMoreRoom.j0 k a1 a2 a3 a4 t102 true a0_0 l0_1) else (if a3 < 0 then (chargeparklaw21_FlowMoreRoom.j0 k a1 a2 a3 a4 t102 true a0_0 l0_1) else (if a4 < 0 then (chargeparklaw21_FlowMoreRoom.j0 k a1 a2 a3 a4 t102 true a0_0 l0_1) else (chargeparklaw21_FlowMoreRoom.j0 k a1 a2 a3 a4 t102 (decide (a4 > 1000000)) a0_0 l0_1)))) else (chargeparklaw21_FlowMoreRoom.j0 k a1 a2 a3 a4 t102 true a0_0 l0_1))) = some r := H
  have A6 := Aside0.mk A60
  clear A60
  replace H := Option.bind_eq_some_iff.mp H
  obtain ⟨t103, A70, H⟩ := H
  replace H : (if t103 = true then (if (l0_1.length : Int) = 0 then (chargeparklaw21_FlowMoreRoom.j0 k a1 a2 a3 a4 t102 true a0_0 l0_1) else (if a3 < 0 then (chargeparklaw21_FlowMoreRoom.j0 k a1 a2 a3 a4 t102 true a0_0 l0_1) else (if a4 < 0 then (chargeparklaw21_FlowMoreRoom.j0 k a1 a2 a3 a4 t102 true a0_0 l0_1) else (chargeparklaw21_FlowMoreRoom.j0 k a1 a2 a3 a4 t102 (decide (a4 > 1000000)) a0_0 l0_1)))) else (chargeparklaw21_FlowMoreRoom.j0 k a1 a2 a3 a4 t102 true a0_0 l0_1)) = some r := H
  have A7 := Aside0.mk A70
  clear A70
  have HC8 := Aside0.mk H
  clear H
  go_enter Try.func7, Try.ntmps7
  go_upto_region 3 with (first | ((with_reducible refine gate_dst (N := 5) rfl ?_); (try (refine gate_guard (by rfl) ?_; dsimp only)); refine box_event ?hg (N := 5) ?hd (cs := #[.int .i64 a0_0, .slice A0_1 l0_1.length c0_1]) (t := 24) ?hr ?_; (case hd => rfl); (case hg => rfl); (case hr => first | (go_simp; done) | (go_simp; rfl)); intro gb101 hg w9 hbox hb; have n0_ := Aside0.mk (below_step (by repeat (first | (with_reducible first | exact HB.out | apply below_alloc | apply pw_below_drewN | apply below_drew1) | exact HB.out)) hb); have n1_ := Aside0.mk (hbox); have n2_ := Aside0.mk ((by rw [hg]; exact (below_size (by repeat (first | (with_reducible first | exact HB.out | apply below_alloc | apply pw_below_drewN | apply below_drew1) | exact HB.out))) : w.heap.size ≤ gb101)); have n3_ := Aside0.mk ((by rw [hg]; exact (below_size (by repeat (first | (with_reducible first | exact HB.out | apply below_alloc | apply pw_below_drewN | apply below_drew1) | exact HB.out))) : w.heap.size ≤ gb101)); clear HB; have HB := n0_; have BK101 := n1_; have GW101 := n2_; have GE101 := n3_; clear n0_ n1_ n2_ n3_; clear hb hbox hg) | ((with_reducible refine gate_callee (f := 10) rfl ?_); refine goesL_ (some 22) rfl rfl Try.func10 (by kernel_rfl) rfl #[] rfl (by (try simp only [List.map_toArray, List.map_cons, List.map_nil]); first | done | rfl | (simp only [List.length_drop, List.length_take]; rfl)) ?_; (with_reducible refine (chargeparklaw21_head.calls k  t102 _ A6.out).mono ?_); rintro e w10 ⟨rfl, hb⟩; refine ⟨_, rfl, ?_⟩; have n0_ := Aside0.mk (blk_below (g := gb101) (o := .cells #[.int .i64 a0_0, .slice A0_1 l0_1.length c0_1] 24 (0, 0)) (by (with_reducible repeat (first | refine blk_drewN ?_ _ | refine blk_drew ?_ | refine blk_alloc ?_ _)); exact BK101.out) hb); have n1_ := Aside0.mk (below_step (by repeat (first | (with_reducible first | exact HB.out | apply below_alloc | apply pw_below_drewN | apply below_drew1 | refine below_set ?_ GE101.out) | exact HB.out)) hb); clear BK101; clear HB; have BK101 := n0_; have HB := n1_; clear n0_ n1_; (try clear hb); (try clear hb2); (try clear hk); (try clear hi); have hcz11_0 : w10.cell? ⟨gb101, 0, none⟩ = some (.int .i64 a0_0) := (blk_cell BK101.out 0).trans rfl; have hcz11_1 : w10.cell? ⟨gb101, 1, none⟩ = some (.slice A0_1 l0_1.length c0_1) := (blk_cell BK101.out 1).trans rfl; have hfz11_0 := blk_frozen BK101.out 0; have hfz11_1 := blk_frozen BK101.out 1) | ((with_reducible refine gate_callee (f := 18) rfl ?_); refine goesL_ (some 26) rfl rfl Try.func18 (by kernel_rfl) rfl #[.agg #[.int .i64 a0_0, .slice A0_1 l0_1.length c0_1], .int .i64 a1, .int .i64 a2] rfl (by (try simp only [List.map_toArray, List.map_cons, List.map_nil]); first | done | rfl | (simp only [List.length_drop, List.length_take]; rfl)) ?_; (with_reducible refine (chargeparkref21_Ends.calls k a0_0 _ _ l0_1 a1 a2 t103 _ ?side1 ?side2 A7.out).mono ?_); (case side1 => repeat (first | exact (Kd.C_below HR0_1.out HB.out) | (with_reducible refine Kd.C_alloc ?_ _) | (with_reducible refine Kd.C_drewN ?_ _) | (with_reducible refine Kd.C_drew ?_))); (case side2 => exact HC0_1.out); rintro e w12 ⟨rfl, hb⟩; refine ⟨_, rfl, ?_⟩; have n0_ := Aside0.mk (blk_below (g := gb101) (o := .cells #[.int .i64 a0_0, .slice A0_1 l0_1.length c0_1] 24 (0, 0)) (by (with_reducible repeat (first | refine blk_drewN ?_ _ | refine blk_drew ?_ | refine blk_alloc ?_ _)); exact BK101.out) hb); have n1_ := Aside0.mk (below_step (by repeat (first | (with_reducible first | exact HB.out | apply below_alloc | apply pw_below_drewN | apply below_drew1 | refine below_set ?_ GE101.out) | exact HB.out)) hb); clear BK101; clear HB; have BK101 := n0_; have HB := n1_; clear n0_ n1_; (try clear hb); (try clear hb2); (try clear hk); (try clear hi)))
  (try simp only [Act.put, List.setIfInBounds_toArray, List.set_cons_zero, List.set_cons_succ])
  go_cut [46] (fun v46 wc => ∃ (kq : Nat) (x46_7 : Bool), v46 = .bool x46_7 ∧ Aside0 (chargeparklaw21_FlowMoreRoom.j0 kq a1 a2 a3 a4 t102 x46_7 a0_0 l0_1 = some r) ∧ Aside0 (kq ≤ k) ∧ Aside0 (wc.heap[gb101]? = some (.cells #[.int .i64 a0_0, (.slice A0_1 l0_1.length c0_1)] 24 (0, 0))) ∧ Aside0 (Below w.heap.size w wc))
  case first =>
    have H := HC8.out
    clear HC8
    by_cases c13 : t103 = true
    · subst c13
      have H1 : (if (l0_1.length : Int) = 0 then (chargeparklaw21_FlowMoreRoom.j0 k a1 a2 a3 a4 t102 true a0_0 l0_1) else (if a3 < 0 then (chargeparklaw21_FlowMoreRoom.j0 k a1 a2 a3 a4 t102 true a0_0 l0_1) else (if a4 < 0 then (chargeparklaw21_FlowMoreRoom.j0 k a1 a2 a3 a4 t102 true a0_0 l0_1) else (chargeparklaw21_FlowMoreRoom.j0 k a1 a2 a3 a4 t102 (decide (a4 > 1000000)) a0_0 l0_1)))) = some r := by rw [if_pos rfl] at H; exact H
      clear H
      have H := H1
      clear H1
      by_cases c14 : (l0_1.length : Int) = 0
      · rw [if_pos c14] at H
        have c14b0 : ((l0_1.length : Int) == 0) = true := beq_iff_eq.mpr c14
        have c14b1 : ((l0_1.length : Int) != 0) = false := bne_eq_false_iff_eq.mpr c14
        clear c14
        (first | rw [c14b0] | (simp only [i64_w, i32_w]; rw [c14b0]) | skip)
        have H' := Aside0.mk H
        clear H
        have hcz15_0 : w12.cell? ⟨gb101, 0, none⟩ = some (.int .i64 a0_0) := (blk_cell BK101.out 0).trans rfl
        have hcz15_1 : w12.cell? ⟨gb101, 1, none⟩ = some (.slice A0_1 l0_1.length c0_1) := (blk_cell BK101.out 1).trans rfl
        have hfz15_0 := blk_frozen BK101.out 0
        have hfz15_1 := blk_frozen BK101.out 1
        go_wp2
        go_meet
        case rel => exact ⟨_, (true), (by first | rfl | (simp; done) | (simp [*]; done)), H', ⟨by first | omega | exact Nat.le_refl _⟩, ⟨by (with_reducible repeat (first | refine blk_drewN ?_ _ | refine blk_drew ?_ | refine blk_alloc ?_ _)); exact BK101.out⟩, ⟨by repeat (first | (with_reducible first | exact HB.out | apply below_alloc | apply pw_below_drewN | apply below_drew1 | refine below_set ?_ GE101.out) | exact HB.out)⟩⟩
      · rw [if_neg c14] at H
        have c14b0 : ((l0_1.length : Int) == 0) = false := beq_eq_false_iff_ne.mpr c14
        have c14b1 : ((l0_1.length : Int) != 0) = true := bne_iff_ne.mpr c14
        have c14b2 : ¬ (l0_1 = []) := fun h_ => c14 (by rw [h_]; rfl)
        (first | rw [c14b0] | (simp only [i64_w, i32_w]; rw [c14b0]) | skip)
        by_cases c16 : a3 < 0
        · rw [if_pos c16] at H
          have c16b0 : decide (a3 < 0) = true := decide_eq_true c16
          clear c16
          have H' := Aside0.mk H
          clear H
          have hcz17_0 : w12.cell? ⟨gb101, 0, none⟩ = some (.int .i64 a0_0) := (blk_cell BK101.out 0).trans rfl
          have hcz17_1 : w12.cell? ⟨gb101, 1, none⟩ = some (.slice A0_1 l0_1.length c0_1) := (blk_cell BK101.out 1).trans rfl
          have hfz17_0 := blk_frozen BK101.out 0
          have hfz17_1 := blk_frozen BK101.out 1
          go_wp2
          go_meet
          case rel => exact ⟨_, (true), (by first | rfl | (simp; done) | (simp [*]; done)), H', ⟨by first | omega | exact Nat.le_refl _⟩, ⟨by (with_reducible repeat (first | refine blk_drewN ?_ _ | refine blk_drew ?_ | refine blk_alloc ?_ _)); exact BK101.out⟩, ⟨by repeat (first | (with_reducible first | exact HB.out | apply below_alloc | apply pw_below_drewN | apply below_drew1 | refine below_set ?_ GE101.out) | exact HB.out)⟩⟩
        · rw [if_neg c16] at H
          have c16b0 : decide (a3 < 0) = false := decide_eq_false c16
          clear c16
          by_cases c18 : a4 < 0
          · rw [if_pos c18] at H
            have c18b0 : decide (a4 < 0) = true := decide_eq_true c18
            clear c18
            have H' := Aside0.mk H
            clear H
            have hcz19_0 : w12.cell? ⟨gb101, 0, none⟩ = some (.int .i64 a0_0) := (blk_cell BK101.out 0).trans rfl
            have hcz19_1 : w12.cell? ⟨gb101, 1, none⟩ = some (.slice A0_1 l0_1.length c0_1) := (blk_cell BK101.out 1).trans rfl
            have hfz19_0 := blk_frozen BK101.out 0
            have hfz19_1 := blk_frozen BK101.out 1
            go_wp2
            go_meet
            case rel => exact ⟨_, (true), (by first | rfl | (simp; done) | (simp [*]; done)), H', ⟨by first | omega | exact Nat.le_refl _⟩, ⟨by (with_reducible repeat (first | refine blk_drewN ?_ _ | refine blk_drew ?_ | refine blk_alloc ?_ _)); exact BK101.out⟩, ⟨by repeat (first | (with_reducible first | exact HB.out | apply below_alloc | apply pw_below_drewN | apply below_drew1 | refine below_set ?_ GE101.out) | exact HB.out)⟩⟩
          · rw [if_neg c18] at H
            have c18b0 : decide (a4 < 0) = false := decide_eq_false c18
            clear c18
            have H' := Aside0.mk H
            clear H
            have hcz20_0 : w12.cell? ⟨gb101, 0, none⟩ = some (.int .i64 a0_0) := (blk_cell BK101.out 0).trans rfl
            have hcz20_1 : w12.cell? ⟨gb101, 1, none⟩ = some (.slice A0_1 l0_1.length c0_1) := (blk_cell BK101.out 1).trans rfl
            have hfz20_0 := blk_frozen BK101.out 0
            have hfz20_1 := blk_frozen BK101.out 1
            go_wp2
            go_meet
            case rel => exact ⟨_, (decide (a4 > 1000000)), (by first | rfl | (simp; done) | (simp [*]; done)), H', ⟨by first | omega | exact Nat.le_refl _⟩, ⟨by (with_reducible repeat (first | refine blk_drewN ?_ _ | refine blk_drew ?_ | refine blk_alloc ?_ _)); exact BK101.out⟩, ⟨by repeat (first | (with_reducible first | exact HB.out | apply below_alloc | apply pw_below_drewN | apply below_drew1 | refine below_set ?_ GE101.out) | exact HB.out)⟩⟩
    · replace c13 := Bool.eq_false_iff.mpr c13
      subst c13
      have H1 : (chargeparklaw21_FlowMoreRoom.j0 k a1 a2 a3 a4 t102 true a0_0 l0_1) = some r := by rw [if_neg (show ¬ (false = true) by decide)] at H; exact H
      clear H
      have H := H1
      clear H1
      have H' := Aside0.mk H
      clear H
      go_wp2
      go_meet
      case rel => exact ⟨_, (true), (by first | rfl | (simp; done) | (simp [*]; done)), H', ⟨by first | omega | exact Nat.le_refl _⟩, ⟨by (with_reducible repeat (first | refine blk_drewN ?_ _ | refine blk_drew ?_ | refine blk_alloc ?_ _)); exact BK101.out⟩, ⟨by repeat (first | (with_reducible first | exact HB.out | apply below_alloc | apply pw_below_drewN | apply below_drew1 | refine below_set ?_ GE101.out) | exact HB.out)⟩⟩
  case rest =>
    clear HC8
    try clear c1
    try clear p2
    try clear c7
    try clear c10
    try clear c13
    try clear c14
    try clear c14b0
    try clear c14b1
    try clear c14b2
    try clear c16
    try clear c16b0
    try clear c18
    try clear c18b0
    try clear hcz11_0
    try clear hcz11_1
    try clear hcz15_0
    try clear hcz15_1
    try clear hcz17_0
    try clear hcz17_1
    try clear hcz19_0
    try clear hcz19_1
    try clear hcz20_0
    try clear hcz20_1
    try clear hfz11_0
    try clear hfz11_1
    try clear hfz15_0
    try clear hfz15_1
    try clear hfz17_0
    try clear hfz17_1
    try clear hfz19_0
    try clear hfz19_1
    try clear hfz20_0
    try clear hfz20_1
    obtain ⟨kq, x46_7, rfl, HA, HJ7, BK101, HB⟩ := hcut
    cases kq with
    | zero => exact absurd HA.out (by simp [chargeparklaw21_FlowMoreRoom.j0])
    | succ kj7 =>
      have H := HA.out
      clear HA
      simp only [chargeparklaw21_FlowMoreRoom.j0] at H
      by_cases c21 : x46_7 = true
      · subst c21
        have H1 : (some t102) = some r := by rw [if_pos rfl] at H; exact H
        clear H
        have H := H1
        clear H1
        obtain rfl := Option.some.inj H
        go_wp2
        go_ret
        exact ⟨by first | rfl | (simp [errW_none, errW_some] <;> rfl) | (simp [*, errW_none, errW_some] <;> rfl), by repeat (first | (with_reducible first | exact HB.out | apply below_alloc | apply pw_below_drewN | apply below_drew1 | refine below_set ?_ GE101.out) | exact HB.out)⟩
      · replace c21 := Bool.eq_false_iff.mpr c21
        subst c21
        have H1 : (if 0 ≤ (l0_1.length : Int) then (if ((l0_1.length : Int) : Int).toNat ≤ 11728124029610 then ((some ([] : List (S39))).bind fun y104 => (if y104.length + l0_1.length < 5864062014805 then ((some (y104 ++ l0_1 : List (S39))).bind fun y107 => (if (y107.length : Int) = 0 then (none) else (if 0 ≤ (Int.tmod a3 (y107.length : Int)) then (if (Int.tmod a3 (y107.length : Int)) < (y107.length : Int) then ((flow_Most.f a0_0 l0_1 a1 a2).bind fun bt112 => ((flow_Most.f a0_0 (y107.set ((Int.tmod a3 (y107.length : Int)) : Int).toNat (⟨(rd_T39 y107 (Int.tmod a3 (y107.length : Int))).f0, (rd_T39 y107 (Int.tmod a3 (y107.length : Int))).f1, mn 1000000 (wrap64 (((rd_T39 y107 (Int.tmod a3 (y107.length : Int))).f2) + a4))⟩ : S39)) a1 a2).bind fun bt120 => (if t102 = true then (if bt112.2.2.2 = 0 then (if bt120.2.2.2 = 0 then (if bt120.1 ≥ bt112.1 then (chargeparklaw21_FlowMoreRoom.j1 kj7 (decide (bt120.1 ≤ (wrap64 (bt112.1 + a4))))) else (chargeparklaw21_FlowMoreRoom.j1 kj7 false)) else (chargeparklaw21_FlowMoreRoom.j1 kj7 false)) else (chargeparklaw21_FlowMoreRoom.j1 kj7 false)) else (chargeparklaw21_FlowMoreRoom.j1 kj7 false)))) else (none)) else (none)))) else (none))) else (none)) else (none)) = some r := by rw [if_neg (show ¬ (false = true) by decide)] at H; exact H
        clear H
        have H := H1
        clear H1
        by_cases c22 : 0 ≤ (l0_1.length : Int)
        · rw [if_pos c22] at H
          have c22b0 := eq_true c22
          have c22b1 : decide (0 ≤ (l0_1.length : Int)) = true := decide_eq_true c22
          clear c22
          by_cases c23 : ((l0_1.length : Int) : Int).toNat ≤ 11728124029610
          · rw [if_pos c23] at H
            have c23b0 := eq_true c23
            have c23b1 : decide (((l0_1.length : Int) : Int).toNat ≤ 11728124029610) = true := decide_eq_true c23
            clear c23
            obtain ⟨y104, hy104⟩ : ∃ y_ : List (S39), y_ = ([]) := ⟨_, rfl⟩
            replace H : (if y104.length + l0_1.length < 5864062014805 then ((some (y104 ++ l0_1 : List (S39))).bind fun y107 => (if (y107.length : Int) = 0 then (none) else (if 0 ≤ (Int.tmod a3 (y107.length : Int)) then (if (Int.tmod a3 (y107.length : Int)) < (y107.length : Int) then ((flow_Most.f a0_0 l0_1 a1 a2).bind fun bt112 => ((flow_Most.f a0_0 (y107.set ((Int.tmod a3 (y107.length : Int)) : Int).toNat (⟨(rd_T39 y107 (Int.tmod a3 (y107.length : Int))).f0, (rd_T39 y107 (Int.tmod a3 (y107.length : Int))).f1, mn 1000000 (wrap64 (((rd_T39 y107 (Int.tmod a3 (y107.length : Int))).f2) + a4))⟩ : S39)) a1 a2).bind fun bt120 => (if t102 = true then (if bt112.2.2.2 = 0 then (if bt120.2.2.2 = 0 then (if bt120.1 ≥ bt112.1 then (chargeparklaw21_FlowMoreRoom.j1 kj7 (decide (bt120.1 ≤ (wrap64 (bt112.1 + a4))))) else (chargeparklaw21_FlowMoreRoom.j1 kj7 false)) else (chargeparklaw21_FlowMoreRoom.j1 kj7 false)) else (chargeparklaw21_FlowMoreRoom.j1 kj7 false)) else (chargeparklaw21_FlowMoreRoom.j1 kj7 false)))) else (none)) else (none)))) else (none)) = some r := by first | (rw [hy104]; with_reducible exact H) | (have H2_ := (Option.bind_some _ _).symm.trans H; rw [hy104]; with_reducible exact H2_) | (have H2_ := (Option.bind_some _ _).symm.trans H; with_reducible exact H2_) | with_reducible exact H | (rw [hy104]; exact H) | exact H
            have Ny104 := Aside0.mk hy104
            clear hy104
            by_cases c24 : y104.length + l0_1.length < 5864062014805
            · rw [if_pos c24] at H
              have LMc24 := Aside0.mk c24
              clear c24
              obtain ⟨y107, hy107⟩ : ∃ y_ : List (S39), y_ = (y104 ++ l0_1) := ⟨_, rfl⟩
              replace H : (if (y107.length : Int) = 0 then (none) else (if 0 ≤ (Int.tmod a3 (y107.length : Int)) then (if (Int.tmod a3 (y107.length : Int)) < (y107.length : Int) then ((flow_Most.f a0_0 l0_1 a1 a2).bind fun bt112 => ((flow_Most.f a0_0 (y107.set ((Int.tmod a3 (y107.length : Int)) : Int).toNat (⟨(rd_T39 y107 (Int.tmod a3 (y107.length : Int))).f0, (rd_T39 y107 (Int.tmod a3 (y107.length : Int))).f1, mn 1000000 (wrap64 (((rd_T39 y107 (Int.tmod a3 (y107.length : Int))).f2) + a4))⟩ : S39)) a1 a2).bind fun bt120 => (if t102 = true then (if bt112.2.2.2 = 0 then (if bt120.2.2.2 = 0 then (if bt120.1 ≥ bt112.1 then (chargeparklaw21_FlowMoreRoom.j1 kj7 (decide (bt120.1 ≤ (wrap64 (bt112.1 + a4))))) else (chargeparklaw21_FlowMoreRoom.j1 kj7 false)) else (chargeparklaw21_FlowMoreRoom.j1 kj7 false)) else (chargeparklaw21_FlowMoreRoom.j1 kj7 false)) else (chargeparklaw21_FlowMoreRoom.j1 kj7 false)))) else (none)) else (none))) = some r := by first | (rw [hy107]; with_reducible exact H) | (have H2_ := (Option.bind_some _ _).symm.trans H; rw [hy107]; with_reducible exact H2_) | (have H2_ := (Option.bind_some _ _).symm.trans H; with_reducible exact H2_) | with_reducible exact H | (rw [hy107]; exact H) | exact H
              have Ny107 := Aside0.mk hy107
              clear hy107
              by_cases c25 : (y107.length : Int) = 0
              · rw [if_pos c25] at H
                exact absurd H (by simp)
              · rw [if_neg c25] at H
                have c25b0 : ((y107.length : Int) == 0) = false := beq_eq_false_iff_ne.mpr c25
                have c25b1 : ((y107.length : Int) != 0) = true := bne_iff_ne.mpr c25
                have c25b2 : ¬ (y107 = []) := fun h_ => c25 (by rw [h_]; rfl)
                obtain ⟨ji26, hji26⟩ : ∃ j_ : Int, (Int.tmod a3 (y107.length : Int)) = j_ := ⟨_, rfl⟩
                replace H : (if 0 ≤ (ji26) then (if (ji26) < (y107.length : Int) then ((flow_Most.f a0_0 l0_1 a1 a2).bind fun bt112 => ((flow_Most.f a0_0 (y107.set ((ji26) : Int).toNat (⟨(rd_T39 y107 (ji26)).f0, (rd_T39 y107 (ji26)).f1, mn 1000000 (wrap64 (((rd_T39 y107 (ji26)).f2) + a4))⟩ : S39)) a1 a2).bind fun bt120 => (if t102 = true then (if bt112.2.2.2 = 0 then (if bt120.2.2.2 = 0 then (if bt120.1 ≥ bt112.1 then (chargeparklaw21_FlowMoreRoom.j1 kj7 (decide (bt120.1 ≤ (wrap64 (bt112.1 + a4))))) else (chargeparklaw21_FlowMoreRoom.j1 kj7 false)) else (chargeparklaw21_FlowMoreRoom.j1 kj7 false)) else (chargeparklaw21_FlowMoreRoom.j1 kj7 false)) else (chargeparklaw21_FlowMoreRoom.j1 kj7 false)))) else (none)) else (none)) = some r := by first | (rw [hji26] at H; exact H) | (simp only [hji26] at H ⊢; exact H)
                by_cases c27 : 0 ≤ (ji26)
                · rw [if_pos c27] at H
                  have c27b0 : decide (0 ≤ (ji26)) = true := decide_eq_true c27
                  clear c27
                  by_cases c28 : (ji26) < (y107.length : Int)
                  · rw [if_pos c28] at H
                    have c28b0 : decide ((ji26) < (y107.length : Int)) = true := decide_eq_true c28
                    clear c28
                    obtain ⟨ji29, hji29⟩ : ∃ j_ : Int, (mn 1000000 (wrap64 (((rd_T39 y107 (ji26)).f2) + a4))) = j_ := ⟨_, rfl⟩
                    replace H : ((flow_Most.f a0_0 l0_1 a1 a2).bind fun bt112 => ((flow_Most.f a0_0 (y107.set ((ji26) : Int).toNat (⟨(rd_T39 y107 (ji26)).f0, (rd_T39 y107 (ji26)).f1, ji29⟩ : S39)) a1 a2).bind fun bt120 => (if t102 = true then (if bt112.2.2.2 = 0 then (if bt120.2.2.2 = 0 then (if bt120.1 ≥ bt112.1 then (chargeparklaw21_FlowMoreRoom.j1 kj7 (decide (bt120.1 ≤ (wrap64 (bt112.1 + a4))))) else (chargeparklaw21_FlowMoreRoom.j1 kj7 false)) else (chargeparklaw21_FlowMoreRoom.j1 kj7 false)) else (chargeparklaw21_FlowMoreRoom.j1 kj7 false)) else (chargeparklaw21_FlowMoreRoom.j1 kj7 false)))) = some r := by first | (rw [hji29] at H; exact H) | (simp only [hji29] at H ⊢; exact H)
                    have hji29_ : (if (wrap64 (((rd_T39 y107 (ji26)).f2) + a4)) < 1000000 then (wrap64 (((rd_T39 y107 (ji26)).f2) + a4)) else 1000000) = ji29 := hji29
                    obtain ⟨y111, hy111⟩ : ∃ y_ : List (S39), y_ = (y107.set ((ji26) : Int).toNat (⟨(rd_T39 y107 (ji26)).f0, (rd_T39 y107 (ji26)).f1, ji29⟩ : S39)) := ⟨_, rfl⟩
                    replace H : ((flow_Most.f a0_0 l0_1 a1 a2).bind fun bt112 => ((flow_Most.f a0_0 y111 a1 a2).bind fun bt120 => (if t102 = true then (if bt112.2.2.2 = 0 then (if bt120.2.2.2 = 0 then (if bt120.1 ≥ bt112.1 then (chargeparklaw21_FlowMoreRoom.j1 kj7 (decide (bt120.1 ≤ (wrap64 (bt112.1 + a4))))) else (chargeparklaw21_FlowMoreRoom.j1 kj7 false)) else (chargeparklaw21_FlowMoreRoom.j1 kj7 false)) else (chargeparklaw21_FlowMoreRoom.j1 kj7 false)) else (chargeparklaw21_FlowMoreRoom.j1 kj7 false)))) = some r := by first | (rw [hy111]; with_reducible exact H) | (have H2_ := (Option.bind_some _ _).symm.trans H; rw [hy111]; with_reducible exact H2_) | (have H2_ := (Option.bind_some _ _).symm.trans H; with_reducible exact H2_) | with_reducible exact H | (rw [hy111]; exact H) | exact H
                    have Ny111 := Aside0.mk hy111
                    clear hy111
                    replace H := Option.bind_eq_some_iff.mp H
                    obtain ⟨⟨t112, t113, t116, t119⟩, A310, H⟩ := H
                    replace H : ((flow_Most.f a0_0 y111 a1 a2).bind fun bt120 => (if t102 = true then (if t119 = 0 then (if bt120.2.2.2 = 0 then (if bt120.1 ≥ t112 then (chargeparklaw21_FlowMoreRoom.j1 kj7 (decide (bt120.1 ≤ (wrap64 (t112 + a4))))) else (chargeparklaw21_FlowMoreRoom.j1 kj7 false)) else (chargeparklaw21_FlowMoreRoom.j1 kj7 false)) else (chargeparklaw21_FlowMoreRoom.j1 kj7 false)) else (chargeparklaw21_FlowMoreRoom.j1 kj7 false))) = some r := H
                    have A31 := Aside0.mk A310
                    clear A310
                    replace H := Option.bind_eq_some_iff.mp H
                    obtain ⟨⟨t120, t121, t124, t127⟩, A320, H⟩ := H
                    replace H : (if t102 = true then (if t119 = 0 then (if t127 = 0 then (if t120 ≥ t112 then (chargeparklaw21_FlowMoreRoom.j1 kj7 (decide (t120 ≤ (wrap64 (t112 + a4))))) else (chargeparklaw21_FlowMoreRoom.j1 kj7 false)) else (chargeparklaw21_FlowMoreRoom.j1 kj7 false)) else (chargeparklaw21_FlowMoreRoom.j1 kj7 false)) else (chargeparklaw21_FlowMoreRoom.j1 kj7 false)) = some r := H
                    have A32 := Aside0.mk A320
                    clear A320
                    have HC33 := Aside0.mk H
                    clear H
                    try go_wp2
                    have n0_ := Aside0.mk (blk_drew BK101.out)
                    have n1_ := Aside0.mk (below_drew1 HB.out)
                    clear BK101
                    clear HB
                    have BK101 := n0_
                    have HB := n1_
                    clear n0_ n1_
                    refine start_ (n := 8) (S := fun w' => w'.cell? ⟨gb101, 0, none⟩ = some (.int .i64 a0_0) ∧ w'.cell? ⟨gb101, 1, none⟩ = some (.slice A0_1 l0_1.length c0_1)) (ds := []) #[false, false, false, false, false, false, false, false] (by kernel_rfl) rfl rfl ⟨(blk_cell BK101.out 0).trans rfl, (blk_cell BK101.out 1).trans rfl⟩ (fun hHeld => ?_); refine with_tabW chargeparklaw21_FlowMoreRoom.tab5 chargeparklaw21_FlowMoreRoom.bits5 (fun HT_ HW_ => ?_)
                    generalize wc.drew = w34 at BK101 HB hHeld ⊢
                    refine pure_ (i := 0) (N := some 48) (v := ?_) (a' := ?_) #[true, false, false, false, false, false, false, false] rfl rfl (any_of HT_.out (by kernel_rfl)) (fun _ _ _ h => h) (Or.inl ⟨by rfl, ?_⟩) ?_ ?_
                    rotate_left
                    · intro w'
                      go_simp
                      with_reducible rfl
                    rotate_left
                    · simp only [Act.put, List.setIfInBounds_toArray, List.set_cons_zero, List.set_cons_succ, i64_w, i32_w]
                      rfl
                    refine pure_ (i := 4) (N := some 52) (v := ?_) (a' := ?_) #[true, false, false, false, true, false, false, false] rfl rfl (any_of HT_.out (by kernel_rfl)) (fun _ _ _ h => h) (Or.inl ⟨by rfl, ?_⟩) ?_ ?_
                    rotate_left
                    · intro w'
                      go_simp
                      with_reducible rfl
                    rotate_left
                    · simp only [Act.put, List.setIfInBounds_toArray, List.set_cons_zero, List.set_cons_succ, i64_w, i32_w]
                      rfl
                    refine take_ (i := 1) (N := some 49) (v := ?_) (a' := ?_) #[true, true, false, false, true, false, false, false] rfl rfl (take_ofW HT_.out HW_.out (by kernel_rfl)) (fun _ _ _ h => h) (Or.inl ⟨by rfl, ?_⟩) hHeld ?_ ?_
                    rotate_left
                    · rintro w' ⟨s0, s1⟩
                      go_simp
                      with_reducible rfl
                    rotate_left
                    · simp only [Act.put, List.setIfInBounds_toArray, List.set_cons_zero, List.set_cons_succ, i64_w, i32_w]
                      rfl
                    refine pure_ (i := 2) (N := some 50) (v := ?_) (a' := ?_) #[true, true, true, false, true, false, false, false] rfl rfl (any_of HT_.out (by kernel_rfl)) (fun _ _ _ h => h) (Or.inl ⟨by rfl, ?_⟩) ?_ ?_
                    rotate_left
                    · intro w'
                      go_simp
                      with_reducible rfl
                    rotate_left
                    · simp only [Act.put, List.setIfInBounds_toArray, List.set_cons_zero, List.set_cons_succ, i64_w, i32_w]
                      rfl
                    refine take_ (i := 5) (N := some 53) (v := ?_) (a' := ?_) #[true, true, true, false, true, true, false, false] rfl rfl (take_ofW HT_.out HW_.out (by kernel_rfl)) (fun _ _ _ h => h) (Or.inl ⟨by rfl, ?_⟩) hHeld ?_ ?_
                    rotate_left
                    · rintro w' ⟨s0, s1⟩
                      go_simp
                      with_reducible rfl
                    rotate_left
                    · simp only [Act.put, List.setIfInBounds_toArray, List.set_cons_zero, List.set_cons_succ, i64_w, i32_w]
                      rfl
                    refine one_ (i := 3) (N := some 51) #[true, true, true, true, true, true, false, false] rfl rfl (one_of HT_.out (by kernel_rfl)) (by decide) (fun K hK => ?_)
                    refine Kd.R_make0_step k39 _ 39 (by rfl) (N := 51) rfl 22 _ _ rfl (l0_1.length : Int) rfl rfl Try.underlying22 (.agg #[(.int .i64 0), (.int .i64 0), (.int .i64 0)]) 24 info39 (by omega) (ok := fun _ => True) trivial (of_decide_eq_true (by first | (with_reducible assumption) | assumption)) (Nat.le_trans (Nat.mul_le_mul_right _ (of_decide_eq_true (by first | (with_reducible assumption) | assumption) : (l0_1.length : Int).toNat ≤ 11728124029610)) (by omega)) (Below.refl _ _) (Nat.le_refl _) ?_
                    intro v105 w35 ho36 hb hg_ hnew_
                    clear hg_ hnew_
                    (first | rw [← Ny104.out] at ho36 | (simp only [Int.reduceToNat] at ho36; rw [← Ny104.out] at ho36))
                    have n0_ := Aside0.mk (Kd.R_lower ho36 (below_size (by repeat (first | (with_reducible first | exact HB.out | apply below_alloc | apply pw_below_drewN | apply below_drew1 | refine below_set ?_ GE101.out) | exact HB.out))))
                    have n1_ := Aside0.mk (blk_below (g := gb101) (o := .cells #[.int .i64 a0_0, .slice A0_1 l0_1.length c0_1] 24 (0, 0)) (by (with_reducible repeat (first | refine blk_drewN ?_ _ | refine blk_drew ?_ | refine blk_alloc ?_ _)); exact BK101.out) hb)
                    have n2_ := Aside0.mk (below_step (by repeat (first | (with_reducible first | exact HB.out | apply below_alloc | apply pw_below_drewN | apply below_drew1 | refine below_set ?_ GE101.out) | exact HB.out)) hb)
                    clear BK101
                    clear HB
                    have HO106 := n0_
                    have BK101 := n1_
                    have HB := n2_
                    clear n0_ n1_ n2_
                    clear hb ho36
                    refine hK.out _ _ ⟨(blk_cell BK101.out 0).trans rfl, (blk_cell BK101.out 1).trans rfl⟩ (fun hHeld => ?_)
                    clear hK K
                    refine norm_ (a' := ?_) ?_ ?_
                    rotate_left
                    · show Act.put _ (some 51) _ = _
                      simp only [Act.put, List.setIfInBounds_toArray, List.set_cons_zero, List.set_cons_succ, i64_w, i32_w]
                      rfl
                    refine one_ (i := 6) (N := some 54) #[true, true, true, true, true, true, true, false] rfl rfl (one_of HT_.out (by kernel_rfl)) (by decide) (fun K hK => ?_)
                    refine Kd.R_append_rows_step k39 (w0 := w) w.heap.size (by rfl) (.tmp 51) (.tmp 53) 22 39 (.agg #[(.int .i64 0), (.int .i64 0), (.int .i64 0)]) 24 rfl Try.underlying22 info39 rfl (by decide) (by omega) v105 y104 l0_1 _ _ _ (fun _ => True) (fun _ => False) rfl rfl ?aO ?aR (fun _ _ h => h) (fun _ h => h.elim) ?aF ?aB ?aS ?aL ?_
                    (case aR => repeat (first | exact (Kd.C_below HR0_1.out HB.out) | (with_reducible refine Kd.C_alloc ?_ _) | (with_reducible refine Kd.C_drewN ?_ _) | (with_reducible refine Kd.C_drew ?_)))
                    (case aB => exact (by repeat (first | (with_reducible first | exact HB.out | apply below_alloc | apply pw_below_drewN | apply below_drew1 | refine below_set ?_ GE101.out) | exact HB.out)))
                    (case aF => exact (fun _ _ => trivial))
                    (case aO => exact (by (with_reducible repeat (first | apply Kd.R_alloc | apply Kd.R_drewN | apply Kd.R_drew)); exact HO106.out))
                    (case aS => exact (below_size (by repeat (first | (with_reducible first | exact HB.out | apply below_alloc | apply pw_below_drewN | apply below_drew1 | refine below_set ?_ GE101.out) | exact HB.out))))
                    (case aL => have := LMc24.out; omega)
                    intro v108 w37 ho hb hg hat
                    rw [← Ny107.out] at ho
                    have n0_ := Aside0.mk (blk_grown (g := gb101) (o := .cells #[.int .i64 a0_0, .slice A0_1 l0_1.length c0_1] 24 (0, 0)) (by (with_reducible repeat (first | refine blk_drewN ?_ _ | refine blk_drew ?_ | refine blk_alloc ?_ _)); exact BK101.out) hg (Kd.R_ne HO106.out BK101.out (by decide)))
                    have n1_ := Aside0.mk (hb)
                    have n2_ := Aside0.mk (ho)
                    clear BK101
                    clear HB
                    clear HO106
                    have BK101 := n0_
                    have HB := n1_
                    have HO109 := n2_
                    clear n0_ n1_ n2_
                    clear ho hb hg hat
                    refine hK.out _ _ ⟨(blk_cell BK101.out 0).trans rfl, (blk_cell BK101.out 1).trans rfl⟩ (fun hHeld => ?_)
                    clear hK K
                    refine norm_ (a' := ?_) ?_ ?_
                    rotate_left
                    · show Act.put _ (some 54) _ = _
                      simp only [Act.put, List.setIfInBounds_toArray, List.set_cons_zero, List.set_cons_succ, i64_w, i32_w]
                      rfl
                    refine pure_ (i := 7) (N := some 13) (v := ?_) (a' := ?_) #[true, true, true, true, true, true, true, true] rfl rfl (any_of HT_.out (by kernel_rfl)) (fun _ _ _ h => h) (Or.inl ⟨by rfl, ?_⟩) ?_ ?_
                    rotate_left
                    · intro w'
                      go_simp
                      with_reducible rfl
                    rotate_left
                    · simp only [Act.put, List.setIfInBounds_toArray, List.set_cons_zero, List.set_cons_succ, i64_w, i32_w]
                      rfl
                    refine done_ (done_of HT_.out (by kernel_rfl)) ?_
                    try go_wp2
                    have n0_ := Aside0.mk (Kd.R_drew HO109.out)
                    have n1_ := Aside0.mk (blk_drew BK101.out)
                    have n2_ := Aside0.mk (below_drew1 HB.out)
                    clear HO109
                    clear BK101
                    clear HB
                    have HO109 := n0_
                    have BK101 := n1_
                    have HB := n2_
                    clear n0_ n1_ n2_
                    obtain ⟨Ao39, co39, eo39⟩ := Kd.R_slice HO109.out
                    (first | subst eo39 | (injection eo39 with f1_ f2_ f3_; have f4_ := f1_.symm; have f5_ := f3_.symm; clear f1_ f2_ f3_; subst f4_; subst f5_))
                    have p110 : 0 ≤ ((ji26) : Int) := of_decide_eq_true (by first | (with_reducible assumption) | assumption)
                    have q110 : (ji26) < (y107.length : Int) := of_decide_eq_true (by first | (with_reducible assumption) | assumption)
                    obtain ⟨ad110, e110, hx110_0, hx110_1, hx110_2⟩ := at_T39 (Kd.R_reads' HO109.out).2.2 (ji26) p110 q110
                    cases e110
                    replace p110 := eq_true p110
                    replace q110 := eq_true q110
                    have p30 : 0 ≤ ((ji26) : Int) := of_decide_eq_true (by first | (with_reducible assumption) | assumption)
                    have q30 : ((ji26) : Int) < ((y107.length : Int) : Int) := of_decide_eq_true (by first | (with_reducible assumption) | assumption)
                    obtain ⟨go30, co30, eo30, gb30, gl30, cl30, HG30⟩ := Kd.R_form HO109.out (by omega)
                    (first | cases eo30 | (injection eo30 with ea_ en_ ec_; (first | subst ea_ | (injection ea_ with ea_; subst ea_)); subst ec_; clear en_))
                    have GB30 := Aside0.mk gb30
                    have GG30 := Aside0.mk HG30
                    clear gb30 gl30 HG30
                    (first | simp only [add_plain] at hx110_0 | skip)
                    (first | simp only [add_plain] at hx110_1 | skip)
                    (first | simp only [add_plain] at hx110_2 | skip)
                    obtain ⟨ce30, hcl30, hM30, hcc30, hfr30⟩ := Kd.R_elem HO109.out z39 ((ji26) : Int) p30 q30
                    obtain rfl := k39_openM hM30
                    have hx30_0 : World.cell? _ ⟨go30, ((ji26) : Int).toNat * 3, none⟩ = some (.int .i64 ((rd_T39 y107 (ji26)).f0)) := hcc30 0 _ rfl
                    have hx30_1 : World.cell? _ ⟨go30, ((ji26) : Int).toNat * 3 + 1, none⟩ = some (.int .i64 ((rd_T39 y107 (ji26)).f1)) := hcc30 1 _ rfl
                    have hx30_2 : World.cell? _ ⟨go30, ((ji26) : Int).toNat * 3 + 2, none⟩ = some (.int .i64 ((rd_T39 y107 (ji26)).f2)) := hcc30 2 _ rfl
                    have hf30_0 : World.frozen? _ ⟨go30, ((ji26) : Int).toNat * 3, none⟩ = false := hfr30 0
                    have hf30_1 : World.frozen? _ ⟨go30, ((ji26) : Int).toNat * 3 + 1, none⟩ = false := hfr30 1
                    have hf30_2 : World.frozen? _ ⟨go30, ((ji26) : Int).toNat * 3 + 2, none⟩ = false := hfr30 2
                    clear hcl30 hcc30 hfr30 hM30
                    replace p30 := eq_true p30
                    replace q30 := eq_true q30
                    obtain ⟨ce40, hcl40, hM40, hcc40, hfr40⟩ := Kd.R_elem HO109.out z39 ((ji26) : Int) (of_decide_eq_true (by first | (with_reducible assumption) | assumption)) (by have h_ : ((ji26) : Int) < ((y107.length : Int) : Int) := of_decide_eq_true (by first | (with_reducible assumption) | assumption); first | exact h_ | (have e_ := (Kd.R_reads' HO109.out).1; omega) | simpa using h_)
                    obtain rfl := k39_openM hM40
                    have HP40 := (Kd.R_seg HO109.out ((ji26) : Int) (of_decide_eq_true (by first | (with_reducible assumption) | assumption)) (by have h_ : ((ji26) : Int) < ((y107.length : Int) : Int) := of_decide_eq_true (by first | (with_reducible assumption) | assumption); first | exact h_ | (have e_ := (Kd.R_reads' HO109.out).1; omega) | simpa using h_) (seg := [.int .i64 ji29]) (j := 2) hcl40 hcc40 (show 3 ≤ 3 from by decide) (x' := (⟨(rd_T39 y107 (ji26)).f0, (rd_T39 y107 (ji26)).f1, ji29⟩ : S39)) (k39_mkM _ _ _ (⟨(rd_T39 y107 (ji26)).f0, (rd_T39 y107 (ji26)).f1, ji29⟩ : S39) ) (fun _ hk => hk)).1
                    rw [← Ny111.out] at HP40
                    have HQ40 := Aside0.mk HP40
                    clear hcl40 hcc40 hfr40 hM40 HP40
                    refine start_ (n := 19) (S := fun w' => w'.cell? ⟨go30, (((ji26)).toNat * 3), none⟩ = some (.int .i64 ((rd_T39 y107 (ji26)).f0)) ∧ w'.cell? ⟨go30, ((ji26)).toNat * 3 + 1, none⟩ = some (.int .i64 ((rd_T39 y107 (ji26)).f1)) ∧ w'.cell? ⟨go30, ((ji26)).toNat * 3 + 2, none⟩ = some (.int .i64 ((rd_T39 y107 (ji26)).f2))) (ds := [18]) #[false, false, false, false, false, false, false, false, false, false, false, false, false, false, false, false, false, false, false] (by kernel_rfl) rfl rfl ⟨hx110_0, hx110_1, hx110_2⟩ (fun hHeld => ?_); refine with_tabW chargeparklaw21_FlowMoreRoom.tab6 chargeparklaw21_FlowMoreRoom.bits6 (fun HT_ HW_ => ?_)
                    generalize w37.drew = w38 at HO109 BK101 HB GG30 HQ40 hf30_0 hf30_1 hf30_2 hx110_0 hx110_1 hx110_2 hx30_0 hx30_1 hx30_2 hHeld ⊢
                    refine pure_ (i := 0) (N := some 55) (v := ?_) (a' := ?_) #[true, false, false, false, false, false, false, false, false, false, false, false, false, false, false, false, false, false, false] rfl rfl (any_of HT_.out (by kernel_rfl)) (fun _ _ _ h => h) (Or.inl ⟨by rfl, ?_⟩) ?_ ?_
                    rotate_left
                    · intro w'
                      go_simp
                      with_reducible rfl
                    rotate_left
                    · simp only [Act.put, List.setIfInBounds_toArray, List.set_cons_zero, List.set_cons_succ, i64_w, i32_w]
                      rfl
                    refine pure_ (i := 1) (N := some 56) (v := ?_) (a' := ?_) #[true, true, false, false, false, false, false, false, false, false, false, false, false, false, false, false, false, false, false] rfl rfl (any_of HT_.out (by kernel_rfl)) (fun _ _ _ h => h) (Or.inl ⟨by rfl, ?_⟩) ?_ ?_
                    rotate_left
                    · intro w'
                      go_simp
                      with_reducible rfl
                    rotate_left
                    · simp only [Act.put, List.setIfInBounds_toArray, List.set_cons_zero, List.set_cons_succ, i64_w, i32_w]
                      rfl
                    refine pure_ (i := 2) (N := some 57) (v := ?_) (a' := ?_) #[true, true, true, false, false, false, false, false, false, false, false, false, false, false, false, false, false, false, false] rfl rfl (any_of HT_.out (by kernel_rfl)) (fun _ _ _ h => h) (Or.inl ⟨by rfl, ?_⟩) ?_ ?_
                    rotate_left
                    · intro w'
                      go_simp
                      with_reducible rfl
                    rotate_left
                    · simp only [Act.put, List.setIfInBounds_toArray, List.set_cons_zero, List.set_cons_succ, i64_w, i32_w]
                      rfl
                    refine pure_ (i := 3) (N := some 58) (v := ?_) (a' := ?_) #[true, true, true, true, false, false, false, false, false, false, false, false, false, false, false, false, false, false, false] rfl rfl (any_of HT_.out (by kernel_rfl)) (fun _ _ _ h => h) (Or.inl ⟨by rfl, ?_⟩) ?_ ?_
                    rotate_left
                    · intro w'
                      go_simp
                      with_reducible rfl
                    rotate_left
                    · simp only [Act.put, List.setIfInBounds_toArray, List.set_cons_zero, List.set_cons_succ, i64_w, i32_w]
                      rfl
                    refine pure_ (i := 4) (N := some 59) (v := ?_) (a' := ?_) #[true, true, true, true, true, false, false, false, false, false, false, false, false, false, false, false, false, false, false] rfl rfl (any_of HT_.out (by kernel_rfl)) (fun _ _ _ h => h) (Or.inl ⟨by rfl, ?_⟩) ?_ ?_
                    rotate_left
                    · intro w'
                      go_simp
                      with_reducible rfl
                    rotate_left
                    · simp only [Act.put, List.setIfInBounds_toArray, List.set_cons_zero, List.set_cons_succ, i64_w, i32_w]
                      rfl
                    refine pure_ (i := 5) (N := some 60) (v := ?_) (a' := ?_) #[true, true, true, true, true, true, false, false, false, false, false, false, false, false, false, false, false, false, false] rfl rfl (any_of HT_.out (by kernel_rfl)) (fun _ _ _ h => h) (Or.inl ⟨by rfl, ?_⟩) ?_ ?_
                    rotate_left
                    · intro w'
                      go_simp
                      with_reducible rfl
                    rotate_left
                    · simp only [Act.put, List.setIfInBounds_toArray, List.set_cons_zero, List.set_cons_succ, i64_w, i32_w]
                      rfl
                    refine pure_ (i := 6) (N := some 61) (v := ?_) (a' := ?_) #[true, true, true, true, true, true, true, false, false, false, false, false, false, false, false, false, false, false, false] rfl rfl (any_of HT_.out (by kernel_rfl)) (fun _ _ _ h => h) (Or.inl ⟨by rfl, ?_⟩) ?_ ?_
                    rotate_left
                    · intro w'
                      go_simp
                      with_reducible rfl
                    rotate_left
                    · simp only [Act.put, List.setIfInBounds_toArray, List.set_cons_zero, List.set_cons_succ, i64_w, i32_w]
                      rfl
                    refine pure_ (i := 7) (N := some 62) (v := ?_) (a' := ?_) #[true, true, true, true, true, true, true, true, false, false, false, false, false, false, false, false, false, false, false] rfl rfl (any_of HT_.out (by kernel_rfl)) (fun _ _ _ h => h) (Or.inl ⟨by rfl, ?_⟩) ?_ ?_
                    rotate_left
                    · intro w'
                      go_simp
                      with_reducible rfl
                    rotate_left
                    · simp only [Act.put, List.setIfInBounds_toArray, List.set_cons_zero, List.set_cons_succ, i64_w, i32_w]
                      rfl
                    refine pure_ (i := 8) (N := some 63) (v := ?_) (a' := ?_) #[true, true, true, true, true, true, true, true, true, false, false, false, false, false, false, false, false, false, false] rfl rfl (any_of HT_.out (by kernel_rfl)) (fun _ _ _ h => h) (Or.inl ⟨by rfl, ?_⟩) ?_ ?_
                    rotate_left
                    · intro w'
                      go_simp
                      with_reducible rfl
                    rotate_left
                    · simp only [Act.put, List.setIfInBounds_toArray, List.set_cons_zero, List.set_cons_succ, i64_w, i32_w]
                      rfl
                    refine pure_ (i := 9) (N := some 64) (v := ?_) (a' := ?_) #[true, true, true, true, true, true, true, true, true, true, false, false, false, false, false, false, false, false, false] rfl rfl (any_of HT_.out (by kernel_rfl)) (fun _ _ _ h => h) (Or.inl ⟨by rfl, ?_⟩) ?_ ?_
                    rotate_left
                    · intro w'
                      go_simp
                      with_reducible rfl
                    rotate_left
                    · simp only [Act.put, List.setIfInBounds_toArray, List.set_cons_zero, List.set_cons_succ, i64_w, i32_w]
                      rfl
                    refine pure_ (i := 10) (N := some 65) (v := ?_) (a' := ?_) #[true, true, true, true, true, true, true, true, true, true, true, false, false, false, false, false, false, false, false] rfl rfl (any_of HT_.out (by kernel_rfl)) (fun _ _ _ h => h) (Or.inl ⟨by rfl, ?_⟩) ?_ ?_
                    rotate_left
                    · intro w'
                      go_simp
                      with_reducible rfl
                    rotate_left
                    · simp only [Act.put, List.setIfInBounds_toArray, List.set_cons_zero, List.set_cons_succ, i64_w, i32_w]
                      rfl
                    refine pure_ (i := 11) (N := some 66) (v := ?_) (a' := ?_) #[true, true, true, true, true, true, true, true, true, true, true, true, false, false, false, false, false, false, false] rfl rfl (any_of HT_.out (by kernel_rfl)) (fun _ _ _ h => h) (Or.inl ⟨by rfl, ?_⟩) ?_ ?_
                    rotate_left
                    · intro w'
                      go_simp
                      with_reducible rfl
                    rotate_left
                    · simp only [Act.put, List.setIfInBounds_toArray, List.set_cons_zero, List.set_cons_succ, i64_w, i32_w]
                      rfl
                    refine pure_ (i := 13) (N := some 68) (v := ?_) (a' := ?_) #[true, true, true, true, true, true, true, true, true, true, true, true, false, true, false, false, false, false, false] rfl rfl (any_of HT_.out (by kernel_rfl)) (fun _ _ _ h => h) (Or.inl ⟨by rfl, ?_⟩) ?_ ?_
                    rotate_left
                    · intro w'
                      go_simp
                      with_reducible rfl
                    rotate_left
                    · simp only [Act.put, List.setIfInBounds_toArray, List.set_cons_zero, List.set_cons_succ, i64_w, i32_w]
                      rfl
                    refine take_ (i := 12) (N := some 67) (v := ?_) (a' := ?_) #[true, true, true, true, true, true, true, true, true, true, true, true, true, true, false, false, false, false, false] rfl rfl (take_ofW HT_.out HW_.out (by kernel_rfl)) (fun _ _ _ h => h) (Or.inl ⟨by rfl, ?_⟩) hHeld ?_ ?_
                    rotate_left
                    · rintro w' ⟨s0, s1, s2⟩
                      go_simp
                      with_reducible rfl
                    rotate_left
                    · simp only [Act.put, List.setIfInBounds_toArray, List.set_cons_zero, List.set_cons_succ, i64_w, i32_w]
                      rfl
                    refine pure_ (i := 14) (N := some 69) (v := ?_) (a' := ?_) #[true, true, true, true, true, true, true, true, true, true, true, true, true, true, true, false, false, false, false] rfl rfl (any_of HT_.out (by kernel_rfl)) (fun _ _ _ h => h) (Or.inl ⟨by rfl, ?_⟩) ?_ ?_
                    rotate_left
                    · intro w'
                      go_simp
                      with_reducible rfl
                    rotate_left
                    · simp only [Act.put, List.setIfInBounds_toArray, List.set_cons_zero, List.set_cons_succ, i64_w, i32_w]
                      rfl
                    refine pure_ (i := 15) (N := some 70) (v := ?_) (a' := ?_) #[true, true, true, true, true, true, true, true, true, true, true, true, true, true, true, true, false, false, false] rfl rfl (any_of HT_.out (by kernel_rfl)) (fun _ _ _ h => h) (Or.inl ⟨by rfl, ?_⟩) ?_ ?_
                    rotate_left
                    · intro w'
                      go_simp
                      with_reducible rfl
                    rotate_left
                    · simp only [Act.put, List.setIfInBounds_toArray, List.set_cons_zero, List.set_cons_succ, i64_w, i32_w]
                      rfl
                    refine pure_ (i := 16) (N := some 71) (v := ?_) (a' := ?_) #[true, true, true, true, true, true, true, true, true, true, true, true, true, true, true, true, true, false, false] rfl rfl (any_of HT_.out (by kernel_rfl)) (fun _ _ _ h => h) (Or.inl ⟨by rfl, ?_⟩) ?_ ?_
                    rotate_left
                    · intro w'
                      go_simp
                      with_reducible rfl
                    rotate_left
                    · simp only [Act.put, List.setIfInBounds_toArray, List.set_cons_zero, List.set_cons_succ, i64_w, i32_w]
                      rfl
                    refine pure_ (i := 17) (N := some 72) (v := ?_) (a' := ?_) #[true, true, true, true, true, true, true, true, true, true, true, true, true, true, true, true, true, true, false] rfl rfl (any_of HT_.out (by kernel_rfl)) (fun _ _ _ h => h) (Or.inl ⟨by rfl, ?_⟩) ?_ ?_
                    rotate_left
                    · intro w'
                      go_simp
                      with_reducible rfl
                    rotate_left
                    · simp only [Act.put, List.setIfInBounds_toArray, List.set_cons_zero, List.set_cons_succ, i64_w, i32_w]
                      rfl
                    refine last_ (i := 18) (N := none) #[true, true, true, true, true, true, true, true, true, true, true, true, true, true, true, true, true, true, true] rfl rfl (one_of HT_.out (by kernel_rfl)) (by decide) (fun K hK => ?_)
                    refine skip_ (w1 := ?_) (by rfl) rfl ?_ ?_
                    rotate_left
                    · go_simp
                      rfl
                    refine hK.out _ _ ?_
                    clear hK K
                    refine done_ (done_of HT_.out (by kernel_rfl)) ?_
                    have hcz41_0 : w38.cell? ⟨gb101, 0, none⟩ = some (.int .i64 a0_0) := (blk_cell BK101.out 0).trans rfl
                    have hcz41_1 : w38.cell? ⟨gb101, 1, none⟩ = some (.slice A0_1 l0_1.length c0_1) := (blk_cell BK101.out 1).trans rfl
                    have hfz41_0 := blk_frozen BK101.out 0
                    have hfz41_1 := blk_frozen BK101.out 1
                    go_upto_region 9 with (first | ((with_reducible refine gate_callee (f := 14) rfl ?_); refine goesL_ (some 77) rfl rfl Try.func14 (by kernel_rfl) rfl #[.agg #[.int .i64 a0_0, .slice A0_1 l0_1.length c0_1], .int .i64 a1, .int .i64 a2] rfl (by (try simp only [List.map_toArray, List.map_cons, List.map_nil]); first | done | rfl | (simp only [List.length_drop, List.length_take]; rfl)) ?_; (with_reducible refine (flow_Most.calls a0_0 _ _ l0_1 a1 a2 t112 t113 t116 t119 _ ?side1 ?side2 A31.out).mono ?_); (case side1 => exact Kd.C_below HR0_1.out (by repeat (first | (with_reducible first | exact HB.out | apply below_alloc | apply pw_below_drewN | apply below_drew1 | refine below_set ?_ GB30.out | refine below_set ?_ GE101.out) | exact HB.out))); (case side2 => exact HC0_1.out); rintro e w42 ⟨v114, v117, rfl, ho0, ho1, hb⟩; refine ⟨_, rfl, ?_⟩; have n0_ := Aside0.mk (Kd.R_below (by (with_reducible repeat (first | apply Kd.R_alloc | apply Kd.R_drewN | apply Kd.R_drew)); exact HQ40.out) hb); have n1_ := Aside0.mk (Kd.R_lower ho0 (below_size (by repeat (first | (with_reducible first | exact HB.out | apply below_alloc | apply pw_below_drewN | apply below_drew1 | refine below_set ?_ GB30.out | refine below_set ?_ GE101.out) | exact HB.out)))); have n2_ := Aside0.mk (Kd.R_lower ho1 (below_size (by repeat (first | (with_reducible first | exact HB.out | apply below_alloc | apply pw_below_drewN | apply below_drew1 | refine below_set ?_ GB30.out | refine below_set ?_ GE101.out) | exact HB.out)))); have n3_ := Aside0.mk (blk_below (g := gb101) (o := .cells #[.int .i64 a0_0, .slice A0_1 l0_1.length c0_1] 24 (0, 0)) (by (with_reducible repeat (first | refine blk_drewN ?_ _ | refine blk_drew ?_ | refine blk_alloc ?_ _)); refine blk_far ?_ (by have h_ := Kd.R_ne HO109.out BK101.out (by decide); intro e_; exact h_ (by rw [e_]; rfl)) _; (with_reducible repeat (first | refine blk_drewN ?_ _ | refine blk_drew ?_ | refine blk_alloc ?_ _)); exact BK101.out) hb); have n4_ := Aside0.mk (below_step (by repeat (first | (with_reducible first | exact HB.out | apply below_alloc | apply pw_below_drewN | apply below_drew1 | refine below_set ?_ GB30.out | refine below_set ?_ GE101.out) | exact HB.out)) hb); clear HO109; clear BK101; clear HB; have HO109 := n0_; have HO115 := n1_; have HO118 := n2_; have BK101 := n3_; have HB := n4_; clear n0_ n1_ n2_ n3_ n4_; (try clear hb); (try clear hb2); (try clear hk); (try clear hi); (try clear ho0); (try clear ho1); have hcz43_0 : w42.cell? ⟨gb101, 0, none⟩ = some (.int .i64 a0_0) := (blk_cell BK101.out 0).trans rfl; have hcz43_1 : w42.cell? ⟨gb101, 1, none⟩ = some (.slice A0_1 l0_1.length c0_1) := (blk_cell BK101.out 1).trans rfl; have hfz43_0 := blk_frozen BK101.out 0; have hfz43_1 := blk_frozen BK101.out 1) | ((with_reducible refine gate_callee (f := 14) rfl ?_); refine goesL_ (some 89) rfl rfl Try.func14 (by kernel_rfl) rfl #[.agg #[.int .i64 a0_0, .slice (some ⟨go30, 0, none⟩) y111.length co39], .int .i64 a1, .int .i64 a2] rfl (by (try simp only [List.map_toArray, List.map_cons, List.map_nil]); first | done | (rw [show y111.length = y107.length from (Kd.R_reads' HO109.out).1.symm] <;> rfl) | rfl | (simp only [List.length_drop, List.length_take]; rfl)) ?_; (with_reducible refine (flow_Most.calls a0_0 _ _ y111 a1 a2 t120 t121 t124 t127 _ ?side1 ?side2 A32.out).mono ?_); (case side1 => repeat (first | exact (Kd.R_reads' HO109.out).2.2 | (with_reducible refine Kd.C_alloc ?_ _) | (with_reducible refine Kd.C_drewN ?_ _) | (with_reducible refine Kd.C_drew ?_))); (case side2 => rw [show y111.length = y107.length from (Kd.R_reads' HO109.out).1.symm]; exact (Kd.R_reads' HO109.out).2.1); rintro e w44 ⟨v122, v125, rfl, ho0, ho1, hb⟩; refine ⟨_, rfl, ?_⟩; have n0_ := Aside0.mk (Kd.R_below (by (with_reducible repeat (first | apply Kd.R_alloc | apply Kd.R_drewN | apply Kd.R_drew)); exact HO109.out) hb); have n1_ := Aside0.mk (Kd.R_elder' (by (with_reducible repeat (first | apply Kd.R_alloc | apply Kd.R_drewN | apply Kd.R_drew)); exact HO115.out) (Kd.R_base ho0) hb); have n2_ := Aside0.mk (Kd.R_elder' (by (with_reducible repeat (first | apply Kd.R_alloc | apply Kd.R_drewN | apply Kd.R_drew)); exact HO118.out) (Kd.R_base ho1) hb); have n3_ := Aside0.mk (Kd.R_lower (Kd.R_new' ho0 (Kd.R_lt (by (with_reducible repeat (first | apply Kd.R_alloc | apply Kd.R_drewN | apply Kd.R_drew)); exact HO115.out))) (below_size (by repeat (first | (with_reducible first | exact HB.out | apply below_alloc | apply pw_below_drewN | apply below_drew1 | refine below_set ?_ GE101.out) | exact HB.out)))); have n4_ := Aside0.mk (Kd.R_lower (Kd.R_new' ho1 (Kd.R_lt (by (with_reducible repeat (first | apply Kd.R_alloc | apply Kd.R_drewN | apply Kd.R_drew)); exact HO118.out))) (below_size (by repeat (first | (with_reducible first | exact HB.out | apply below_alloc | apply pw_below_drewN | apply below_drew1 | refine below_set ?_ GE101.out) | exact HB.out)))); have n5_ := Aside0.mk (blk_below (g := gb101) (o := .cells #[.int .i64 a0_0, .slice A0_1 l0_1.length c0_1] 24 (0, 0)) (by (with_reducible repeat (first | refine blk_drewN ?_ _ | refine blk_drew ?_ | refine blk_alloc ?_ _)); exact BK101.out) hb); have n6_ := Aside0.mk (below_step (by repeat (first | (with_reducible first | exact HB.out | apply below_alloc | apply pw_below_drewN | apply below_drew1 | refine below_set ?_ GE101.out) | exact HB.out)) hb); clear HO109; clear HO115; clear HO118; clear BK101; clear HB; have HO109 := n0_; have HO115 := n1_; have HO118 := n2_; have HO123 := n3_; have HO126 := n4_; have BK101 := n5_; have HB := n6_; clear n0_ n1_ n2_ n3_ n4_ n5_ n6_; (try clear hb); (try clear hb2); (try clear hk); (try clear hi); (try clear ho0); (try clear ho1)))
                    (try simp only [Act.put, List.setIfInBounds_toArray, List.set_cons_zero, List.set_cons_succ])
                    go_cut [10] (fun v10 wc => ∃ (kq : Nat) (x10_32 : Bool), v10 = .bool x10_32 ∧ Aside0 (chargeparklaw21_FlowMoreRoom.j1 kq x10_32 = some r) ∧ Aside0 (kq ≤ kj7) ∧ Aside0 (wc.heap[gb101]? = some (.cells #[.int .i64 a0_0, (.slice A0_1 l0_1.length c0_1)] 24 (0, 0))) ∧ Aside0 (Below w.heap.size w wc))
                    case first =>
                      have H := HC33.out
                      clear HC33
                      by_cases c45 : t102 = true
                      · subst c45
                        have H1 : (if t119 = 0 then (if t127 = 0 then (if t120 ≥ t112 then (chargeparklaw21_FlowMoreRoom.j1 kj7 (decide (t120 ≤ (wrap64 (t112 + a4))))) else (chargeparklaw21_FlowMoreRoom.j1 kj7 false)) else (chargeparklaw21_FlowMoreRoom.j1 kj7 false)) else (chargeparklaw21_FlowMoreRoom.j1 kj7 false)) = some r := by rw [if_pos rfl] at H; exact H
                        clear H
                        have H := H1
                        clear H1
                        by_cases c46 : t119 = 0
                        · rw [if_pos c46] at H
                          have c46b0 : (t119 == 0) = true := beq_iff_eq.mpr c46
                          have c46b1 : (t119 != 0) = false := bne_eq_false_iff_eq.mpr c46
                          clear c46
                          (first | rw [c46b0] | (simp only [i64_w, i32_w]; rw [c46b0]) | skip)
                          by_cases c47 : t127 = 0
                          · rw [if_pos c47] at H
                            have c47b0 : (t127 == 0) = true := beq_iff_eq.mpr c47
                            have c47b1 : (t127 != 0) = false := bne_eq_false_iff_eq.mpr c47
                            clear c47
                            by_cases c48 : t120 ≥ t112
                            · rw [if_pos c48] at H
                              have c48b0 : decide (t112 ≤ t120) = true := decide_eq_true c48
                              clear c48
                              have H' := Aside0.mk H
                              clear H
                              go_wp2
                              go_meet
                              case rel => exact ⟨_, (decide (t120 ≤ (wrap64 (t112 + a4)))), (by first | rfl | (simp; done) | (simp [*]; done)), H', ⟨by have := HJ7.out; first | omega | exact Nat.le_refl _⟩, ⟨by (with_reducible repeat (first | refine blk_drewN ?_ _ | refine blk_drew ?_ | refine blk_alloc ?_ _)); exact BK101.out⟩, ⟨by repeat (first | (with_reducible first | exact HB.out | apply below_alloc | apply pw_below_drewN | apply below_drew1 | refine below_set ?_ GE101.out) | exact HB.out)⟩⟩
                            · rw [if_neg c48] at H
                              have c48b0 : decide (t112 ≤ t120) = false := decide_eq_false c48
                              clear c48
                              have H' := Aside0.mk H
                              clear H
                              go_wp2
                              go_meet
                              case rel => exact ⟨_, (false), (by first | rfl | (simp; done) | (simp [*]; done)), H', ⟨by have := HJ7.out; first | omega | exact Nat.le_refl _⟩, ⟨by (with_reducible repeat (first | refine blk_drewN ?_ _ | refine blk_drew ?_ | refine blk_alloc ?_ _)); exact BK101.out⟩, ⟨by repeat (first | (with_reducible first | exact HB.out | apply below_alloc | apply pw_below_drewN | apply below_drew1 | refine below_set ?_ GE101.out) | exact HB.out)⟩⟩
                          · rw [if_neg c47] at H
                            have c47b0 : (t127 == 0) = false := beq_eq_false_iff_ne.mpr c47
                            have c47b1 : (t127 != 0) = true := bne_iff_ne.mpr c47
                            have H' := Aside0.mk H
                            clear H
                            go_wp2
                            go_meet
                            case rel => exact ⟨_, (false), (by first | rfl | (simp; done) | (simp [*]; done)), H', ⟨by have := HJ7.out; first | omega | exact Nat.le_refl _⟩, ⟨by (with_reducible repeat (first | refine blk_drewN ?_ _ | refine blk_drew ?_ | refine blk_alloc ?_ _)); exact BK101.out⟩, ⟨by repeat (first | (with_reducible first | exact HB.out | apply below_alloc | apply pw_below_drewN | apply below_drew1 | refine below_set ?_ GE101.out) | exact HB.out)⟩⟩
                        · rw [if_neg c46] at H
                          have c46b0 : (t119 == 0) = false := beq_eq_false_iff_ne.mpr c46
                          have c46b1 : (t119 != 0) = true := bne_iff_ne.mpr c46
                          (first | rw [c46b0] | (simp only [i64_w, i32_w]; rw [c46b0]) | skip)
                          have H' := Aside0.mk H
                          clear H
                          go_wp2
                          go_meet
                          case rel => exact ⟨_, (false), (by first | rfl | (simp; done) | (simp [*]; done)), H', ⟨by have := HJ7.out; first | omega | exact Nat.le_refl _⟩, ⟨by (with_reducible repeat (first | refine blk_drewN ?_ _ | refine blk_drew ?_ | refine blk_alloc ?_ _)); exact BK101.out⟩, ⟨by repeat (first | (with_reducible first | exact HB.out | apply below_alloc | apply pw_below_drewN | apply below_drew1 | refine below_set ?_ GE101.out) | exact HB.out)⟩⟩
                      · replace c45 := Bool.eq_false_iff.mpr c45
                        subst c45
                        have H1 : (chargeparklaw21_FlowMoreRoom.j1 kj7 false) = some r := by rw [if_neg (show ¬ (false = true) by decide)] at H; exact H
                        clear H
                        have H := H1
                        clear H1
                        have H' := Aside0.mk H
                        clear H
                        go_wp2
                        go_meet
                        case rel => exact ⟨_, (false), (by first | rfl | (simp; done) | (simp [*]; done)), H', ⟨by have := HJ7.out; first | omega | exact Nat.le_refl _⟩, ⟨by (with_reducible repeat (first | refine blk_drewN ?_ _ | refine blk_drew ?_ | refine blk_alloc ?_ _)); exact BK101.out⟩, ⟨by repeat (first | (with_reducible first | exact HB.out | apply below_alloc | apply pw_below_drewN | apply below_drew1 | refine below_set ?_ GE101.out) | exact HB.out)⟩⟩
                    case rest =>
                      clear HC33
                      try clear c1
                      try clear p1
                      try clear q1
                      try clear hx1
                      try clear c2
                      try clear p2
                      try clear c3
                      try clear p3
                      try clear q3
                      try clear hx3
                      try clear c4
                      try clear p6
                      try clear c7
                      try clear c10
                      try clear p11
                      try clear q11
                      try clear hx11
                      try clear c13
                      try clear c14
                      try clear c14b0
                      try clear c14b1
                      try clear c14b2
                      try clear c16
                      try clear c16b0
                      try clear c18
                      try clear c18b0
                      try clear c21
                      try clear c22
                      try clear c22b0
                      try clear c22b1
                      try clear c23
                      try clear c23b0
                      try clear c23b1
                      try clear c24
                      try clear c25
                      try clear c25b0
                      try clear c25b1
                      try clear c25b2
                      try clear c27
                      try clear c27b0
                      try clear c28
                      try clear c28b0
                      try clear c30
                      try clear p30
                      try clear q30
                      try clear hx30
                      try clear hf30
                      try clear c40
                      try clear c45
                      try clear c46
                      try clear c46b0
                      try clear c46b1
                      try clear c47
                      try clear c47b0
                      try clear c47b1
                      try clear c48
                      try clear c48b0
                      try clear hcz11_0
                      try clear hcz11_1
                      try clear hcz15_0
                      try clear hcz15_1
                      try clear hcz17_0
                      try clear hcz17_1
                      try clear hcz19_0
                      try clear hcz19_1
                      try clear hcz20_0
                      try clear hcz20_1
                      try clear hcz41_0
                      try clear hcz41_1
                      try clear hcz43_0
                      try clear hcz43_1
                      try clear hfz11_0
                      try clear hfz11_1
                      try clear hfz15_0
                      try clear hfz15_1
                      try clear hfz17_0
                      try clear hfz17_1
                      try clear hfz19_0
                      try clear hfz19_1
                      try clear hfz20_0
                      try clear hfz20_1
                      try clear hfz41_0
                      try clear hfz41_1
                      try clear hfz43_0
                      try clear hfz43_1
                      try clear hx110_0
                      try clear hx110_1
                      try clear hx110_2
                      try clear hx30_0
                      try clear hx30_1
                      try clear hx30_2
                      try clear p110
                      try clear p2
                      try clear p30
                      try clear q110
                      try clear q30
                      obtain ⟨kq, x10_32, rfl, HA, HJ32, BK101, HB⟩ := hcut
                      cases kq with
                      | zero => exact absurd HA.out (by simp [chargeparklaw21_FlowMoreRoom.j1])
                      | succ kj32 =>
                        have H := HA.out
                        clear HA
                        simp only [chargeparklaw21_FlowMoreRoom.j1] at H
                        obtain rfl := Option.some.inj H
                        go_wp2
                        go_ret
                        exact ⟨by first | rfl | (simp [errW_none, errW_some] <;> rfl) | (simp only [← hji26, ← hji29]; first | rfl | (simp [errW_none, errW_some] <;> rfl)) | (simp [*, errW_none, errW_some] <;> rfl), by repeat (first | (with_reducible first | exact HB.out | apply below_alloc | apply pw_below_drewN | apply below_drew1 | refine below_set ?_ GE101.out) | exact HB.out)⟩
                  · rw [if_neg c28] at H
                    exact absurd H (by simp)
                · rw [if_neg c27] at H
                  exact absurd H (by simp)
            · rw [if_neg c24] at H
              exact absurd H (by simp)
          · rw [if_neg c23] at H
            exact absurd H (by simp)
        · rw [if_neg c22] at H
          exact absurd H (by simp)

end Go.Proofs.Ytfjbbmgnfpeogaa.Pr
