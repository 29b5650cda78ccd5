-- Written by a program of this session over the kit's print.
import Derived.Test.YtfjbbmgnfpeogaaPr0
import Derived.Test.YtfjbbmgnfpeogaaMake0
import Derived.Test.YtfjbbmgnfpeogaaMost
import Derived.Test.YtfjbbmgnfpeogaaPr4
import Derived.Test.YtfjbbmgnfpeogaaPr5
namespace Go.Proofs.Ytfjbbmgnfpeogaa.Pr
open Go.RowKit Go.Proofs.YtfjbbmgnfpeogaaW.PrintWords Go.Proofs.YtfjbbmgnfpeogaaW.PrintLast Go.Proofs.YtfjbbmgnfpeogaaW.PrintMore
attribute [local go_sem] max2_int min2_int max_two min_two max_three min_three max_four min_four   -- for this text's walks alone
set_option linter.unusedVariables false
set_option linter.unusedSimpArgs false

/-! ### chargeparklaw21_FlowAnotherEdge: function 9 -/
mutual
def chargeparklaw21_FlowAnotherEdge.j0 : Nat → Int → Int → Int → Int → Int → Bool → Bool → Int → List (S39) → Option (Bool)
  | 0, _, _, _, _, _, _, _, _, _ => none
  | k + 1, x1, x2, x3, x4, x5, x13, x69, x102000, x102001 => if x69 = true then (some x13) else (if 512 ≤ 11728124029610 then ((some ([] : List (S39))).bind fun y104 => (if y104.length + x102001.length < 5864062014805 then ((some (y104 ++ x102001 : List (S39))).bind fun y107 => ((some (([(⟨x1, x2, x3⟩ : S39)] : List (S39)) : List (S39))).bind fun y110 => (if y107.length + y110.length < 5864062014805 then ((some ([] : List (S39))).bind fun y116 => (if y116.length + x102001.length < 5864062014805 then ((some (y116 ++ x102001 : List (S39))).bind fun y119 => ((some (([(⟨x4, x1, x3⟩ : S39), (⟨x2, x5, x3⟩ : S39)] : List (S39)) : List (S39))).bind fun y122 => (if y119.length + y122.length < 5864062014805 then ((flow_Most.f x102000 x102001 x1 x2).bind fun bt128 => ((flow_Most.f x102000 (y107 ++ y110) x1 x2).bind fun bt136 => ((flow_Most.f x102000 (y119 ++ y122) x1 x2).bind fun bt144 => (if x13 = true then (if bt128.2.2.2 = 0 then (if bt136.2.2.2 = 0 then (if bt144.2.2.2 = 0 then (if bt136.1 = (wrap64 (bt128.1 + x3)) then (chargeparklaw21_FlowAnotherEdge.j1 k (bt144.1 == bt128.1)) else (chargeparklaw21_FlowAnotherEdge.j1 k false)) else (chargeparklaw21_FlowAnotherEdge.j1 k false)) else (chargeparklaw21_FlowAnotherEdge.j1 k false)) else (chargeparklaw21_FlowAnotherEdge.j1 k false)) else (chargeparklaw21_FlowAnotherEdge.j1 k false))))) else (none)))) else (none))) else (none)))) else (none))) else (none))
def chargeparklaw21_FlowAnotherEdge.j1 : Nat → Bool → Option (Bool)
  | 0, _ => none
  | k + 1, x12 => some x12
end
def chargeparklaw21_FlowAnotherEdge.f (k : Nat) (a0_0 : Int) (l0_1 : List (S39)) (a1 : Int) (a2 : Int) (a3 : Int) (a4 : Int) (a5 : Int) : Option (Bool) := (chargeparklaw21_head.f k).bind fun t102 => ((chargeparkref21_Ends.f k a0_0 l0_1 a1 a2).bind fun t103 => (if t103 = true then (if (l0_1.length : Int) > 509 then (chargeparklaw21_FlowAnotherEdge.j0 k a1 a2 a3 a4 a5 t102 true a0_0 l0_1) else (if a3 < 0 then (chargeparklaw21_FlowAnotherEdge.j0 k a1 a2 a3 a4 a5 t102 true a0_0 l0_1) else (if a3 > 1000000 then (chargeparklaw21_FlowAnotherEdge.j0 k a1 a2 a3 a4 a5 t102 true a0_0 l0_1) else (if a4 < 0 then (chargeparklaw21_FlowAnotherEdge.j0 k a1 a2 a3 a4 a5 t102 true a0_0 l0_1) else (if a5 < 0 then (chargeparklaw21_FlowAnotherEdge.j0 k a1 a2 a3 a4 a5 t102 true a0_0 l0_1) else (if a4 ≥ a0_0 then (chargeparklaw21_FlowAnotherEdge.j0 k a1 a2 a3 a4 a5 t102 true a0_0 l0_1) else (chargeparklaw21_FlowAnotherEdge.j0 k a1 a2 a3 a4 a5 t102 (decide (a5 ≥ a0_0)) a0_0 l0_1))))))) else (chargeparklaw21_FlowAnotherEdge.j0 k a1 a2 a3 a4 a5 t102 true a0_0 l0_1)))
theorem chargeparklaw21_FlowAnotherEdge.mono_l : ∀ k, (∀ y0 y1 y2 y3 y4 y5 y6 y7 y8, LeO (chargeparklaw21_FlowAnotherEdge.j0 k y0 y1 y2 y3 y4 y5 y6 y7 y8) (chargeparklaw21_FlowAnotherEdge.j0 (k + 1) y0 y1 y2 y3 y4 y5 y6 y7 y8)) ∧ (∀ y0, LeO (chargeparklaw21_FlowAnotherEdge.j1 k y0) (chargeparklaw21_FlowAnotherEdge.j1 (k + 1) y0))
  | 0 => ⟨fun _ _ _ _ _ _ _ _ _ r h => by simp [chargeparklaw21_FlowAnotherEdge.j0] at h, fun _ r h => by simp [chargeparklaw21_FlowAnotherEdge.j1] at h⟩
  | k + 1 => by
    obtain ⟨ih0, ih1⟩ := chargeparklaw21_FlowAnotherEdge.mono_l k
    refine ⟨?_, ?_⟩
    · intro y0 y1 y2 y3 y4 y5 y6 y7 y8
      unfold chargeparklaw21_FlowAnotherEdge.j0
      repeat' first
      | (with_reducible exact ih0 _ _ _ _ _ _ _ _ _)
      | (with_reducible exact ih1 _)
      | (with_reducible exact chargeparklaw21_head.mono _)
      | (with_reducible exact chargeparkref21_Ends.mono _ _ _ _ _)
      | (with_reducible exact LeO.refl _)
      | (with_reducible exact LeO.none _)
      | (with_reducible refine LeO.ite ?_ ?_)
      | (with_reducible refine LeO.bind ?_ (fun _ => ?_))
      | exact ih0 _ _ _ _ _ _ _ _ _
      | exact ih1 _
      | exact chargeparklaw21_head.mono _
      | exact chargeparkref21_Ends.mono _ _ _ _ _
      | exact LeO.none _
      | refine LeO.ite ?_ ?_
      | refine LeO.bind ?_ (fun _ => ?_)
    · intro y0
      unfold chargeparklaw21_FlowAnotherEdge.j1
      repeat' first
      | (with_reducible exact ih0 _ _ _ _ _ _ _ _ _)
      | (with_reducible exact ih1 _)
      | (with_reducible exact chargeparklaw21_head.mono _)
      | (with_reducible exact chargeparkref21_Ends.mono _ _ _ _ _)
      | (with_reducible exact LeO.refl _)
      | (with_reducible exact LeO.none _)
      | (with_reducible refine LeO.ite ?_ ?_)
      | (with_reducible refine LeO.bind ?_ (fun _ => ?_))
      | exact ih0 _ _ _ _ _ _ _ _ _
      | exact ih1 _
      | exact chargeparklaw21_head.mono _
      | exact chargeparkref21_Ends.mono _ _ _ _ _
      | exact LeO.none _
      | refine LeO.ite ?_ ?_
      | refine LeO.bind ?_ (fun _ => ?_)
theorem chargeparklaw21_FlowAnotherEdge.mono : ∀ a0 a1 a2 a3 a4 a5 a6 k, LeO (chargeparklaw21_FlowAnotherEdge.f k a0 a1 a2 a3 a4 a5 a6) (chargeparklaw21_FlowAnotherEdge.f (k + 1) a0 a1 a2 a3 a4 a5 a6) := by
  intro a0 a1 a2 a3 a4 a5 a6 k
  obtain ⟨ih0, ih1⟩ := chargeparklaw21_FlowAnotherEdge.mono_l k
  unfold chargeparklaw21_FlowAnotherEdge.f
  repeat' first
      | (with_reducible exact ih0 _ _ _ _ _ _ _ _ _)
      | (with_reducible exact ih1 _)
      | (with_reducible exact chargeparklaw21_head.mono _)
      | (with_reducible exact chargeparkref21_Ends.mono _ _ _ _ _)
      | (with_reducible exact LeO.refl _)
      | (with_reducible exact LeO.none _)
      | (with_reducible refine LeO.ite ?_ ?_)
      | (with_reducible refine LeO.bind ?_ (fun _ => ?_))
      | exact ih0 _ _ _ _ _ _ _ _ _
      | exact ih1 _
      | exact chargeparklaw21_head.mono _
      | exact chargeparkref21_Ends.mono _ _ _ _ _
      | exact LeO.none _
      | refine LeO.ite ?_ ?_
      | refine LeO.bind ?_ (fun _ => ?_)
def chargeparklaw21_FlowAnotherEdge.T5 : Bool × List (List Nat × List Nat) := (true, [([], []), ([], []), ([1], [1]), ([0, 2], [0, 2]), ([], []), ([], []), ([], []), ([4, 5, 6], [4, 5, 6]), ([7], [7]), ([3, 8, 3], [3, 8]), ([9, 9, 0, 1, 2, 3, 4, 5, 6, 7, 8, 9], [9])])
def chargeparklaw21_FlowAnotherEdge.B5 : List Nat := [0, 0, 2, 7, 0, 0, 0, 112, 240, 511, 1023]
theorem chargeparklaw21_FlowAnotherEdge.tab5 : rtab .any (opsOf Try.f9 5) = chargeparklaw21_FlowAnotherEdge.T5 := by kernel_rfl
theorem chargeparklaw21_FlowAnotherEdge.bits5 : waitsOk chargeparklaw21_FlowAnotherEdge.T5.2 chargeparklaw21_FlowAnotherEdge.B5 = true := by kernel_rfl
def chargeparklaw21_FlowAnotherEdge.T6 : Bool × List (List Nat × List Nat) := (true, [([], []), ([], []), ([1], [1]), ([0, 2], [0, 2]), ([], []), ([], []), ([], []), ([4, 5, 6], [4, 5, 6]), ([], []), ([], []), ([], []), ([8, 9, 10], [8, 9, 10]), ([7, 11], [7, 11]), ([3, 12, 3], [3, 12]), ([13, 13, 0, 1, 2, 3, 4, 5, 6, 7, 8, 9, 10, 11, 12, 13], [13])])
def chargeparklaw21_FlowAnotherEdge.B6 : List Nat := [0, 0, 2, 7, 0, 0, 0, 112, 0, 0, 0, 1792, 4080, 8191, 16383]
theorem chargeparklaw21_FlowAnotherEdge.tab6 : rtab .any (opsOf Try.f9 6) = chargeparklaw21_FlowAnotherEdge.T6 := by kernel_rfl
theorem chargeparklaw21_FlowAnotherEdge.bits6 : waitsOk chargeparklaw21_FlowAnotherEdge.T6.2 chargeparklaw21_FlowAnotherEdge.B6 = true := by kernel_rfl
set_option maxHeartbeats 8000000 in
set_option maxRecDepth 100000 in
theorem chargeparklaw21_FlowAnotherEdge.calls (k : Nat) (a0_0 : Int) (A0_1 : Option Addr) (c0_1 : Nat) (l0_1 : List (S39)) (a1 : Int) (a2 : Int) (a3 : Int) (a4 : Int) (a5 : Int) (r : Bool) (w : World) (hr0_1 : Kd.C k39 w A0_1 l0_1.length l0_1) (hc0_1 : l0_1.length ≤ c0_1) (h : chargeparklaw21_FlowAnotherEdge.f k a0_0 l0_1 a1 a2 a3 a4 a5 = some r) :
    Calls Try.prog 9 #[.agg #[.int .i64 a0_0, .slice A0_1 l0_1.length c0_1], .int .i64 a1, .int .i64 a2, .int .i64 a3, .int .i64 a4, .int .i64 a5] w fun e w' => e = .returned (.bool r) ∧ Below w.heap.size w w' := by
  have hu24 := Try.underlying24
  have hu39 := Try.underlying39
  have HR0_1 := Aside0.mk hr0_1
  have HC0_1 := Aside0.mk hc0_1
  clear hr0_1 hc0_1
  have HB := Aside0.mk (Below.refl w.heap.size w)
  have H : ((chargeparklaw21_head.f k).bind fun t102 => ((chargeparkref21_Ends.f k a0_0 l0_1 a1 a2).bind fun t103 => (if t103 = true then (if (l0_1.length : Int) > 509 then (chargeparklaw21_FlowAnotherEdge.j0 k a1 a2 a3 a4 a5 t102 true a0_0 l0_1) else (if a3 < 0 then (chargeparklaw21_FlowAnotherEdge.j0 k a1 a2 a3 a4 a5 t102 true a0_0 l0_1) else (if a3 > 1000000 then (chargeparklaw21_FlowAnotherEdge.j0 k a1 a2 a3 a4 a5 t102 true a0_0 l0_1) else (if a4 < 0 then (chargeparklaw21_FlowAnotherEdge.j0 k a1 a2 a3 a4 a5 t102 true a0_0 l0_1) else (if a5 < 0 then (chargeparklaw21_FlowAnotherEdge.j0 k a1 a2 a3 a4 a5 t102 true a0_0 l0_1) else (if a4 ≥ a0_0 then (chargeparklaw21_FlowAnotherEdge.j0 k a1 a2 a3 a4 a5 t102 true a0_0 l0_1) else (chargeparklaw21_FlowAnotherEdge.j0 k a1 a2 a3 a4 a5 t102 (decide (a5 ≥ a0_0)) a0_0 l0_1))))))) else (chargeparklaw21_FlowAnotherEdge.j0 k a1 a2 a3 a4 a5 t102 true a0_0 l0_1)))) = some r := h
  clear h
  replace H := Option.bind_eq_some_iff.mp H
  obtain ⟨t102, A70, H⟩ := H
  replace H : ((chargeparkref21_Ends.f k a0_0 l0_1 a1 a2).bind fun t103 => (if t103 = true then (if (l0_1.length : Int) > 509 then (chargeparklaw21_FlowAnotherEdge.j0 k a1 a2 a3 a4 a5 t102 true a0_0 l0_1) else (if a3 < 0 then (chargeparklaw21_FlowAnotherEdge.j0 k a1 a2 a3 a4 a5 t102 true a0_0 l0_1) else (if a3 > 1000000 then (chargeparklaw21_FlowAnotherEdge.j0 k a1 a2 a3 a4 a5 t102 true a0_0 l0_1) else (if a4 < 0 then (chargeparklaw21_FlowAnotherEdge.j0 k a1 a2 a3 a4 a5 t102 true a0_0 l0_1) else (if a5 < 0 then (chargeparklaw21_FlowAnotherEdge.j0 k a1 a2 a3 a4 a5 t102 true a0_0 l0_1) else (if a4 ≥ a0_0 then (chargeparklaw21_FlowAnotherEdge.j0 k a1 a2 a3 a4 a5 t102 true a0_0 l0_1) else (chargeparklaw21_FlowAnotherEdge.j0 k a1 a2 a3 a4 a5 t102 (decide (a5 ≥ a0_0)) a0_0 l0_1))))))) else (chargeparklaw21_FlowAnotherEdge.j0 k a1 a2 a3 a4 a5 t102 true a0_0 l0_1))) = some r := H
  have A7 := Aside0.mk A70
  clear A70
  replace H := Option.bind_eq_some_iff.mp H
  obtain ⟨t103, A80, H⟩ := H
  replace H : (if t103 = true then (if (l0_1.length : Int) > 509 then (chargeparklaw21_FlowAnotherEdge.j0 k a1 a2 a3 a4 a5 t102 true a0_0 l0_1) else (if a3 < 0 then (chargeparklaw21_FlowAnotherEdge.j0 k a1 a2 a3 a4 a5 t102 true a0_0 l0_1) else (if a3 > 1000000 then (chargeparklaw21_FlowAnotherEdge.j0 k a1 a2 a3 a4 a5 t102 true a0_0 l0_1) else (if a4 < 0 then (chargeparklaw21_FlowAnotherEdge.j0 k a1 a2 a3 a4 a5 t102 true a0_0 l0_1) else (if a5 < 0 then (chargeparklaw21_FlowAnotherEdge.j0 k a1 a2 a3 a4 a5 t102 true a0_0 l0_1) else (if a4 ≥ a0_0 then (chargeparklaw21_FlowAnotherEdge.j0 k a1 a2 a3 a4 a5 t102 true a0_0 l0_1) else (chargeparklaw21_FlowAnotherEdge.j0 k a1 a2 a3 a4 a5 t102 (decide (a5 ≥ a0_0)) a0_0 l0_1))))))) else (chargeparklaw21_FlowAnotherEdge.j0 k a1 a2 a3 a4 a5 t102 true a0_0 l0_1)) = some r := H
  have A8 := Aside0.mk A80
  clear A80
  have HC9 := Aside0.mk H
  clear H
  go_enter Try.func9, Try.ntmps9
  go_upto_region 3 with (first | ((with_reducible refine gate_dst (N := 6) rfl ?_); (try (refine gate_guard (by rfl) ?_; dsimp only)); refine box_event ?hg (N := 6) ?hd (cs := #[.int .i64 a0_0, .slice A0_1 l0_1.length c0_1]) (t := 24) ?hr ?_; (case hd => rfl); (case hg => rfl); (case hr => first | (go_simp; done) | (go_simp; rfl)); intro gb101 hg w10 hbox hb; have n0_ := Aside0.mk (below_step (by repeat (first | (with_reducible first | exact HB.out | apply below_alloc | apply pw_below_drewN | apply below_drew1) | exact HB.out)) hb); have n1_ := Aside0.mk (hbox); have n2_ := Aside0.mk ((by rw [hg]; exact (below_size (by repeat (first | (with_reducible first | exact HB.out | apply below_alloc | apply pw_below_drewN | apply below_drew1) | exact HB.out))) : w.heap.size ≤ gb101)); have n3_ := Aside0.mk ((by rw [hg]; exact (below_size (by repeat (first | (with_reducible first | exact HB.out | apply below_alloc | apply pw_below_drewN | apply below_drew1) | exact HB.out))) : w.heap.size ≤ gb101)); clear HB; have HB := n0_; have BK101 := n1_; have GW101 := n2_; have GE101 := n3_; clear n0_ n1_ n2_ n3_; clear hb hbox hg) | ((with_reducible refine gate_callee (f := 10) rfl ?_); refine goesL_ (some 29) rfl rfl Try.func10 (by kernel_rfl) rfl #[] rfl (by (try simp only [List.map_toArray, List.map_cons, List.map_nil]); first | done | rfl | (simp only [List.length_drop, List.length_take]; rfl)) ?_; (with_reducible refine (chargeparklaw21_head.calls k  t102 _ A7.out).mono ?_); rintro e w11 ⟨rfl, hb⟩; refine ⟨_, rfl, ?_⟩; have n0_ := Aside0.mk (blk_below (g := gb101) (o := .cells #[.int .i64 a0_0, .slice A0_1 l0_1.length c0_1] 24 (0, 0)) (by (with_reducible repeat (first | refine blk_drewN ?_ _ | refine blk_drew ?_ | refine blk_alloc ?_ _)); exact BK101.out) hb); have n1_ := Aside0.mk (below_step (by repeat (first | (with_reducible first | exact HB.out | apply below_alloc | apply pw_below_drewN | apply below_drew1 | refine below_set ?_ GE101.out) | exact HB.out)) hb); clear BK101; clear HB; have BK101 := n0_; have HB := n1_; clear n0_ n1_; (try clear hb); (try clear hb2); (try clear hk); (try clear hi); have hcz12_0 : w11.cell? ⟨gb101, 0, none⟩ = some (.int .i64 a0_0) := (blk_cell BK101.out 0).trans rfl; have hcz12_1 : w11.cell? ⟨gb101, 1, none⟩ = some (.slice A0_1 l0_1.length c0_1) := (blk_cell BK101.out 1).trans rfl; have hfz12_0 := blk_frozen BK101.out 0; have hfz12_1 := blk_frozen BK101.out 1) | ((with_reducible refine gate_callee (f := 18) rfl ?_); refine goesL_ (some 33) rfl rfl Try.func18 (by kernel_rfl) rfl #[.agg #[.int .i64 a0_0, .slice A0_1 l0_1.length c0_1], .int .i64 a1, .int .i64 a2] rfl (by (try simp only [List.map_toArray, List.map_cons, List.map_nil]); first | done | rfl | (simp only [List.length_drop, List.length_take]; rfl)) ?_; (with_reducible refine (chargeparkref21_Ends.calls k a0_0 _ _ l0_1 a1 a2 t103 _ ?side1 ?side2 A8.out).mono ?_); (case side1 => repeat (first | exact (Kd.C_below HR0_1.out HB.out) | (with_reducible refine Kd.C_alloc ?_ _) | (with_reducible refine Kd.C_drewN ?_ _) | (with_reducible refine Kd.C_drew ?_))); (case side2 => exact HC0_1.out); rintro e w13 ⟨rfl, hb⟩; refine ⟨_, rfl, ?_⟩; have n0_ := Aside0.mk (blk_below (g := gb101) (o := .cells #[.int .i64 a0_0, .slice A0_1 l0_1.length c0_1] 24 (0, 0)) (by (with_reducible repeat (first | refine blk_drewN ?_ _ | refine blk_drew ?_ | refine blk_alloc ?_ _)); exact BK101.out) hb); have n1_ := Aside0.mk (below_step (by repeat (first | (with_reducible first | exact HB.out | apply below_alloc | apply pw_below_drewN | apply below_drew1 | refine below_set ?_ GE101.out) | exact HB.out)) hb); clear BK101; clear HB; have BK101 := n0_; have HB := n1_; clear n0_ n1_; (try clear hb); (try clear hb2); (try clear hk); (try clear hi)))
  (try simp only [Act.put, List.setIfInBounds_toArray, List.set_cons_zero, List.set_cons_succ])
  go_cut [69] (fun v69 wc => ∃ (kq : Nat) (x69_8 : Bool), v69 = .bool x69_8 ∧ Aside0 (chargeparklaw21_FlowAnotherEdge.j0 kq a1 a2 a3 a4 a5 t102 x69_8 a0_0 l0_1 = some r) ∧ Aside0 (kq ≤ k) ∧ Aside0 (wc.heap[gb101]? = some (.cells #[.int .i64 a0_0, (.slice A0_1 l0_1.length c0_1)] 24 (0, 0))) ∧ Aside0 (Below w.heap.size w wc))
  case first =>
    have H := HC9.out
    clear HC9
    by_cases c14 : t103 = true
    · subst c14
      have H1 : (if (l0_1.length : Int) > 509 then (chargeparklaw21_FlowAnotherEdge.j0 k a1 a2 a3 a4 a5 t102 true a0_0 l0_1) else (if a3 < 0 then (chargeparklaw21_FlowAnotherEdge.j0 k a1 a2 a3 a4 a5 t102 true a0_0 l0_1) else (if a3 > 1000000 then (chargeparklaw21_FlowAnotherEdge.j0 k a1 a2 a3 a4 a5 t102 true a0_0 l0_1) else (if a4 < 0 then (chargeparklaw21_FlowAnotherEdge.j0 k a1 a2 a3 a4 a5 t102 true a0_0 l0_1) else (if a5 < 0 then (chargeparklaw21_FlowAnotherEdge.j0 k a1 a2 a3 a4 a5 t102 true a0_0 l0_1) else (if a4 ≥ a0_0 then (chargeparklaw21_FlowAnotherEdge.j0 k a1 a2 a3 a4 a5 t102 true a0_0 l0_1) else (chargeparklaw21_FlowAnotherEdge.j0 k a1 a2 a3 a4 a5 t102 (decide (a5 ≥ a0_0)) a0_0 l0_1))))))) = some r := by rw [if_pos rfl] at H; exact H
      clear H
      have H := H1
      clear H1
      by_cases c15 : (l0_1.length : Int) > 509
      · rw [if_pos c15] at H
        have c15b0 : decide (509 < (l0_1.length : Int)) = true := decide_eq_true c15
        have c15b1 : decide (509 < l0_1.length) = true := decide_eq_true (by omega)
        clear c15
        (first | rw [c15b0] | (simp only [i64_w, i32_w]; rw [c15b0]) | skip)
        have H' := Aside0.mk H
        clear H
        have hcz16_0 : w13.cell? ⟨gb101, 0, none⟩ = some (.int .i64 a0_0) := (blk_cell BK101.out 0).trans rfl
        have hcz16_1 : w13.cell? ⟨gb101, 1, none⟩ = some (.slice A0_1 l0_1.length c0_1) := (blk_cell BK101.out 1).trans rfl
        have hfz16_0 := blk_frozen BK101.out 0
        have hfz16_1 := blk_frozen BK101.out 1
        go_wp2
        go_meet
        case rel => exact ⟨_, (true), (by first | rfl | (simp; done) | (simp [*]; done)), H', ⟨by first | omega | exact Nat.le_refl _⟩, ⟨by (with_reducible repeat (first | refine blk_drewN ?_ _ | refine blk_drew ?_ | refine blk_alloc ?_ _)); exact BK101.out⟩, ⟨by repeat (first | (with_reducible first | exact HB.out | apply below_alloc | apply pw_below_drewN | apply below_drew1 | refine below_set ?_ GE101.out) | exact HB.out)⟩⟩
      · rw [if_neg c15] at H
        have c15b0 : decide (509 < (l0_1.length : Int)) = false := decide_eq_false c15
        have c15b1 : decide (509 < l0_1.length) = false := decide_eq_false (by omega)
        clear c15
        (first | rw [c15b0] | (simp only [i64_w, i32_w]; rw [c15b0]) | skip)
        by_cases c17 : a3 < 0
        · rw [if_pos c17] at H
          have c17b0 : decide (a3 < 0) = true := decide_eq_true c17
          clear c17
          have H' := Aside0.mk H
          clear H
          have hcz18_0 : w13.cell? ⟨gb101, 0, none⟩ = some (.int .i64 a0_0) := (blk_cell BK101.out 0).trans rfl
          have hcz18_1 : w13.cell? ⟨gb101, 1, none⟩ = some (.slice A0_1 l0_1.length c0_1) := (blk_cell BK101.out 1).trans rfl
          have hfz18_0 := blk_frozen BK101.out 0
          have hfz18_1 := blk_frozen BK101.out 1
          go_wp2
          go_meet
          case rel => exact ⟨_, (true), (by first | rfl | (simp; done) | (simp [*]; done)), H', ⟨by first | omega | exact Nat.le_refl _⟩, ⟨by (with_reducible repeat (first | refine blk_drewN ?_ _ | refine blk_drew ?_ | refine blk_alloc ?_ _)); exact BK101.out⟩, ⟨by repeat (first | (with_reducible first | exact HB.out | apply below_alloc | apply pw_below_drewN | apply below_drew1 | refine below_set ?_ GE101.out) | exact HB.out)⟩⟩
        · rw [if_neg c17] at H
          have c17b0 : decide (a3 < 0) = false := decide_eq_false c17
          clear c17
          by_cases c19 : a3 > 1000000
          · rw [if_pos c19] at H
            have c19b0 : decide (1000000 < a3) = true := decide_eq_true c19
            clear c19
            have H' := Aside0.mk H
            clear H
            have hcz20_0 : w13.cell? ⟨gb101, 0, none⟩ = some (.int .i64 a0_0) := (blk_cell BK101.out 0).trans rfl
            have hcz20_1 : w13.cell? ⟨gb101, 1, none⟩ = some (.slice A0_1 l0_1.length c0_1) := (blk_cell BK101.out 1).trans rfl
            have hfz20_0 := blk_frozen BK101.out 0
            have hfz20_1 := blk_frozen BK101.out 1
            go_wp2
            go_meet
            case rel => exact ⟨_, (true), (by first | rfl | (simp; done) | (simp [*]; done)), H', ⟨by first | omega | exact Nat.le_refl _⟩, ⟨by (with_reducible repeat (first | refine blk_drewN ?_ _ | refine blk_drew ?_ | refine blk_alloc ?_ _)); exact BK101.out⟩, ⟨by repeat (first | (with_reducible first | exact HB.out | apply below_alloc | apply pw_below_drewN | apply below_drew1 | refine below_set ?_ GE101.out) | exact HB.out)⟩⟩
          · rw [if_neg c19] at H
            have c19b0 : decide (1000000 < a3) = false := decide_eq_false c19
            clear c19
            by_cases c21 : a4 < 0
            · rw [if_pos c21] at H
              have c21b0 : decide (a4 < 0) = true := decide_eq_true c21
              clear c21
              have H' := Aside0.mk H
              clear H
              have hcz22_0 : w13.cell? ⟨gb101, 0, none⟩ = some (.int .i64 a0_0) := (blk_cell BK101.out 0).trans rfl
              have hcz22_1 : w13.cell? ⟨gb101, 1, none⟩ = some (.slice A0_1 l0_1.length c0_1) := (blk_cell BK101.out 1).trans rfl
              have hfz22_0 := blk_frozen BK101.out 0
              have hfz22_1 := blk_frozen BK101.out 1
              go_wp2
              go_meet
              case rel => exact ⟨_, (true), (by first | rfl | (simp; done) | (simp [*]; done)), H', ⟨by first | omega | exact Nat.le_refl _⟩, ⟨by (with_reducible repeat (first | refine blk_drewN ?_ _ | refine blk_drew ?_ | refine blk_alloc ?_ _)); exact BK101.out⟩, ⟨by repeat (first | (with_reducible first | exact HB.out | apply below_alloc | apply pw_below_drewN | apply below_drew1 | refine below_set ?_ GE101.out) | exact HB.out)⟩⟩
            · rw [if_neg c21] at H
              have c21b0 : decide (a4 < 0) = false := decide_eq_false c21
              clear c21
              by_cases c23 : a5 < 0
              · rw [if_pos c23] at H
                have c23b0 : decide (a5 < 0) = true := decide_eq_true c23
                clear c23
                have H' := Aside0.mk H
                clear H
                have hcz24_0 : w13.cell? ⟨gb101, 0, none⟩ = some (.int .i64 a0_0) := (blk_cell BK101.out 0).trans rfl
                have hcz24_1 : w13.cell? ⟨gb101, 1, none⟩ = some (.slice A0_1 l0_1.length c0_1) := (blk_cell BK101.out 1).trans rfl
                have hfz24_0 := blk_frozen BK101.out 0
                have hfz24_1 := blk_frozen BK101.out 1
                go_wp2
                go_meet
                case rel => exact ⟨_, (true), (by first | rfl | (simp; done) | (simp [*]; done)), H', ⟨by first | omega | exact Nat.le_refl _⟩, ⟨by (with_reducible repeat (first | refine blk_drewN ?_ _ | refine blk_drew ?_ | refine blk_alloc ?_ _)); exact BK101.out⟩, ⟨by repeat (first | (with_reducible first | exact HB.out | apply below_alloc | apply pw_below_drewN | apply below_drew1 | refine below_set ?_ GE101.out) | exact HB.out)⟩⟩
              · rw [if_neg c23] at H
                have c23b0 : decide (a5 < 0) = false := decide_eq_false c23
                clear c23
                by_cases c25 : a4 ≥ a0_0
                · rw [if_pos c25] at H
                  have c25b0 : decide (a0_0 ≤ a4) = true := decide_eq_true c25
                  clear c25
                  have H' := Aside0.mk H
                  clear H
                  have hcz26_0 : w13.cell? ⟨gb101, 0, none⟩ = some (.int .i64 a0_0) := (blk_cell BK101.out 0).trans rfl
                  have hcz26_1 : w13.cell? ⟨gb101, 1, none⟩ = some (.slice A0_1 l0_1.length c0_1) := (blk_cell BK101.out 1).trans rfl
                  have hfz26_0 := blk_frozen BK101.out 0
                  have hfz26_1 := blk_frozen BK101.out 1
                  go_wp2
                  go_meet
                  case rel => exact ⟨_, (true), (by first | rfl | (simp; done) | (simp [*]; done)), H', ⟨by first | omega | exact Nat.le_refl _⟩, ⟨by (with_reducible repeat (first | refine blk_drewN ?_ _ | refine blk_drew ?_ | refine blk_alloc ?_ _)); exact BK101.out⟩, ⟨by repeat (first | (with_reducible first | exact HB.out | apply below_alloc | apply pw_below_drewN | apply below_drew1 | refine below_set ?_ GE101.out) | exact HB.out)⟩⟩
                · rw [if_neg c25] at H
                  have c25b0 : decide (a0_0 ≤ a4) = false := decide_eq_false c25
                  clear c25
                  have H' := Aside0.mk H
                  clear H
                  have hcz27_0 : w13.cell? ⟨gb101, 0, none⟩ = some (.int .i64 a0_0) := (blk_cell BK101.out 0).trans rfl
                  have hcz27_1 : w13.cell? ⟨gb101, 1, none⟩ = some (.slice A0_1 l0_1.length c0_1) := (blk_cell BK101.out 1).trans rfl
                  have hfz27_0 := blk_frozen BK101.out 0
                  have hfz27_1 := blk_frozen BK101.out 1
                  go_wp2
                  go_meet
                  case rel => exact ⟨_, (decide (a5 ≥ a0_0)), (by first | rfl | (simp; done) | (simp [*]; done)), H', ⟨by first | omega | exact Nat.le_refl _⟩, ⟨by (with_reducible repeat (first | refine blk_drewN ?_ _ | refine blk_drew ?_ | refine blk_alloc ?_ _)); exact BK101.out⟩, ⟨by repeat (first | (with_reducible first | exact HB.out | apply below_alloc | apply pw_below_drewN | apply below_drew1 | refine below_set ?_ GE101.out) | exact HB.out)⟩⟩
    · replace c14 := Bool.eq_false_iff.mpr c14
      subst c14
      have H1 : (chargeparklaw21_FlowAnotherEdge.j0 k a1 a2 a3 a4 a5 t102 true a0_0 l0_1) = some r := by rw [if_neg (show ¬ (false = true) by decide)] at H; exact H
      clear H
      have H := H1
      clear H1
      have H' := Aside0.mk H
      clear H
      go_wp2
      go_meet
      case rel => exact ⟨_, (true), (by first | rfl | (simp; done) | (simp [*]; done)), H', ⟨by first | omega | exact Nat.le_refl _⟩, ⟨by (with_reducible repeat (first | refine blk_drewN ?_ _ | refine blk_drew ?_ | refine blk_alloc ?_ _)); exact BK101.out⟩, ⟨by repeat (first | (with_reducible first | exact HB.out | apply below_alloc | apply pw_below_drewN | apply below_drew1 | refine below_set ?_ GE101.out) | exact HB.out)⟩⟩
  case rest =>
    clear HC9
    try clear c1
    try clear c2
    try clear p2
    try clear c9
    try clear c10
    try clear c14
    try clear c15
    try clear c15b0
    try clear c15b1
    try clear c17
    try clear c17b0
    try clear c18
    try clear c19
    try clear c19b0
    try clear c21
    try clear c21b0
    try clear c23
    try clear c23b0
    try clear c25
    try clear c25b0
    try clear hcz12_0
    try clear hcz12_1
    try clear hcz16_0
    try clear hcz16_1
    try clear hcz18_0
    try clear hcz18_1
    try clear hcz20_0
    try clear hcz20_1
    try clear hcz22_0
    try clear hcz22_1
    try clear hcz24_0
    try clear hcz24_1
    try clear hcz26_0
    try clear hcz26_1
    try clear hcz27_0
    try clear hcz27_1
    try clear hfz12_0
    try clear hfz12_1
    try clear hfz16_0
    try clear hfz16_1
    try clear hfz18_0
    try clear hfz18_1
    try clear hfz20_0
    try clear hfz20_1
    try clear hfz22_0
    try clear hfz22_1
    try clear hfz24_0
    try clear hfz24_1
    try clear hfz26_0
    try clear hfz26_1
    try clear hfz27_0
    try clear hfz27_1
    obtain ⟨kq, x69_8, rfl, HA, HJ8, BK101, HB⟩ := hcut
    cases kq with
    | zero => exact absurd HA.out (by simp [chargeparklaw21_FlowAnotherEdge.j0])
    | succ kj8 =>
      have H := HA.out
      clear HA
      simp only [chargeparklaw21_FlowAnotherEdge.j0] at H
      by_cases c28 : x69_8 = true
      · subst c28
        have H1 : (some t102) = some r := by rw [if_pos rfl] at H; exact H
        clear H
        have H := H1
        clear H1
        obtain rfl := Option.some.inj H
        go_wp2
        go_ret
        exact ⟨by first | rfl | (simp [errW_none, errW_some] <;> rfl) | (simp [*, errW_none, errW_some] <;> rfl), by repeat (first | (with_reducible first | exact HB.out | apply below_alloc | apply pw_below_drewN | apply below_drew1 | refine below_set ?_ GE101.out) | exact HB.out)⟩
      · replace c28 := Bool.eq_false_iff.mpr c28
        subst c28
        have H1 : (if 512 ≤ 11728124029610 then ((some ([] : List (S39))).bind fun y104 => (if y104.length + l0_1.length < 5864062014805 then ((some (y104 ++ l0_1 : List (S39))).bind fun y107 => ((some (([(⟨a1, a2, a3⟩ : S39)] : List (S39)) : List (S39))).bind fun y110 => (if y107.length + y110.length < 5864062014805 then ((some ([] : List (S39))).bind fun y116 => (if y116.length + l0_1.length < 5864062014805 then ((some (y116 ++ l0_1 : List (S39))).bind fun y119 => ((some (([(⟨a4, a1, a3⟩ : S39), (⟨a2, a5, a3⟩ : S39)] : List (S39)) : List (S39))).bind fun y122 => (if y119.length + y122.length < 5864062014805 then ((flow_Most.f a0_0 l0_1 a1 a2).bind fun bt128 => ((flow_Most.f a0_0 (y107 ++ y110) a1 a2).bind fun bt136 => ((flow_Most.f a0_0 (y119 ++ y122) a1 a2).bind fun bt144 => (if t102 = true then (if bt128.2.2.2 = 0 then (if bt136.2.2.2 = 0 then (if bt144.2.2.2 = 0 then (if bt136.1 = (wrap64 (bt128.1 + a3)) then (chargeparklaw21_FlowAnotherEdge.j1 kj8 (bt144.1 == bt128.1)) else (chargeparklaw21_FlowAnotherEdge.j1 kj8 false)) else (chargeparklaw21_FlowAnotherEdge.j1 kj8 false)) else (chargeparklaw21_FlowAnotherEdge.j1 kj8 false)) else (chargeparklaw21_FlowAnotherEdge.j1 kj8 false)) else (chargeparklaw21_FlowAnotherEdge.j1 kj8 false))))) else (none)))) else (none))) else (none)))) else (none))) else (none)) = some r := by rw [if_neg (show ¬ (false = true) by decide)] at H; exact H
        clear H
        have H := H1
        clear H1
        by_cases c29 : 512 ≤ 11728124029610
        · rw [if_pos c29] at H
          have c29b0 := eq_true c29
          have c29b1 : decide (512 ≤ 11728124029610) = true := decide_eq_true c29
          clear c29
          obtain ⟨y104, hy104⟩ : ∃ y_ : List (S39), y_ = ([]) := ⟨_, rfl⟩
          replace H : (if y104.length + l0_1.length < 5864062014805 then ((some (y104 ++ l0_1 : List (S39))).bind fun y107 => ((some (([(⟨a1, a2, a3⟩ : S39)] : List (S39)) : List (S39))).bind fun y110 => (if y107.length + y110.length < 5864062014805 then ((some ([] : List (S39))).bind fun y116 => (if y116.length + l0_1.length < 5864062014805 then ((some (y116 ++ l0_1 : List (S39))).bind fun y119 => ((some (([(⟨a4, a1, a3⟩ : S39), (⟨a2, a5, a3⟩ : S39)] : List (S39)) : List (S39))).bind fun y122 => (if y119.length + y122.length < 5864062014805 then ((flow_Most.f a0_0 l0_1 a1 a2).bind fun bt128 => ((flow_Most.f a0_0 (y107 ++ y110) a1 a2).bind fun bt136 => ((flow_Most.f a0_0 (y119 ++ y122) a1 a2).bind fun bt144 => (if t102 = true then (if bt128.2.2.2 = 0 then (if bt136.2.2.2 = 0 then (if bt144.2.2.2 = 0 then (if bt136.1 = (wrap64 (bt128.1 + a3)) then (chargeparklaw21_FlowAnotherEdge.j1 kj8 (bt144.1 == bt128.1)) else (chargeparklaw21_FlowAnotherEdge.j1 kj8 false)) else (chargeparklaw21_FlowAnotherEdge.j1 kj8 false)) else (chargeparklaw21_FlowAnotherEdge.j1 kj8 false)) else (chargeparklaw21_FlowAnotherEdge.j1 kj8 false)) else (chargeparklaw21_FlowAnotherEdge.j1 kj8 false))))) else (none)))) else (none))) else (none)))) else (none)) = some r := by first | (rw [hy104]; with_reducible exact H) | (have H2_ := (Option.bind_some _ _).symm.trans H; rw [hy104]; with_reducible exact H2_) | (have H2_ := (Option.bind_some _ _).symm.trans H; with_reducible exact H2_) | with_reducible exact H | (rw [hy104]; exact H) | exact H
          have Ny104 := Aside0.mk hy104
          clear hy104
          by_cases c30 : y104.length + l0_1.length < 5864062014805
          · rw [if_pos c30] at H
            have LMc30 := Aside0.mk c30
            clear c30
            obtain ⟨y107, hy107⟩ : ∃ y_ : List (S39), y_ = (y104 ++ l0_1) := ⟨_, rfl⟩
            replace H : ((some (([(⟨a1, a2, a3⟩ : S39)] : List (S39)) : List (S39))).bind fun y110 => (if y107.length + y110.length < 5864062014805 then ((some ([] : List (S39))).bind fun y116 => (if y116.length + l0_1.length < 5864062014805 then ((some (y116 ++ l0_1 : List (S39))).bind fun y119 => ((some (([(⟨a4, a1, a3⟩ : S39), (⟨a2, a5, a3⟩ : S39)] : List (S39)) : List (S39))).bind fun y122 => (if y119.length + y122.length < 5864062014805 then ((flow_Most.f a0_0 l0_1 a1 a2).bind fun bt128 => ((flow_Most.f a0_0 (y107 ++ y110) a1 a2).bind fun bt136 => ((flow_Most.f a0_0 (y119 ++ y122) a1 a2).bind fun bt144 => (if t102 = true then (if bt128.2.2.2 = 0 then (if bt136.2.2.2 = 0 then (if bt144.2.2.2 = 0 then (if bt136.1 = (wrap64 (bt128.1 + a3)) then (chargeparklaw21_FlowAnotherEdge.j1 kj8 (bt144.1 == bt128.1)) else (chargeparklaw21_FlowAnotherEdge.j1 kj8 false)) else (chargeparklaw21_FlowAnotherEdge.j1 kj8 false)) else (chargeparklaw21_FlowAnotherEdge.j1 kj8 false)) else (chargeparklaw21_FlowAnotherEdge.j1 kj8 false)) else (chargeparklaw21_FlowAnotherEdge.j1 kj8 false))))) else (none)))) else (none))) else (none))) = some r := by first | (rw [hy107]; with_reducible exact H) | (have H2_ := (Option.bind_some _ _).symm.trans H; rw [hy107]; with_reducible exact H2_) | (have H2_ := (Option.bind_some _ _).symm.trans H; with_reducible exact H2_) | with_reducible exact H | (rw [hy107]; exact H) | exact H
            have Ny107 := Aside0.mk hy107
            clear hy107
            obtain ⟨y110, hy110⟩ : ∃ y_ : List (S39), y_ = (([(⟨a1, a2, a3⟩ : S39)] : List (S39))) := ⟨_, rfl⟩
            replace H : (if y107.length + y110.length < 5864062014805 then ((some ([] : List (S39))).bind fun y116 => (if y116.length + l0_1.length < 5864062014805 then ((some (y116 ++ l0_1 : List (S39))).bind fun y119 => ((some (([(⟨a4, a1, a3⟩ : S39), (⟨a2, a5, a3⟩ : S39)] : List (S39)) : List (S39))).bind fun y122 => (if y119.length + y122.length < 5864062014805 then ((flow_Most.f a0_0 l0_1 a1 a2).bind fun bt128 => ((flow_Most.f a0_0 (y107 ++ y110) a1 a2).bind fun bt136 => ((flow_Most.f a0_0 (y119 ++ y122) a1 a2).bind fun bt144 => (if t102 = true then (if bt128.2.2.2 = 0 then (if bt136.2.2.2 = 0 then (if bt144.2.2.2 = 0 then (if bt136.1 = (wrap64 (bt128.1 + a3)) then (chargeparklaw21_FlowAnotherEdge.j1 kj8 (bt144.1 == bt128.1)) else (chargeparklaw21_FlowAnotherEdge.j1 kj8 false)) else (chargeparklaw21_FlowAnotherEdge.j1 kj8 false)) else (chargeparklaw21_FlowAnotherEdge.j1 kj8 false)) else (chargeparklaw21_FlowAnotherEdge.j1 kj8 false)) else (chargeparklaw21_FlowAnotherEdge.j1 kj8 false))))) else (none)))) else (none))) else (none)) = some r := by first | (rw [hy110]; with_reducible exact H) | (have H2_ := (Option.bind_some _ _).symm.trans H; rw [hy110]; with_reducible exact H2_) | (have H2_ := (Option.bind_some _ _).symm.trans H; with_reducible exact H2_) | with_reducible exact H | (rw [hy110]; exact H) | exact H
            have Ny110 := Aside0.mk hy110
            clear hy110
            by_cases c31 : y107.length + y110.length < 5864062014805
            · rw [if_pos c31] at H
              have LMc31 := Aside0.mk c31
              clear c31
              obtain ⟨y113, hy113⟩ : ∃ y_ : List (S39), y_ = (y107 ++ y110) := ⟨_, rfl⟩
              replace H : ((some ([] : List (S39))).bind fun y116 => (if y116.length + l0_1.length < 5864062014805 then ((some (y116 ++ l0_1 : List (S39))).bind fun y119 => ((some (([(⟨a4, a1, a3⟩ : S39), (⟨a2, a5, a3⟩ : S39)] : List (S39)) : List (S39))).bind fun y122 => (if y119.length + y122.length < 5864062014805 then ((flow_Most.f a0_0 l0_1 a1 a2).bind fun bt128 => ((flow_Most.f a0_0 y113 a1 a2).bind fun bt136 => ((flow_Most.f a0_0 (y119 ++ y122) a1 a2).bind fun bt144 => (if t102 = true then (if bt128.2.2.2 = 0 then (if bt136.2.2.2 = 0 then (if bt144.2.2.2 = 0 then (if bt136.1 = (wrap64 (bt128.1 + a3)) then (chargeparklaw21_FlowAnotherEdge.j1 kj8 (bt144.1 == bt128.1)) else (chargeparklaw21_FlowAnotherEdge.j1 kj8 false)) else (chargeparklaw21_FlowAnotherEdge.j1 kj8 false)) else (chargeparklaw21_FlowAnotherEdge.j1 kj8 false)) else (chargeparklaw21_FlowAnotherEdge.j1 kj8 false)) else (chargeparklaw21_FlowAnotherEdge.j1 kj8 false))))) else (none)))) else (none))) = some r := by first | (rw [hy113]; with_reducible exact H) | (have H2_ := (Option.bind_some _ _).symm.trans H; rw [hy113]; with_reducible exact H2_) | (have H2_ := (Option.bind_some _ _).symm.trans H; with_reducible exact H2_) | with_reducible exact H | (rw [hy113]; exact H) | exact H
              have Ny113 := Aside0.mk hy113
              clear hy113
              obtain ⟨y116, hy116⟩ : ∃ y_ : List (S39), y_ = ([]) := ⟨_, rfl⟩
              replace H : (if y116.length + l0_1.length < 5864062014805 then ((some (y116 ++ l0_1 : List (S39))).bind fun y119 => ((some (([(⟨a4, a1, a3⟩ : S39), (⟨a2, a5, a3⟩ : S39)] : List (S39)) : List (S39))).bind fun y122 => (if y119.length + y122.length < 5864062014805 then ((flow_Most.f a0_0 l0_1 a1 a2).bind fun bt128 => ((flow_Most.f a0_0 y113 a1 a2).bind fun bt136 => ((flow_Most.f a0_0 (y119 ++ y122) a1 a2).bind fun bt144 => (if t102 = true then (if bt128.2.2.2 = 0 then (if bt136.2.2.2 = 0 then (if bt144.2.2.2 = 0 then (if bt136.1 = (wrap64 (bt128.1 + a3)) then (chargeparklaw21_FlowAnotherEdge.j1 kj8 (bt144.1 == bt128.1)) else (chargeparklaw21_FlowAnotherEdge.j1 kj8 false)) else (chargeparklaw21_FlowAnotherEdge.j1 kj8 false)) else (chargeparklaw21_FlowAnotherEdge.j1 kj8 false)) else (chargeparklaw21_FlowAnotherEdge.j1 kj8 false)) else (chargeparklaw21_FlowAnotherEdge.j1 kj8 false))))) else (none)))) else (none)) = some r := by first | (rw [hy116]; with_reducible exact H) | (have H2_ := (Option.bind_some _ _).symm.trans H; rw [hy116]; with_reducible exact H2_) | (have H2_ := (Option.bind_some _ _).symm.trans H; with_reducible exact H2_) | with_reducible exact H | (rw [hy116]; exact H) | exact H
              have Ny116 := Aside0.mk hy116
              clear hy116
              by_cases c32 : y116.length + l0_1.length < 5864062014805
              · rw [if_pos c32] at H
                have LMc32 := Aside0.mk c32
                clear c32
                obtain ⟨y119, hy119⟩ : ∃ y_ : List (S39), y_ = (y116 ++ l0_1) := ⟨_, rfl⟩
                replace H : ((some (([(⟨a4, a1, a3⟩ : S39), (⟨a2, a5, a3⟩ : S39)] : List (S39)) : List (S39))).bind fun y122 => (if y119.length + y122.length < 5864062014805 then ((flow_Most.f a0_0 l0_1 a1 a2).bind fun bt128 => ((flow_Most.f a0_0 y113 a1 a2).bind fun bt136 => ((flow_Most.f a0_0 (y119 ++ y122) a1 a2).bind fun bt144 => (if t102 = true then (if bt128.2.2.2 = 0 then (if bt136.2.2.2 = 0 then (if bt144.2.2.2 = 0 then (if bt136.1 = (wrap64 (bt128.1 + a3)) then (chargeparklaw21_FlowAnotherEdge.j1 kj8 (bt144.1 == bt128.1)) else (chargeparklaw21_FlowAnotherEdge.j1 kj8 false)) else (chargeparklaw21_FlowAnotherEdge.j1 kj8 false)) else (chargeparklaw21_FlowAnotherEdge.j1 kj8 false)) else (chargeparklaw21_FlowAnotherEdge.j1 kj8 false)) else (chargeparklaw21_FlowAnotherEdge.j1 kj8 false))))) else (none))) = some r := by first | (rw [hy119]; with_reducible exact H) | (have H2_ := (Option.bind_some _ _).symm.trans H; rw [hy119]; with_reducible exact H2_) | (have H2_ := (Option.bind_some _ _).symm.trans H; with_reducible exact H2_) | with_reducible exact H | (rw [hy119]; exact H) | exact H
                have Ny119 := Aside0.mk hy119
                clear hy119
                obtain ⟨y122, hy122⟩ : ∃ y_ : List (S39), y_ = (([(⟨a4, a1, a3⟩ : S39), (⟨a2, a5, a3⟩ : S39)] : List (S39))) := ⟨_, rfl⟩
                replace H : (if y119.length + y122.length < 5864062014805 then ((flow_Most.f a0_0 l0_1 a1 a2).bind fun bt128 => ((flow_Most.f a0_0 y113 a1 a2).bind fun bt136 => ((flow_Most.f a0_0 (y119 ++ y122) a1 a2).bind fun bt144 => (if t102 = true then (if bt128.2.2.2 = 0 then (if bt136.2.2.2 = 0 then (if bt144.2.2.2 = 0 then (if bt136.1 = (wrap64 (bt128.1 + a3)) then (chargeparklaw21_FlowAnotherEdge.j1 kj8 (bt144.1 == bt128.1)) else (chargeparklaw21_FlowAnotherEdge.j1 kj8 false)) else (chargeparklaw21_FlowAnotherEdge.j1 kj8 false)) else (chargeparklaw21_FlowAnotherEdge.j1 kj8 false)) else (chargeparklaw21_FlowAnotherEdge.j1 kj8 false)) else (chargeparklaw21_FlowAnotherEdge.j1 kj8 false))))) else (none)) = some r := by first | (rw [hy122]; with_reducible exact H) | (have H2_ := (Option.bind_some _ _).symm.trans H; rw [hy122]; with_reducible exact H2_) | (have H2_ := (Option.bind_some _ _).symm.trans H; with_reducible exact H2_) | with_reducible exact H | (rw [hy122]; exact H) | exact H
                have Ny122 := Aside0.mk hy122
                clear hy122
                by_cases c33 : y119.length + y122.length < 5864062014805
                · rw [if_pos c33] at H
                  have LMc33 := Aside0.mk c33
                  clear c33
                  obtain ⟨y125, hy125⟩ : ∃ y_ : List (S39), y_ = (y119 ++ y122) := ⟨_, rfl⟩
                  replace H : ((flow_Most.f a0_0 l0_1 a1 a2).bind fun bt128 => ((flow_Most.f a0_0 y113 a1 a2).bind fun bt136 => ((flow_Most.f a0_0 y125 a1 a2).bind fun bt144 => (if t102 = true then (if bt128.2.2.2 = 0 then (if bt136.2.2.2 = 0 then (if bt144.2.2.2 = 0 then (if bt136.1 = (wrap64 (bt128.1 + a3)) then (chargeparklaw21_FlowAnotherEdge.j1 kj8 (bt144.1 == bt128.1)) else (chargeparklaw21_FlowAnotherEdge.j1 kj8 false)) else (chargeparklaw21_FlowAnotherEdge.j1 kj8 false)) else (chargeparklaw21_FlowAnotherEdge.j1 kj8 false)) else (chargeparklaw21_FlowAnotherEdge.j1 kj8 false)) else (chargeparklaw21_FlowAnotherEdge.j1 kj8 false))))) = some r := by first | (rw [hy125]; with_reducible exact H) | (have H2_ := (Option.bind_some _ _).symm.trans H; rw [hy125]; with_reducible exact H2_) | (have H2_ := (Option.bind_some _ _).symm.trans H; with_reducible exact H2_) | with_reducible exact H | (rw [hy125]; exact H) | exact H
                  have Ny125 := Aside0.mk hy125
                  clear hy125
                  replace H := Option.bind_eq_some_iff.mp H
                  obtain ⟨⟨t128, t129, t132, t135⟩, A340, H⟩ := H
                  replace H : ((flow_Most.f a0_0 y113 a1 a2).bind fun bt136 => ((flow_Most.f a0_0 y125 a1 a2).bind fun bt144 => (if t102 = true then (if t135 = 0 then (if bt136.2.2.2 = 0 then (if bt144.2.2.2 = 0 then (if bt136.1 = (wrap64 (t128 + a3)) then (chargeparklaw21_FlowAnotherEdge.j1 kj8 (bt144.1 == t128)) else (chargeparklaw21_FlowAnotherEdge.j1 kj8 false)) else (chargeparklaw21_FlowAnotherEdge.j1 kj8 false)) else (chargeparklaw21_FlowAnotherEdge.j1 kj8 false)) else (chargeparklaw21_FlowAnotherEdge.j1 kj8 false)) else (chargeparklaw21_FlowAnotherEdge.j1 kj8 false)))) = some r := H
                  have A34 := Aside0.mk A340
                  clear A340
                  replace H := Option.bind_eq_some_iff.mp H
                  obtain ⟨⟨t136, t137, t140, t143⟩, A350, H⟩ := H
                  replace H : ((flow_Most.f a0_0 y125 a1 a2).bind fun bt144 => (if t102 = true then (if t135 = 0 then (if t143 = 0 then (if bt144.2.2.2 = 0 then (if t136 = (wrap64 (t128 + a3)) then (chargeparklaw21_FlowAnotherEdge.j1 kj8 (bt144.1 == t128)) else (chargeparklaw21_FlowAnotherEdge.j1 kj8 false)) else (chargeparklaw21_FlowAnotherEdge.j1 kj8 false)) else (chargeparklaw21_FlowAnotherEdge.j1 kj8 false)) else (chargeparklaw21_FlowAnotherEdge.j1 kj8 false)) else (chargeparklaw21_FlowAnotherEdge.j1 kj8 false))) = some r := H
                  have A35 := Aside0.mk A350
                  clear A350
                  replace H := Option.bind_eq_some_iff.mp H
                  obtain ⟨⟨t144, t145, t148, t151⟩, A360, H⟩ := H
                  replace H : (if t102 = true then (if t135 = 0 then (if t143 = 0 then (if t151 = 0 then (if t136 = (wrap64 (t128 + a3)) then (chargeparklaw21_FlowAnotherEdge.j1 kj8 (t144 == t128)) else (chargeparklaw21_FlowAnotherEdge.j1 kj8 false)) else (chargeparklaw21_FlowAnotherEdge.j1 kj8 false)) else (chargeparklaw21_FlowAnotherEdge.j1 kj8 false)) else (chargeparklaw21_FlowAnotherEdge.j1 kj8 false)) else (chargeparklaw21_FlowAnotherEdge.j1 kj8 false)) = some r := H
                  have A36 := Aside0.mk A360
                  clear A360
                  have HC37 := Aside0.mk H
                  clear H
                  try go_wp2
                  have n0_ := Aside0.mk (blk_drew BK101.out)
                  have n1_ := Aside0.mk (below_drew1 HB.out)
                  clear BK101
                  clear HB
                  have BK101 := n0_
                  have HB := n1_
                  clear n0_ n1_
                  refine start_ (n := 11) (S := fun w' => w'.cell? ⟨gb101, 0, none⟩ = some (.int .i64 a0_0) ∧ w'.cell? ⟨gb101, 1, none⟩ = some (.slice A0_1 l0_1.length c0_1)) (ds := []) #[false, false, false, false, false, false, false, false, false, false, false] (by kernel_rfl) rfl rfl ⟨(blk_cell BK101.out 0).trans rfl, (blk_cell BK101.out 1).trans rfl⟩ (fun hHeld => ?_); refine with_tabW chargeparklaw21_FlowAnotherEdge.tab5 chargeparklaw21_FlowAnotherEdge.bits5 (fun HT_ HW_ => ?_)
                  generalize wc.drew = w38 at BK101 HB hHeld ⊢
                  refine pure_ (i := 1) (N := some 72) (v := ?_) (a' := ?_) #[false, true, false, false, false, false, false, false, false, false, false] rfl rfl (any_of HT_.out (by kernel_rfl)) (fun _ _ _ h => h) (Or.inl ⟨by rfl, ?_⟩) ?_ ?_
                  rotate_left
                  · intro w'
                    go_simp
                    with_reducible rfl
                  rotate_left
                  · simp only [Act.put, List.setIfInBounds_toArray, List.set_cons_zero, List.set_cons_succ, i64_w, i32_w]
                    rfl
                  refine pure_ (i := 4) (N := some 75) (v := ?_) (a' := ?_) #[false, true, false, false, true, false, false, false, false, false, false] rfl rfl (any_of HT_.out (by kernel_rfl)) (fun _ _ _ h => h) (Or.inl ⟨by rfl, ?_⟩) ?_ ?_
                  rotate_left
                  · intro w'
                    go_simp
                    with_reducible rfl
                  rotate_left
                  · simp only [Act.put, List.setIfInBounds_toArray, List.set_cons_zero, List.set_cons_succ, i64_w, i32_w]
                    rfl
                  refine pure_ (i := 5) (N := some 76) (v := ?_) (a' := ?_) #[false, true, false, false, true, true, false, false, false, false, false] rfl rfl (any_of HT_.out (by kernel_rfl)) (fun _ _ _ h => h) (Or.inl ⟨by rfl, ?_⟩) ?_ ?_
                  rotate_left
                  · intro w'
                    go_simp
                    with_reducible rfl
                  rotate_left
                  · simp only [Act.put, List.setIfInBounds_toArray, List.set_cons_zero, List.set_cons_succ, i64_w, i32_w]
                    rfl
                  refine pure_ (i := 6) (N := some 77) (v := ?_) (a' := ?_) #[false, true, false, false, true, true, true, false, false, false, false] rfl rfl (any_of HT_.out (by kernel_rfl)) (fun _ _ _ h => h) (Or.inl ⟨by rfl, ?_⟩) ?_ ?_
                  rotate_left
                  · intro w'
                    go_simp
                    with_reducible rfl
                  rotate_left
                  · simp only [Act.put, List.setIfInBounds_toArray, List.set_cons_zero, List.set_cons_succ, i64_w, i32_w]
                    rfl
                  refine pure_ (i := 7) (N := some 78) (v := ?_) (a' := ?_) #[false, true, false, false, true, true, true, true, false, false, false] rfl rfl (any_of HT_.out (by kernel_rfl)) (fun _ _ _ h => h) (Or.inl ⟨by rfl, ?_⟩) ?_ ?_
                  rotate_left
                  · intro w'
                    go_simp
                    with_reducible rfl
                  rotate_left
                  · simp only [Act.put, List.setIfInBounds_toArray, List.set_cons_zero, List.set_cons_succ, i64_w, i32_w]
                    rfl
                  refine take_ (i := 2) (N := some 73) (v := ?_) (a' := ?_) #[false, true, true, false, true, true, true, true, false, false, false] rfl rfl (take_ofW HT_.out HW_.out (by kernel_rfl)) (fun _ _ _ h => h) (Or.inl ⟨by rfl, ?_⟩) hHeld ?_ ?_
                  rotate_left
                  · rintro w' ⟨s0, s1⟩
                    go_simp
                    with_reducible rfl
                  rotate_left
                  · simp only [Act.put, List.setIfInBounds_toArray, List.set_cons_zero, List.set_cons_succ, i64_w, i32_w]
                    rfl
                  refine join_ (σ := Value × Value × Value) 2 #[true, true, true, true, true, true, true, true, true, false, false] (fun s_ => [(71, s_.1), (74, s_.2.1), (79, s_.2.2)]) (fun s_ w' => (w'.cell? ⟨gb101, 0, none⟩ = some (.int .i64 a0_0) ∧ w'.cell? ⟨gb101, 1, none⟩ = some (.slice A0_1 l0_1.length c0_1)) ∧ (Kd.R k39 39 w' w.heap.size (fun k_ => some k_ ≠ (s_.2.2 : Value).ownBlock) s_.2.1 y107) ∧ (Kd.R k39 39 w' w.heap.size (fun k_ => some k_ ≠ (s_.2.1 : Value).ownBlock) s_.2.2 y110) ∧ (w'.heap[gb101]? = some (.cells #[.int .i64 a0_0, .slice A0_1 l0_1.length c0_1] 24 (0, 0))) ∧ (Below w.heap.size w w')) ?_ ?_
                  rotate_left
                  · intro hCont
                    refine two_ (i := 0) (j := 8) (Ni := some 71) (Nj := some 79) #[true, true, true, false, true, true, true, true, false, false, false] #[false, true, true, false, true, true, true, true, true, false, false] rfl rfl rfl rfl (two_of HT_.out (by kernel_rfl)) (by decide) (by decide) (fun K hK => ?_) (fun K hK => ?_)
                    · skip
                      refine Kd.R_make0_step k39 _ 39 (by rfl) (N := 71) rfl 22 _ _ rfl 512 rfl rfl Try.underlying22 (.agg #[(.int .i64 0), (.int .i64 0), (.int .i64 0)]) 24 info39 (by omega) (ok := fun _ => True) trivial (by omega) (by omega) (Below.refl _ _) (Nat.le_refl _) ?_
                      intro v105 w39 ho40 hb hg_ hnew_
                      clear hg_ hnew_
                      (first | rw [← Ny104.out] at ho40 | (simp only [Int.reduceToNat] at ho40; rw [← Ny104.out] at ho40))
                      have n0_ := Aside0.mk (Kd.R_lower ho40 (below_size (by repeat (first | (with_reducible first | exact HB.out | apply below_alloc | apply pw_below_drewN | apply below_drew1 | refine below_set ?_ GE101.out) | exact HB.out))))
                      have n1_ := Aside0.mk (blk_below (g := gb101) (o := .cells #[.int .i64 a0_0, .slice A0_1 l0_1.length c0_1] 24 (0, 0)) (by (with_reducible repeat (first | refine blk_drewN ?_ _ | refine blk_drew ?_ | refine blk_alloc ?_ _)); exact BK101.out) hb)
                      have n2_ := Aside0.mk (below_step (by repeat (first | (with_reducible first | exact HB.out | apply below_alloc | apply pw_below_drewN | apply below_drew1 | refine below_set ?_ GE101.out) | exact HB.out)) hb)
                      clear BK101
                      clear HB
                      have HO106 := n0_
                      have BK101 := n1_
                      have HB := n2_
                      clear n0_ n1_ n2_
                      clear hb ho40
                      refine hK.out _ _ ⟨(blk_cell BK101.out 0).trans rfl, (blk_cell BK101.out 1).trans rfl⟩ (fun hHeld => ?_)
                      clear hK K
                      refine norm_ (a' := ?_) ?_ ?_
                      rotate_left
                      · show Act.put _ (some 71) _ = _
                        simp only [Act.put, List.setIfInBounds_toArray, List.set_cons_zero, List.set_cons_succ, i64_w, i32_w]
                        rfl
                      refine two_ (i := 3) (j := 8) (Ni := some 74) (Nj := some 79) #[true, true, true, true, true, true, true, true, false, false, false] #[true, true, true, false, true, true, true, true, true, false, false] rfl rfl rfl rfl (two_of HT_.out (by kernel_rfl)) (by decide) (by decide) (fun K hK => ?_) (fun K hK => ?_)
                      · skip
                        refine Kd.R_append_rows_step k39 (w0 := w) w.heap.size (by rfl) (.tmp 71) (.tmp 73) 22 39 (.agg #[(.int .i64 0), (.int .i64 0), (.int .i64 0)]) 24 rfl Try.underlying22 info39 rfl (by decide) (by omega) v105 y104 l0_1 _ _ _ (fun _ => True) (fun _ => False) rfl rfl ?aO ?aR (fun _ _ h => h) (fun _ h => h.elim) ?aF ?aB ?aS ?aL ?_
                        (case aR => repeat (first | exact (Kd.C_below HR0_1.out HB.out) | (with_reducible refine Kd.C_alloc ?_ _) | (with_reducible refine Kd.C_drewN ?_ _) | (with_reducible refine Kd.C_drew ?_)))
                        (case aB => exact (by repeat (first | (with_reducible first | exact HB.out | apply below_alloc | apply pw_below_drewN | apply below_drew1 | refine below_set ?_ GE101.out) | exact HB.out)))
                        (case aF => exact (fun _ _ => trivial))
                        (case aO => exact (by (with_reducible repeat (first | apply Kd.R_alloc | apply Kd.R_drewN | apply Kd.R_drew)); exact HO106.out))
                        (case aS => exact (below_size (by repeat (first | (with_reducible first | exact HB.out | apply below_alloc | apply pw_below_drewN | apply below_drew1 | refine below_set ?_ GE101.out) | exact HB.out))))
                        (case aL => have := LMc30.out; omega)
                        intro v108 w41 ho hb hg hat
                        rw [← Ny107.out] at ho
                        have n0_ := Aside0.mk (blk_grown (g := gb101) (o := .cells #[.int .i64 a0_0, .slice A0_1 l0_1.length c0_1] 24 (0, 0)) (by (with_reducible repeat (first | refine blk_drewN ?_ _ | refine blk_drew ?_ | refine blk_alloc ?_ _)); exact BK101.out) hg (Kd.R_ne HO106.out BK101.out (by decide)))
                        have n1_ := Aside0.mk (hb)
                        have n2_ := Aside0.mk (ho)
                        clear BK101
                        clear HB
                        clear HO106
                        have BK101 := n0_
                        have HB := n1_
                        have HO109 := n2_
                        clear n0_ n1_ n2_
                        clear ho hb hg hat
                        refine hK.out _ _ ⟨(blk_cell BK101.out 0).trans rfl, (blk_cell BK101.out 1).trans rfl⟩ (fun hHeld => ?_)
                        clear hK K
                        refine norm_ (a' := ?_) ?_ ?_
                        rotate_left
                        · show Act.put _ (some 74) _ = _
                          simp only [Act.put, List.setIfInBounds_toArray, List.set_cons_zero, List.set_cons_succ, i64_w, i32_w]
                          rfl
                        refine one_ (i := 8) (N := some 79) #[true, true, true, true, true, true, true, true, true, false, false] rfl rfl (one_of HT_.out (by kernel_rfl)) (by decide) (fun K hK => ?_)
                        refine Kd.R_lit_step k39 _ 39 ?hg (N := 79) ?hd (xs := ([(⟨a1, a2, a3⟩ : S39)] : List (S39))) (inner := [.int .i64 a1, .int .i64 a2, .int .i64 a3]) (ok := fun _ => True) (okp := fun _ => True) ?hr ?hp (fun _ hk => hk) trivial (Below.refl _ _) (Nat.le_refl _) (by simp) ?_; (case hd => rfl); (case hg => rfl); (case hr => first | (go_simp; done) | (go_simp; rfl)); (case hp => exact (Reps.c3 (show Kd.M k39 _ _ _ (⟨a1, a2, a3⟩ : S39) [.int .i64 a1, .int .i64 a2, .int .i64 a3] from (k39_mkM _ _ _ (⟨a1, a2, a3⟩ : S39) )) (Reps.none _ _)))
                        intro v111 w42 ho43 hb hg_ hnew_
                        clear hg_ hnew_
                        (first | rw [← Ny110.out] at ho43 | (simp only [Int.reduceToNat] at ho43; rw [← Ny110.out] at ho43))
                        have n0_ := Aside0.mk (Kd.R_elder' (by (with_reducible repeat (first | apply Kd.R_alloc | apply Kd.R_drewN | apply Kd.R_drew)); exact HO109.out) (Kd.R_base ho43) hb)
                        have n1_ := Aside0.mk (Kd.R_lower (Kd.R_new' ho43 (Kd.R_lt (by (with_reducible repeat (first | apply Kd.R_alloc | apply Kd.R_drewN | apply Kd.R_drew)); exact HO109.out))) (below_size (by repeat (first | (with_reducible first | exact HB.out | apply below_alloc | apply pw_below_drewN | apply below_drew1 | refine below_set ?_ GE101.out) | exact HB.out))))
                        have n2_ := Aside0.mk (blk_below (g := gb101) (o := .cells #[.int .i64 a0_0, .slice A0_1 l0_1.length c0_1] 24 (0, 0)) (by (with_reducible repeat (first | refine blk_drewN ?_ _ | refine blk_drew ?_ | refine blk_alloc ?_ _)); exact BK101.out) hb)
                        have n3_ := Aside0.mk (below_step (by repeat (first | (with_reducible first | exact HB.out | apply below_alloc | apply pw_below_drewN | apply below_drew1 | refine below_set ?_ GE101.out) | exact HB.out)) hb)
                        clear HO109
                        clear BK101
                        clear HB
                        have HO109 := n0_
                        have HO112 := n1_
                        have BK101 := n2_
                        have HB := n3_
                        clear n0_ n1_ n2_ n3_
                        clear hb ho43
                        refine hK.out _ _ ⟨(blk_cell BK101.out 0).trans rfl, (blk_cell BK101.out 1).trans rfl⟩ (fun hHeld => ?_)
                        clear hK K
                        refine norm_ (a' := ?_) ?_ ?_
                        rotate_left
                        · show Act.put _ (some 79) _ = _
                          simp only [Act.put, List.setIfInBounds_toArray, List.set_cons_zero, List.set_cons_succ, i64_w, i32_w]
                          rfl
                        exact norm_ (by simp only [putAll, Act.put, List.setIfInBounds_toArray, List.set_cons_zero, List.set_cons_succ]) (hCont (v105, v108, v111) _ ⟨hHeld, (by (with_reducible repeat (first | apply Kd.R_alloc | apply Kd.R_drewN | apply Kd.R_drew)); exact Kd.R_mono HO109.out (fun _ hk => hk.2)), (by (with_reducible repeat (first | apply Kd.R_alloc | apply Kd.R_drewN | apply Kd.R_drew)); exact Kd.R_mono HO112.out (fun _ hk => hk.2)), (by (with_reducible repeat (first | refine blk_drewN ?_ _ | refine blk_drew ?_ | refine blk_alloc ?_ _)); exact BK101.out), (by repeat (first | (with_reducible first | exact HB.out | apply below_alloc | apply pw_below_drewN | apply below_drew1 | refine below_set ?_ GE101.out) | exact HB.out))⟩)
                      · skip
                        refine Kd.R_lit_step k39 _ 39 ?hg (N := 79) ?hd (xs := ([(⟨a1, a2, a3⟩ : S39)] : List (S39))) (inner := [.int .i64 a1, .int .i64 a2, .int .i64 a3]) (ok := fun _ => True) (okp := fun _ => True) ?hr ?hp (fun _ hk => hk) trivial (Below.refl _ _) (Nat.le_refl _) (by simp) ?_; (case hd => rfl); (case hg => rfl); (case hr => first | (go_simp; done) | (go_simp; rfl)); (case hp => exact (Reps.c3 (show Kd.M k39 _ _ _ (⟨a1, a2, a3⟩ : S39) [.int .i64 a1, .int .i64 a2, .int .i64 a3] from (k39_mkM _ _ _ (⟨a1, a2, a3⟩ : S39) )) (Reps.none _ _)))
                        intro v111 w41 ho42 hb hg_ hnew_
                        clear hg_ hnew_
                        (first | rw [← Ny110.out] at ho42 | (simp only [Int.reduceToNat] at ho42; rw [← Ny110.out] at ho42))
                        have n0_ := Aside0.mk (Kd.R_elder' (by (with_reducible repeat (first | apply Kd.R_alloc | apply Kd.R_drewN | apply Kd.R_drew)); exact HO106.out) (Kd.R_base ho42) hb)
                        have n1_ := Aside0.mk (Kd.R_lower (Kd.R_new' ho42 (Kd.R_lt (by (with_reducible repeat (first | apply Kd.R_alloc | apply Kd.R_drewN | apply Kd.R_drew)); exact HO106.out))) (below_size (by repeat (first | (with_reducible first | exact HB.out | apply below_alloc | apply pw_below_drewN | apply below_drew1 | refine below_set ?_ GE101.out) | exact HB.out))))
                        have n2_ := Aside0.mk (blk_below (g := gb101) (o := .cells #[.int .i64 a0_0, .slice A0_1 l0_1.length c0_1] 24 (0, 0)) (by (with_reducible repeat (first | refine blk_drewN ?_ _ | refine blk_drew ?_ | refine blk_alloc ?_ _)); exact BK101.out) hb)
                        have n3_ := Aside0.mk (below_step (by repeat (first | (with_reducible first | exact HB.out | apply below_alloc | apply pw_below_drewN | apply below_drew1 | refine below_set ?_ GE101.out) | exact HB.out)) hb)
                        clear HO106
                        clear BK101
                        clear HB
                        have HO106 := n0_
                        have HO112 := n1_
                        have BK101 := n2_
                        have HB := n3_
                        clear n0_ n1_ n2_ n3_
                        clear hb ho42
                        refine hK.out _ _ ⟨(blk_cell BK101.out 0).trans rfl, (blk_cell BK101.out 1).trans rfl⟩ (fun hHeld => ?_)
                        clear hK K
                        refine norm_ (a' := ?_) ?_ ?_
                        rotate_left
                        · show Act.put _ (some 79) _ = _
                          simp only [Act.put, List.setIfInBounds_toArray, List.set_cons_zero, List.set_cons_succ, i64_w, i32_w]
                          rfl
                        refine one_ (i := 3) (N := some 74) #[true, true, true, true, true, true, true, true, true, false, false] rfl rfl (one_of HT_.out (by kernel_rfl)) (by decide) (fun K hK => ?_)
                        refine Kd.R_append_rows_step k39 (w0 := w) w.heap.size (by rfl) (.tmp 71) (.tmp 73) 22 39 (.agg #[(.int .i64 0), (.int .i64 0), (.int .i64 0)]) 24 rfl Try.underlying22 info39 rfl (by decide) (by omega) v105 y104 l0_1 _ _ _ (fun k_ => some k_ ≠ (v111 : Value).ownBlock) (fun _ => False) rfl rfl ?aO ?aR (fun _ _ h => h) (fun _ h => h.elim) ?aF ?aB ?aS ?aL ?_
                        (case aR => repeat (first | exact (Kd.C_below HR0_1.out HB.out) | (with_reducible refine Kd.C_alloc ?_ _) | (with_reducible refine Kd.C_drewN ?_ _) | (with_reducible refine Kd.C_drew ?_)))
                        (case aB => exact (by repeat (first | (with_reducible first | exact HB.out | apply below_alloc | apply pw_below_drewN | apply below_drew1 | refine below_set ?_ GE101.out) | exact HB.out)))
                        (case aF => exact (fun k_ hk => Kd.fresh' (Kd.R_lt (by (with_reducible repeat (first | apply Kd.R_alloc | apply Kd.R_drewN | apply Kd.R_drew)); exact HO112.out)) k_ hk))
                        (case aO => exact (by (with_reducible repeat (first | apply Kd.R_alloc | apply Kd.R_drewN | apply Kd.R_drew)); exact Kd.R_mono HO106.out (fun _ hk => hk.2)))
                        (case aS => exact (below_size (by repeat (first | (with_reducible first | exact HB.out | apply below_alloc | apply pw_below_drewN | apply below_drew1 | refine below_set ?_ GE101.out) | exact HB.out))))
                        (case aL => have := LMc30.out; omega)
                        intro v108 w43 ho hb hg hat
                        rw [← Ny107.out] at ho
                        have n0_ := Aside0.mk (blk_grown (g := gb101) (o := .cells #[.int .i64 a0_0, .slice A0_1 l0_1.length c0_1] 24 (0, 0)) (by (with_reducible repeat (first | refine blk_drewN ?_ _ | refine blk_drew ?_ | refine blk_alloc ?_ _)); exact BK101.out) hg (Kd.R_ne HO106.out BK101.out (by decide)))
                        have n1_ := Aside0.mk (Kd.R_after (ok := (fun _ => True)) (by (with_reducible repeat (first | apply Kd.R_alloc | apply Kd.R_drewN | apply Kd.R_drew)); exact HO112.out) hg hat)
                        have n2_ := Aside0.mk (hb)
                        have n3_ := Aside0.mk (ho)
                        clear BK101
                        clear HO112
                        clear HB
                        clear HO106
                        have BK101 := n0_
                        have HO112 := n1_
                        have HB := n2_
                        have HO109 := n3_
                        clear n0_ n1_ n2_ n3_
                        clear ho hb hg hat
                        refine hK.out _ _ ⟨(blk_cell BK101.out 0).trans rfl, (blk_cell BK101.out 1).trans rfl⟩ (fun hHeld => ?_)
                        clear hK K
                        refine norm_ (a' := ?_) ?_ ?_
                        rotate_left
                        · show Act.put _ (some 74) _ = _
                          simp only [Act.put, List.setIfInBounds_toArray, List.set_cons_zero, List.set_cons_succ, i64_w, i32_w]
                          rfl
                        exact norm_ (by simp only [putAll, Act.put, List.setIfInBounds_toArray, List.set_cons_zero, List.set_cons_succ]) (hCont (v105, v108, v111) _ ⟨hHeld, (by (with_reducible repeat (first | apply Kd.R_alloc | apply Kd.R_drewN | apply Kd.R_drew)); exact HO109.out), (by (with_reducible repeat (first | apply Kd.R_alloc | apply Kd.R_drewN | apply Kd.R_drew)); exact Kd.R_mono HO112.out (fun _ hk => hk.2)), (by (with_reducible repeat (first | refine blk_drewN ?_ _ | refine blk_drew ?_ | refine blk_alloc ?_ _)); exact BK101.out), (by repeat (first | (with_reducible first | exact HB.out | apply below_alloc | apply pw_below_drewN | apply below_drew1 | refine below_set ?_ GE101.out) | exact HB.out))⟩)
                    · skip
                      refine Kd.R_lit_step k39 _ 39 ?hg (N := 79) ?hd (xs := ([(⟨a1, a2, a3⟩ : S39)] : List (S39))) (inner := [.int .i64 a1, .int .i64 a2, .int .i64 a3]) (ok := fun _ => True) (okp := fun _ => True) ?hr ?hp (fun _ hk => hk) trivial (Below.refl _ _) (Nat.le_refl _) (by simp) ?_; (case hd => rfl); (case hg => rfl); (case hr => first | (go_simp; done) | (go_simp; rfl)); (case hp => exact (Reps.c3 (show Kd.M k39 _ _ _ (⟨a1, a2, a3⟩ : S39) [.int .i64 a1, .int .i64 a2, .int .i64 a3] from (k39_mkM _ _ _ (⟨a1, a2, a3⟩ : S39) )) (Reps.none _ _)))
                      intro v111 w39 ho40 hb hg_ hnew_
                      clear hg_ hnew_
                      (first | rw [← Ny110.out] at ho40 | (simp only [Int.reduceToNat] at ho40; rw [← Ny110.out] at ho40))
                      have n0_ := Aside0.mk (Kd.R_lower ho40 (below_size (by repeat (first | (with_reducible first | exact HB.out | apply below_alloc | apply pw_below_drewN | apply below_drew1 | refine below_set ?_ GE101.out) | exact HB.out))))
                      have n1_ := Aside0.mk (blk_below (g := gb101) (o := .cells #[.int .i64 a0_0, .slice A0_1 l0_1.length c0_1] 24 (0, 0)) (by (with_reducible repeat (first | refine blk_drewN ?_ _ | refine blk_drew ?_ | refine blk_alloc ?_ _)); exact BK101.out) hb)
                      have n2_ := Aside0.mk (below_step (by repeat (first | (with_reducible first | exact HB.out | apply below_alloc | apply pw_below_drewN | apply below_drew1 | refine below_set ?_ GE101.out) | exact HB.out)) hb)
                      clear BK101
                      clear HB
                      have HO112 := n0_
                      have BK101 := n1_
                      have HB := n2_
                      clear n0_ n1_ n2_
                      clear hb ho40
                      refine hK.out _ _ ⟨(blk_cell BK101.out 0).trans rfl, (blk_cell BK101.out 1).trans rfl⟩ (fun hHeld => ?_)
                      clear hK K
                      refine norm_ (a' := ?_) ?_ ?_
                      rotate_left
                      · show Act.put _ (some 79) _ = _
                        simp only [Act.put, List.setIfInBounds_toArray, List.set_cons_zero, List.set_cons_succ, i64_w, i32_w]
                        rfl
                      refine one_ (i := 0) (N := some 71) #[true, true, true, false, true, true, true, true, true, false, false] rfl rfl (one_of HT_.out (by kernel_rfl)) (by decide) (fun K hK => ?_)
                      refine Kd.R_make0_step k39 _ 39 (by rfl) (N := 71) rfl 22 _ _ rfl 512 rfl rfl Try.underlying22 (.agg #[(.int .i64 0), (.int .i64 0), (.int .i64 0)]) 24 info39 (by omega) (ok := fun _ => True) trivial (by omega) (by omega) (Below.refl _ _) (Nat.le_refl _) ?_
                      intro v105 w41 ho42 hb hg_ hnew_
                      clear hg_ hnew_
                      (first | rw [← Ny104.out] at ho42 | (simp only [Int.reduceToNat] at ho42; rw [← Ny104.out] at ho42))
                      have n0_ := Aside0.mk (Kd.R_elder' (by (with_reducible repeat (first | apply Kd.R_alloc | apply Kd.R_drewN | apply Kd.R_drew)); exact HO112.out) (Kd.R_base ho42) hb)
                      have n1_ := Aside0.mk (Kd.R_lower (Kd.R_new' ho42 (Kd.R_lt (by (with_reducible repeat (first | apply Kd.R_alloc | apply Kd.R_drewN | apply Kd.R_drew)); exact HO112.out))) (below_size (by repeat (first | (with_reducible first | exact HB.out | apply below_alloc | apply pw_below_drewN | apply below_drew1 | refine below_set ?_ GE101.out) | exact HB.out))))
                      have n2_ := Aside0.mk (blk_below (g := gb101) (o := .cells #[.int .i64 a0_0, .slice A0_1 l0_1.length c0_1] 24 (0, 0)) (by (with_reducible repeat (first | refine blk_drewN ?_ _ | refine blk_drew ?_ | refine blk_alloc ?_ _)); exact BK101.out) hb)
                      have n3_ := Aside0.mk (below_step (by repeat (first | (with_reducible first | exact HB.out | apply below_alloc | apply pw_below_drewN | apply below_drew1 | refine below_set ?_ GE101.out) | exact HB.out)) hb)
                      clear HO112
                      clear BK101
                      clear HB
                      have HO112 := n0_
                      have HO106 := n1_
                      have BK101 := n2_
                      have HB := n3_
                      clear n0_ n1_ n2_ n3_
                      clear hb ho42
                      refine hK.out _ _ ⟨(blk_cell BK101.out 0).trans rfl, (blk_cell BK101.out 1).trans rfl⟩ (fun hHeld => ?_)
                      clear hK K
                      refine norm_ (a' := ?_) ?_ ?_
                      rotate_left
                      · show Act.put _ (some 71) _ = _
                        simp only [Act.put, List.setIfInBounds_toArray, List.set_cons_zero, List.set_cons_succ, i64_w, i32_w]
                        rfl
                      refine one_ (i := 3) (N := some 74) #[true, true, true, true, true, true, true, true, true, false, false] rfl rfl (one_of HT_.out (by kernel_rfl)) (by decide) (fun K hK => ?_)
                      refine Kd.R_append_rows_step k39 (w0 := w) w.heap.size (by rfl) (.tmp 71) (.tmp 73) 22 39 (.agg #[(.int .i64 0), (.int .i64 0), (.int .i64 0)]) 24 rfl Try.underlying22 info39 rfl (by decide) (by omega) v105 y104 l0_1 _ _ _ (fun k_ => some k_ ≠ (v111 : Value).ownBlock) (fun _ => False) rfl rfl ?aO ?aR (fun _ _ h => h) (fun _ h => h.elim) ?aF ?aB ?aS ?aL ?_
                      (case aR => repeat (first | exact (Kd.C_below HR0_1.out HB.out) | (with_reducible refine Kd.C_alloc ?_ _) | (with_reducible refine Kd.C_drewN ?_ _) | (with_reducible refine Kd.C_drew ?_)))
                      (case aB => exact (by repeat (first | (with_reducible first | exact HB.out | apply below_alloc | apply pw_below_drewN | apply below_drew1 | refine below_set ?_ GE101.out) | exact HB.out)))
                      (case aF => exact (fun k_ hk => Kd.fresh' (Kd.R_lt (by (with_reducible repeat (first | apply Kd.R_alloc | apply Kd.R_drewN | apply Kd.R_drew)); exact HO112.out)) k_ hk))
                      (case aO => exact (by (with_reducible repeat (first | apply Kd.R_alloc | apply Kd.R_drewN | apply Kd.R_drew)); exact Kd.R_mono HO106.out (fun _ hk => hk.2)))
                      (case aS => exact (below_size (by repeat (first | (with_reducible first | exact HB.out | apply below_alloc | apply pw_below_drewN | apply below_drew1 | refine below_set ?_ GE101.out) | exact HB.out))))
                      (case aL => have := LMc30.out; omega)
                      intro v108 w43 ho hb hg hat
                      rw [← Ny107.out] at ho
                      have n0_ := Aside0.mk (blk_grown (g := gb101) (o := .cells #[.int .i64 a0_0, .slice A0_1 l0_1.length c0_1] 24 (0, 0)) (by (with_reducible repeat (first | refine blk_drewN ?_ _ | refine blk_drew ?_ | refine blk_alloc ?_ _)); exact BK101.out) hg (Kd.R_ne HO106.out BK101.out (by decide)))
                      have n1_ := Aside0.mk (Kd.R_after (ok := (fun _ => True)) (by (with_reducible repeat (first | apply Kd.R_alloc | apply Kd.R_drewN | apply Kd.R_drew)); exact HO112.out) hg hat)
                      have n2_ := Aside0.mk (hb)
                      have n3_ := Aside0.mk (ho)
                      clear BK101
                      clear HO112
                      clear HB
                      clear HO106
                      have BK101 := n0_
                      have HO112 := n1_
                      have HB := n2_
                      have HO109 := n3_
                      clear n0_ n1_ n2_ n3_
                      clear ho hb hg hat
                      refine hK.out _ _ ⟨(blk_cell BK101.out 0).trans rfl, (blk_cell BK101.out 1).trans rfl⟩ (fun hHeld => ?_)
                      clear hK K
                      refine norm_ (a' := ?_) ?_ ?_
                      rotate_left
                      · show Act.put _ (some 74) _ = _
                        simp only [Act.put, List.setIfInBounds_toArray, List.set_cons_zero, List.set_cons_succ, i64_w, i32_w]
                        rfl
                      exact norm_ (by simp only [putAll, Act.put, List.setIfInBounds_toArray, List.set_cons_zero, List.set_cons_succ]) (hCont (v105, v108, v111) _ ⟨hHeld, (by (with_reducible repeat (first | apply Kd.R_alloc | apply Kd.R_drewN | apply Kd.R_drew)); exact HO109.out), (by (with_reducible repeat (first | apply Kd.R_alloc | apply Kd.R_drewN | apply Kd.R_drew)); exact Kd.R_mono HO112.out (fun _ hk => hk.2)), (by (with_reducible repeat (first | refine blk_drewN ?_ _ | refine blk_drew ?_ | refine blk_alloc ?_ _)); exact BK101.out), (by repeat (first | (with_reducible first | exact HB.out | apply below_alloc | apply pw_below_drewN | apply below_drew1 | refine below_set ?_ GE101.out) | exact HB.out))⟩)
                  rintro ⟨v105, v108, v111⟩ w44 ⟨hS_, h0_, h1_, h2_, h3_⟩
                  have n0_ : Aside0 (Kd.R k39 39 w44 w.heap.size (fun k_ => some k_ ≠ (v111 : Value).ownBlock) v108 y107) := ⟨h0_⟩
                  have n1_ : Aside0 (Kd.R k39 39 w44 w.heap.size (fun k_ => some k_ ≠ (v108 : Value).ownBlock) v111 y110) := ⟨h1_⟩
                  have n2_ : Aside0 (w44.heap[gb101]? = some (.cells #[.int .i64 a0_0, .slice A0_1 l0_1.length c0_1] 24 (0, 0))) := ⟨h2_⟩
                  have n3_ : Aside0 (Below w.heap.size w w44) := ⟨h3_⟩
                  clear BK101
                  clear HB
                  clear h0_ h1_ h2_ h3_
                  have HO109 := n0_
                  have HO112 := n1_
                  have BK101 := n2_
                  have HB := n3_
                  clear n0_ n1_ n2_ n3_
                  have hHeld : w44.cell? ⟨gb101, 0, none⟩ = some (.int .i64 a0_0) ∧ w44.cell? ⟨gb101, 1, none⟩ = some (.slice A0_1 l0_1.length c0_1) := hS_
                  obtain ⟨Ao46, co46, eo46⟩ := Kd.R_slice HO112.out
                  (first | subst eo46 | (injection eo46 with f1_ f2_ f3_; have f4_ := f1_.symm; have f5_ := f3_.symm; clear f1_ f2_ f3_; subst f4_; subst f5_))
                  refine norm_ (a' := ?_) ?_ ?_
                  rotate_left
                  · simp only [putAll, Act.put, List.setIfInBounds_toArray, List.set_cons_zero, List.set_cons_succ]
                    rfl
                  refine one_ (i := 9) (N := some 80) #[true, true, true, true, true, true, true, true, true, true, false] rfl rfl (one_of HT_.out (by kernel_rfl)) (by decide) (fun K hK => ?_)
                  refine Kd.R_append_rows_step k39 (w0 := w) w.heap.size (by rfl) (.tmp 74) (.tmp 79) 22 39 (.agg #[(.int .i64 0), (.int .i64 0), (.int .i64 0)]) 24 rfl Try.underlying22 info39 rfl (by decide) (by omega) v108 y107 y110 _ _ _ (fun k_ => some k_ ≠ (.slice Ao46 y110.length co46 : Value).ownBlock) (fun _ => False) rfl rfl ?aO ?aR (fun _ _ h => h) (fun _ h => h.elim) ?aF ?aB ?aS ?aL ?_
                  (case aR => repeat (first | exact (Kd.R_reads' HO112.out).2.2 | (with_reducible refine Kd.C_alloc ?_ _) | (with_reducible refine Kd.C_drewN ?_ _) | (with_reducible refine Kd.C_drew ?_)))
                  (case aB => exact (by repeat (first | (with_reducible first | exact HB.out | apply below_alloc | apply pw_below_drewN | apply below_drew1 | refine below_set ?_ GE101.out) | exact HB.out)))
                  (case aF => exact (fun k_ hk => Kd.fresh' (Kd.R_lt (by (with_reducible repeat (first | apply Kd.R_alloc | apply Kd.R_drewN | apply Kd.R_drew)); exact HO112.out)) k_ hk))
                  (case aO => exact (by (with_reducible repeat (first | apply Kd.R_alloc | apply Kd.R_drewN | apply Kd.R_drew)); exact HO109.out))
                  (case aS => exact (below_size (by repeat (first | (with_reducible first | exact HB.out | apply below_alloc | apply pw_below_drewN | apply below_drew1 | refine below_set ?_ GE101.out) | exact HB.out))))
                  (case aL => have := LMc31.out; omega)
                  intro v114 w45 ho hb hg hat
                  rw [← Ny113.out] at ho
                  have n0_ := Aside0.mk (blk_grown (g := gb101) (o := .cells #[.int .i64 a0_0, .slice A0_1 l0_1.length c0_1] 24 (0, 0)) (by (with_reducible repeat (first | refine blk_drewN ?_ _ | refine blk_drew ?_ | refine blk_alloc ?_ _)); exact BK101.out) hg (Kd.R_ne HO109.out BK101.out (by decide)))
                  have n1_ := Aside0.mk (Kd.R_after (ok := (fun _ => True)) (by (with_reducible repeat (first | apply Kd.R_alloc | apply Kd.R_drewN | apply Kd.R_drew)); exact Kd.R_mono HO112.out (fun _ hk => ⟨trivial, hk⟩)) hg hat)
                  have n2_ := Aside0.mk (hb)
                  have n3_ := Aside0.mk (ho)
                  clear BK101
                  clear HO112
                  clear HB
                  clear HO109
                  have BK101 := n0_
                  have HO112 := n1_
                  have HB := n2_
                  have HO115 := n3_
                  clear n0_ n1_ n2_ n3_
                  clear ho hb hg hat
                  refine hK.out _ _ ⟨(blk_cell BK101.out 0).trans rfl, (blk_cell BK101.out 1).trans rfl⟩ (fun hHeld => ?_)
                  clear hK K
                  refine norm_ (a' := ?_) ?_ ?_
                  rotate_left
                  · show Act.put _ (some 80) _ = _
                    simp only [Act.put, List.setIfInBounds_toArray, List.set_cons_zero, List.set_cons_succ, i64_w, i32_w]
                    rfl
                  refine pure_ (i := 10) (N := some 15) (v := ?_) (a' := ?_) #[true, true, true, true, true, true, true, true, true, true, true] rfl rfl (any_of HT_.out (by kernel_rfl)) (fun _ _ _ h => h) (Or.inl ⟨by rfl, ?_⟩) ?_ ?_
                  rotate_left
                  · intro w'
                    go_simp
                    with_reducible rfl
                  rotate_left
                  · simp only [Act.put, List.setIfInBounds_toArray, List.set_cons_zero, List.set_cons_succ, i64_w, i32_w]
                    rfl
                  refine done_ (done_of HT_.out (by kernel_rfl)) ?_
                  try go_wp2
                  have n0_ := Aside0.mk (Kd.R_drew HO112.out)
                  have n1_ := Aside0.mk (Kd.R_drew HO115.out)
                  have n2_ := Aside0.mk (blk_drew BK101.out)
                  have n3_ := Aside0.mk (below_drew1 HB.out)
                  clear HO112
                  clear HO115
                  clear BK101
                  clear HB
                  have HO112 := n0_
                  have HO115 := n1_
                  have BK101 := n2_
                  have HB := n3_
                  clear n0_ n1_ n2_ n3_
                  refine start_ (n := 15) (S := fun w' => w'.cell? ⟨gb101, 0, none⟩ = some (.int .i64 a0_0) ∧ w'.cell? ⟨gb101, 1, none⟩ = some (.slice A0_1 l0_1.length c0_1)) (ds := []) #[false, false, false, false, false, false, false, false, false, false, false, false, false, false, false] (by kernel_rfl) rfl rfl ⟨(blk_cell BK101.out 0).trans rfl, (blk_cell BK101.out 1).trans rfl⟩ (fun hHeld => ?_); refine with_tabW chargeparklaw21_FlowAnotherEdge.tab6 chargeparklaw21_FlowAnotherEdge.bits6 (fun HT_ HW_ => ?_)
                  generalize w45.drew = w47 at HO112 HO115 BK101 HB hHeld ⊢
                  refine pure_ (i := 1) (N := some 82) (v := ?_) (a' := ?_) #[false, true, false, false, false, false, false, false, false, false, false, false, false, false, false] rfl rfl (any_of HT_.out (by kernel_rfl)) (fun _ _ _ h => h) (Or.inl ⟨by rfl, ?_⟩) ?_ ?_
                  rotate_left
                  · intro w'
                    go_simp
                    with_reducible rfl
                  rotate_left
                  · simp only [Act.put, List.setIfInBounds_toArray, List.set_cons_zero, List.set_cons_succ, i64_w, i32_w]
                    rfl
                  refine pure_ (i := 4) (N := some 85) (v := ?_) (a' := ?_) #[false, true, false, false, true, false, false, false, false, false, false, false, false, false, false] rfl rfl (any_of HT_.out (by kernel_rfl)) (fun _ _ _ h => h) (Or.inl ⟨by rfl, ?_⟩) ?_ ?_
                  rotate_left
                  · intro w'
                    go_simp
                    with_reducible rfl
                  rotate_left
                  · simp only [Act.put, List.setIfInBounds_toArray, List.set_cons_zero, List.set_cons_succ, i64_w, i32_w]
                    rfl
                  refine pure_ (i := 5) (N := some 86) (v := ?_) (a' := ?_) #[false, true, false, false, true, true, false, false, false, false, false, false, false, false, false] rfl rfl (any_of HT_.out (by kernel_rfl)) (fun _ _ _ h => h) (Or.inl ⟨by rfl, ?_⟩) ?_ ?_
                  rotate_left
                  · intro w'
                    go_simp
                    with_reducible rfl
                  rotate_left
                  · simp only [Act.put, List.setIfInBounds_toArray, List.set_cons_zero, List.set_cons_succ, i64_w, i32_w]
                    rfl
                  refine pure_ (i := 6) (N := some 87) (v := ?_) (a' := ?_) #[false, true, false, false, true, true, true, false, false, false, false, false, false, false, false] rfl rfl (any_of HT_.out (by kernel_rfl)) (fun _ _ _ h => h) (Or.inl ⟨by rfl, ?_⟩) ?_ ?_
                  rotate_left
                  · intro w'
                    go_simp
                    with_reducible rfl
                  rotate_left
                  · simp only [Act.put, List.setIfInBounds_toArray, List.set_cons_zero, List.set_cons_succ, i64_w, i32_w]
                    rfl
                  refine pure_ (i := 7) (N := some 88) (v := ?_) (a' := ?_) #[false, true, false, false, true, true, true, true, false, false, false, false, false, false, false] rfl rfl (any_of HT_.out (by kernel_rfl)) (fun _ _ _ h => h) (Or.inl ⟨by rfl, ?_⟩) ?_ ?_
                  rotate_left
                  · intro w'
                    go_simp
                    with_reducible rfl
                  rotate_left
                  · simp only [Act.put, List.setIfInBounds_toArray, List.set_cons_zero, List.set_cons_succ, i64_w, i32_w]
                    rfl
                  refine pure_ (i := 8) (N := some 89) (v := ?_) (a' := ?_) #[false, true, false, false, true, true, true, true, true, false, false, false, false, false, false] rfl rfl (any_of HT_.out (by kernel_rfl)) (fun _ _ _ h => h) (Or.inl ⟨by rfl, ?_⟩) ?_ ?_
                  rotate_left
                  · intro w'
                    go_simp
                    with_reducible rfl
                  rotate_left
                  · simp only [Act.put, List.setIfInBounds_toArray, List.set_cons_zero, List.set_cons_succ, i64_w, i32_w]
                    rfl
                  refine pure_ (i := 9) (N := some 90) (v := ?_) (a' := ?_) #[false, true, false, false, true, true, true, true, true, true, false, false, false, false, false] rfl rfl (any_of HT_.out (by kernel_rfl)) (fun _ _ _ h => h) (Or.inl ⟨by rfl, ?_⟩) ?_ ?_
                  rotate_left
                  · intro w'
                    go_simp
                    with_reducible rfl
                  rotate_left
                  · simp only [Act.put, List.setIfInBounds_toArray, List.set_cons_zero, List.set_cons_succ, i64_w, i32_w]
                    rfl
                  refine pure_ (i := 10) (N := some 91) (v := ?_) (a' := ?_) #[false, true, false, false, true, true, true, true, true, true, true, false, false, false, false] rfl rfl (any_of HT_.out (by kernel_rfl)) (fun _ _ _ h => h) (Or.inl ⟨by rfl, ?_⟩) ?_ ?_
                  rotate_left
                  · intro w'
                    go_simp
                    with_reducible rfl
                  rotate_left
                  · simp only [Act.put, List.setIfInBounds_toArray, List.set_cons_zero, List.set_cons_succ, i64_w, i32_w]
                    rfl
                  refine pure_ (i := 11) (N := some 92) (v := ?_) (a' := ?_) #[false, true, false, false, true, true, true, true, true, true, true, true, false, false, false] rfl rfl (any_of HT_.out (by kernel_rfl)) (fun _ _ _ h => h) (Or.inl ⟨by rfl, ?_⟩) ?_ ?_
                  rotate_left
                  · intro w'
                    go_simp
                    with_reducible rfl
                  rotate_left
                  · simp only [Act.put, List.setIfInBounds_toArray, List.set_cons_zero, List.set_cons_succ, i64_w, i32_w]
                    rfl
                  refine take_ (i := 2) (N := some 83) (v := ?_) (a' := ?_) #[false, true, true, false, true, true, true, true, true, true, true, true, false, false, false] rfl rfl (take_ofW HT_.out HW_.out (by kernel_rfl)) (fun _ _ _ h => h) (Or.inl ⟨by rfl, ?_⟩) hHeld ?_ ?_
                  rotate_left
                  · rintro w' ⟨s0, s1⟩
                    go_simp
                    with_reducible rfl
                  rotate_left
                  · simp only [Act.put, List.setIfInBounds_toArray, List.set_cons_zero, List.set_cons_succ, i64_w, i32_w]
                    rfl
                  refine join_ (σ := Value × Value × Value) 2 #[true, true, true, true, true, true, true, true, true, true, true, true, true, false, false] (fun s_ => [(81, s_.1), (84, s_.2.1), (93, s_.2.2)]) (fun s_ w' => (w'.cell? ⟨gb101, 0, none⟩ = some (.int .i64 a0_0) ∧ w'.cell? ⟨gb101, 1, none⟩ = some (.slice A0_1 l0_1.length c0_1)) ∧ (Kd.R k39 39 w' w.heap.size (fun k_ => some k_ ≠ (v114 : Value).ownBlock ∧ some k_ ≠ (s_.2.1 : Value).ownBlock ∧ some k_ ≠ (s_.2.2 : Value).ownBlock) (.slice Ao46 y110.length co46) y110) ∧ (Kd.R k39 39 w' w.heap.size (fun k_ => some k_ ≠ (.slice Ao46 y110.length co46 : Value).ownBlock ∧ some k_ ≠ (s_.2.1 : Value).ownBlock ∧ some k_ ≠ (s_.2.2 : Value).ownBlock) v114 y113) ∧ (Kd.R k39 39 w' w.heap.size (fun k_ => some k_ ≠ (.slice Ao46 y110.length co46 : Value).ownBlock ∧ some k_ ≠ (v114 : Value).ownBlock ∧ some k_ ≠ (s_.2.2 : Value).ownBlock) s_.2.1 y119) ∧ (Kd.R k39 39 w' w.heap.size (fun k_ => some k_ ≠ (.slice Ao46 y110.length co46 : Value).ownBlock ∧ some k_ ≠ (v114 : Value).ownBlock ∧ some k_ ≠ (s_.2.1 : Value).ownBlock) s_.2.2 y122) ∧ (w'.heap[gb101]? = some (.cells #[.int .i64 a0_0, .slice A0_1 l0_1.length c0_1] 24 (0, 0))) ∧ (Below w.heap.size w w')) ?_ ?_
                  rotate_left
                  · intro hCont
                    refine two_ (i := 0) (j := 12) (Ni := some 81) (Nj := some 93) #[true, true, true, false, true, true, true, true, true, true, true, true, false, false, false] #[false, true, true, false, true, true, true, true, true, true, true, true, true, false, false] rfl rfl rfl rfl (two_of HT_.out (by kernel_rfl)) (by decide) (by decide) (fun K hK => ?_) (fun K hK => ?_)
                    · skip
                      refine Kd.R_make0_step k39 _ 39 (by rfl) (N := 81) rfl 22 _ _ rfl 512 rfl rfl Try.underlying22 (.agg #[(.int .i64 0), (.int .i64 0), (.int .i64 0)]) 24 info39 (by omega) (ok := fun _ => True) trivial (by omega) (by omega) (Below.refl _ _) (Nat.le_refl _) ?_
                      intro v117 w48 ho49 hb hg_ hnew_
                      clear hg_ hnew_
                      (first | rw [← Ny116.out] at ho49 | (simp only [Int.reduceToNat] at ho49; rw [← Ny116.out] at ho49))
                      have n0_ := Aside0.mk (Kd.R_elder' (by (with_reducible repeat (first | apply Kd.R_alloc | apply Kd.R_drewN | apply Kd.R_drew)); exact HO112.out) (Kd.R_base ho49) hb)
                      have n1_ := Aside0.mk (Kd.R_elder' (by (with_reducible repeat (first | apply Kd.R_alloc | apply Kd.R_drewN | apply Kd.R_drew)); exact HO115.out) (Kd.R_base ho49) hb)
                      have n2_ := Aside0.mk (Kd.R_lower (Kd.R_new' (Kd.R_new' ho49 (Kd.R_lt (by (with_reducible repeat (first | apply Kd.R_alloc | apply Kd.R_drewN | apply Kd.R_drew)); exact HO112.out))) (Kd.R_lt (by (with_reducible repeat (first | apply Kd.R_alloc | apply Kd.R_drewN | apply Kd.R_drew)); exact HO115.out))) (below_size (by repeat (first | (with_reducible first | exact HB.out | apply below_alloc | apply pw_below_drewN | apply below_drew1 | refine below_set ?_ GE101.out) | exact HB.out))))
                      have n3_ := Aside0.mk (blk_below (g := gb101) (o := .cells #[.int .i64 a0_0, .slice A0_1 l0_1.length c0_1] 24 (0, 0)) (by (with_reducible repeat (first | refine blk_drewN ?_ _ | refine blk_drew ?_ | refine blk_alloc ?_ _)); exact BK101.out) hb)
                      have n4_ := Aside0.mk (below_step (by repeat (first | (with_reducible first | exact HB.out | apply below_alloc | apply pw_below_drewN | apply below_drew1 | refine below_set ?_ GE101.out) | exact HB.out)) hb)
                      clear HO112
                      clear HO115
                      clear BK101
                      clear HB
                      have HO112 := n0_
                      have HO115 := n1_
                      have HO118 := n2_
                      have BK101 := n3_
                      have HB := n4_
                      clear n0_ n1_ n2_ n3_ n4_
                      clear hb ho49
                      refine hK.out _ _ ⟨(blk_cell BK101.out 0).trans rfl, (blk_cell BK101.out 1).trans rfl⟩ (fun hHeld => ?_)
                      clear hK K
                      refine norm_ (a' := ?_) ?_ ?_
                      rotate_left
                      · show Act.put _ (some 81) _ = _
                        simp only [Act.put, List.setIfInBounds_toArray, List.set_cons_zero, List.set_cons_succ, i64_w, i32_w]
                        rfl
                      refine two_ (i := 3) (j := 12) (Ni := some 84) (Nj := some 93) #[true, true, true, true, true, true, true, true, true, true, true, true, false, false, false] #[true, true, true, false, true, true, true, true, true, true, true, true, true, false, false] rfl rfl rfl rfl (two_of HT_.out (by kernel_rfl)) (by decide) (by decide) (fun K hK => ?_) (fun K hK => ?_)
                      · skip
                        refine Kd.R_append_rows_step k39 (w0 := w) w.heap.size (by rfl) (.tmp 81) (.tmp 83) 22 39 (.agg #[(.int .i64 0), (.int .i64 0), (.int .i64 0)]) 24 rfl Try.underlying22 info39 rfl (by decide) (by omega) v117 y116 l0_1 _ _ _ (fun k_ => some k_ ≠ (.slice Ao46 y110.length co46 : Value).ownBlock ∧ some k_ ≠ (v114 : Value).ownBlock) (fun _ => False) rfl rfl ?aO ?aR (fun _ _ h => h) (fun _ h => h.elim) ?aF ?aB ?aS ?aL ?_
                        (case aR => repeat (first | exact (Kd.C_below HR0_1.out HB.out) | (with_reducible refine Kd.C_alloc ?_ _) | (with_reducible refine Kd.C_drewN ?_ _) | (with_reducible refine Kd.C_drew ?_)))
                        (case aB => exact (by repeat (first | (with_reducible first | exact HB.out | apply below_alloc | apply pw_below_drewN | apply below_drew1 | refine below_set ?_ GE101.out) | exact HB.out)))
                        (case aF => exact (fun k_ hk => ⟨Kd.fresh' (Kd.R_lt (by (with_reducible repeat (first | apply Kd.R_alloc | apply Kd.R_drewN | apply Kd.R_drew)); exact HO112.out)) k_ hk, Kd.fresh' (Kd.R_lt (by (with_reducible repeat (first | apply Kd.R_alloc | apply Kd.R_drewN | apply Kd.R_drew)); exact HO115.out)) k_ hk⟩))
                        (case aO => exact (by (with_reducible repeat (first | apply Kd.R_alloc | apply Kd.R_drewN | apply Kd.R_drew)); exact Kd.R_mono HO118.out (fun _ hk => ⟨hk.1.2, hk.2⟩)))
                        (case aS => exact (below_size (by repeat (first | (with_reducible first | exact HB.out | apply below_alloc | apply pw_below_drewN | apply below_drew1 | refine below_set ?_ GE101.out) | exact HB.out))))
                        (case aL => have := LMc32.out; omega)
                        intro v120 w50 ho hb hg hat
                        rw [← Ny119.out] at ho
                        have n0_ := Aside0.mk (blk_grown (g := gb101) (o := .cells #[.int .i64 a0_0, .slice A0_1 l0_1.length c0_1] 24 (0, 0)) (by (with_reducible repeat (first | refine blk_drewN ?_ _ | refine blk_drew ?_ | refine blk_alloc ?_ _)); exact BK101.out) hg (Kd.R_ne HO118.out BK101.out (by decide)))
                        have n1_ := Aside0.mk (Kd.R_after (ok := (fun k_ => some k_ ≠ (v114 : Value).ownBlock)) (by (with_reducible repeat (first | apply Kd.R_alloc | apply Kd.R_drewN | apply Kd.R_drew)); exact Kd.R_mono HO112.out (fun _ hk => ⟨hk.1.2, hk.2⟩)) hg hat)
                        have n2_ := Aside0.mk (Kd.R_after (ok := (fun k_ => some k_ ≠ (.slice Ao46 y110.length co46 : Value).ownBlock)) (by (with_reducible repeat (first | apply Kd.R_alloc | apply Kd.R_drewN | apply Kd.R_drew)); exact HO115.out) hg hat)
                        have n3_ := Aside0.mk (hb)
                        have n4_ := Aside0.mk (ho)
                        clear BK101
                        clear HO112
                        clear HO115
                        clear HB
                        clear HO118
                        have BK101 := n0_
                        have HO112 := n1_
                        have HO115 := n2_
                        have HB := n3_
                        have HO121 := n4_
                        clear n0_ n1_ n2_ n3_ n4_
                        clear ho hb hg hat
                        refine hK.out _ _ ⟨(blk_cell BK101.out 0).trans rfl, (blk_cell BK101.out 1).trans rfl⟩ (fun hHeld => ?_)
                        clear hK K
                        refine norm_ (a' := ?_) ?_ ?_
                        rotate_left
                        · show Act.put _ (some 84) _ = _
                          simp only [Act.put, List.setIfInBounds_toArray, List.set_cons_zero, List.set_cons_succ, i64_w, i32_w]
                          rfl
                        refine one_ (i := 12) (N := some 93) #[true, true, true, true, true, true, true, true, true, true, true, true, true, false, false] rfl rfl (one_of HT_.out (by kernel_rfl)) (by decide) (fun K hK => ?_)
                        refine Kd.R_lit_step k39 _ 39 ?hg (N := 93) ?hd (xs := ([(⟨a4, a1, a3⟩ : S39), (⟨a2, a5, a3⟩ : S39)] : List (S39))) (inner := [.int .i64 a4, .int .i64 a1, .int .i64 a3, .int .i64 a2, .int .i64 a5, .int .i64 a3]) (ok := fun _ => True) (okp := fun _ => True) ?hr ?hp (fun _ hk => hk) trivial (Below.refl _ _) (Nat.le_refl _) (by simp) ?_; (case hd => rfl); (case hg => rfl); (case hr => first | (go_simp; done) | (go_simp; rfl)); (case hp => exact (Reps.c3 (show Kd.M k39 _ _ _ (⟨a4, a1, a3⟩ : S39) [.int .i64 a4, .int .i64 a1, .int .i64 a3] from (k39_mkM _ _ _ (⟨a4, a1, a3⟩ : S39) )) (Reps.c3 (show Kd.M k39 _ _ _ (⟨a2, a5, a3⟩ : S39) [.int .i64 a2, .int .i64 a5, .int .i64 a3] from (k39_mkM _ _ _ (⟨a2, a5, a3⟩ : S39) )) (Reps.none _ _))))
                        intro v123 w51 ho52 hb hg_ hnew_
                        clear hg_ hnew_
                        (first | rw [← Ny122.out] at ho52 | (simp only [Int.reduceToNat] at ho52; rw [← Ny122.out] at ho52))
                        have n0_ := Aside0.mk (Kd.R_elder' (by (with_reducible repeat (first | apply Kd.R_alloc | apply Kd.R_drewN | apply Kd.R_drew)); exact HO112.out) (Kd.R_base ho52) hb)
                        have n1_ := Aside0.mk (Kd.R_elder' (by (with_reducible repeat (first | apply Kd.R_alloc | apply Kd.R_drewN | apply Kd.R_drew)); exact HO115.out) (Kd.R_base ho52) hb)
                        have n2_ := Aside0.mk (Kd.R_elder' (by (with_reducible repeat (first | apply Kd.R_alloc | apply Kd.R_drewN | apply Kd.R_drew)); exact HO121.out) (Kd.R_base ho52) hb)
                        have n3_ := Aside0.mk (Kd.R_lower (Kd.R_new' (Kd.R_new' (Kd.R_new' ho52 (Kd.R_lt (by (with_reducible repeat (first | apply Kd.R_alloc | apply Kd.R_drewN | apply Kd.R_drew)); exact HO112.out))) (Kd.R_lt (by (with_reducible repeat (first | apply Kd.R_alloc | apply Kd.R_drewN | apply Kd.R_drew)); exact HO115.out))) (Kd.R_lt (by (with_reducible repeat (first | apply Kd.R_alloc | apply Kd.R_drewN | apply Kd.R_drew)); exact HO121.out))) (below_size (by repeat (first | (with_reducible first | exact HB.out | apply below_alloc | apply pw_below_drewN | apply below_drew1 | refine below_set ?_ GE101.out) | exact HB.out))))
                        have n4_ := Aside0.mk (blk_below (g := gb101) (o := .cells #[.int .i64 a0_0, .slice A0_1 l0_1.length c0_1] 24 (0, 0)) (by (with_reducible repeat (first | refine blk_drewN ?_ _ | refine blk_drew ?_ | refine blk_alloc ?_ _)); exact BK101.out) hb)
                        have n5_ := Aside0.mk (below_step (by repeat (first | (with_reducible first | exact HB.out | apply below_alloc | apply pw_below_drewN | apply below_drew1 | refine below_set ?_ GE101.out) | exact HB.out)) hb)
                        clear HO112
                        clear HO115
                        clear HO121
                        clear BK101
                        clear HB
                        have HO112 := n0_
                        have HO115 := n1_
                        have HO121 := n2_
                        have HO124 := n3_
                        have BK101 := n4_
                        have HB := n5_
                        clear n0_ n1_ n2_ n3_ n4_ n5_
                        clear hb ho52
                        refine hK.out _ _ ⟨(blk_cell BK101.out 0).trans rfl, (blk_cell BK101.out 1).trans rfl⟩ (fun hHeld => ?_)
                        clear hK K
                        refine norm_ (a' := ?_) ?_ ?_
                        rotate_left
                        · show Act.put _ (some 93) _ = _
                          simp only [Act.put, List.setIfInBounds_toArray, List.set_cons_zero, List.set_cons_succ, i64_w, i32_w]
                          rfl
                        exact norm_ (by simp only [putAll, Act.put, List.setIfInBounds_toArray, List.set_cons_zero, List.set_cons_succ]) (hCont (v117, v120, v123) _ ⟨hHeld, (by (with_reducible repeat (first | apply Kd.R_alloc | apply Kd.R_drewN | apply Kd.R_drew)); exact Kd.R_mono HO112.out (fun _ hk => ⟨hk.1.1, ⟨hk.1.2, hk.2⟩⟩)), (by (with_reducible repeat (first | apply Kd.R_alloc | apply Kd.R_drewN | apply Kd.R_drew)); exact Kd.R_mono HO115.out (fun _ hk => ⟨hk.1.1, ⟨hk.1.2, hk.2⟩⟩)), (by (with_reducible repeat (first | apply Kd.R_alloc | apply Kd.R_drewN | apply Kd.R_drew)); exact Kd.R_mono HO121.out (fun _ hk => ⟨hk.1.1, ⟨hk.1.2, hk.2⟩⟩)), (by (with_reducible repeat (first | apply Kd.R_alloc | apply Kd.R_drewN | apply Kd.R_drew)); exact Kd.R_mono HO124.out (fun _ hk => ⟨hk.1.1.2, ⟨hk.1.2, hk.2⟩⟩)), (by (with_reducible repeat (first | refine blk_drewN ?_ _ | refine blk_drew ?_ | refine blk_alloc ?_ _)); exact BK101.out), (by repeat (first | (with_reducible first | exact HB.out | apply below_alloc | apply pw_below_drewN | apply below_drew1 | refine below_set ?_ GE101.out) | exact HB.out))⟩)
                      · skip
                        refine Kd.R_lit_step k39 _ 39 ?hg (N := 93) ?hd (xs := ([(⟨a4, a1, a3⟩ : S39), (⟨a2, a5, a3⟩ : S39)] : List (S39))) (inner := [.int .i64 a4, .int .i64 a1, .int .i64 a3, .int .i64 a2, .int .i64 a5, .int .i64 a3]) (ok := fun _ => True) (okp := fun _ => True) ?hr ?hp (fun _ hk => hk) trivial (Below.refl _ _) (Nat.le_refl _) (by simp) ?_; (case hd => rfl); (case hg => rfl); (case hr => first | (go_simp; done) | (go_simp; rfl)); (case hp => exact (Reps.c3 (show Kd.M k39 _ _ _ (⟨a4, a1, a3⟩ : S39) [.int .i64 a4, .int .i64 a1, .int .i64 a3] from (k39_mkM _ _ _ (⟨a4, a1, a3⟩ : S39) )) (Reps.c3 (show Kd.M k39 _ _ _ (⟨a2, a5, a3⟩ : S39) [.int .i64 a2, .int .i64 a5, .int .i64 a3] from (k39_mkM _ _ _ (⟨a2, a5, a3⟩ : S39) )) (Reps.none _ _))))
                        intro v123 w50 ho51 hb hg_ hnew_
                        clear hg_ hnew_
                        (first | rw [← Ny122.out] at ho51 | (simp only [Int.reduceToNat] at ho51; rw [← Ny122.out] at ho51))
                        have n0_ := Aside0.mk (Kd.R_elder' (by (with_reducible repeat (first | apply Kd.R_alloc | apply Kd.R_drewN | apply Kd.R_drew)); exact HO112.out) (Kd.R_base ho51) hb)
                        have n1_ := Aside0.mk (Kd.R_elder' (by (with_reducible repeat (first | apply Kd.R_alloc | apply Kd.R_drewN | apply Kd.R_drew)); exact HO115.out) (Kd.R_base ho51) hb)
                        have n2_ := Aside0.mk (Kd.R_elder' (by (with_reducible repeat (first | apply Kd.R_alloc | apply Kd.R_drewN | apply Kd.R_drew)); exact HO118.out) (Kd.R_base ho51) hb)
                        have n3_ := Aside0.mk (Kd.R_lower (Kd.R_new' (Kd.R_new' (Kd.R_new' ho51 (Kd.R_lt (by (with_reducible repeat (first | apply Kd.R_alloc | apply Kd.R_drewN | apply Kd.R_drew)); exact HO112.out))) (Kd.R_lt (by (with_reducible repeat (first | apply Kd.R_alloc | apply Kd.R_drewN | apply Kd.R_drew)); exact HO115.out))) (Kd.R_lt (by (with_reducible repeat (first | apply Kd.R_alloc | apply Kd.R_drewN | apply Kd.R_drew)); exact HO118.out))) (below_size (by repeat (first | (with_reducible first | exact HB.out | apply below_alloc | apply pw_below_drewN | apply below_drew1 | refine below_set ?_ GE101.out) | exact HB.out))))
                        have n4_ := Aside0.mk (blk_below (g := gb101) (o := .cells #[.int .i64 a0_0, .slice A0_1 l0_1.length c0_1] 24 (0, 0)) (by (with_reducible repeat (first | refine blk_drewN ?_ _ | refine blk_drew ?_ | refine blk_alloc ?_ _)); exact BK101.out) hb)
                        have n5_ := Aside0.mk (below_step (by repeat (first | (with_reducible first | exact HB.out | apply below_alloc | apply pw_below_drewN | apply below_drew1 | refine below_set ?_ GE101.out) | exact HB.out)) hb)
                        clear HO112
                        clear HO115
                        clear HO118
                        clear BK101
                        clear HB
                        have HO112 := n0_
                        have HO115 := n1_
                        have HO118 := n2_
                        have HO124 := n3_
                        have BK101 := n4_
                        have HB := n5_
                        clear n0_ n1_ n2_ n3_ n4_ n5_
                        clear hb ho51
                        refine hK.out _ _ ⟨(blk_cell BK101.out 0).trans rfl, (blk_cell BK101.out 1).trans rfl⟩ (fun hHeld => ?_)
                        clear hK K
                        refine norm_ (a' := ?_) ?_ ?_
                        rotate_left
                        · show Act.put _ (some 93) _ = _
                          simp only [Act.put, List.setIfInBounds_toArray, List.set_cons_zero, List.set_cons_succ, i64_w, i32_w]
                          rfl
                        refine one_ (i := 3) (N := some 84) #[true, true, true, true, true, true, true, true, true, true, true, true, true, false, false] rfl rfl (one_of HT_.out (by kernel_rfl)) (by decide) (fun K hK => ?_)
                        refine Kd.R_append_rows_step k39 (w0 := w) w.heap.size (by rfl) (.tmp 81) (.tmp 83) 22 39 (.agg #[(.int .i64 0), (.int .i64 0), (.int .i64 0)]) 24 rfl Try.underlying22 info39 rfl (by decide) (by omega) v117 y116 l0_1 _ _ _ (fun k_ => some k_ ≠ (.slice Ao46 y110.length co46 : Value).ownBlock ∧ some k_ ≠ (v114 : Value).ownBlock ∧ some k_ ≠ (v123 : Value).ownBlock) (fun _ => False) rfl rfl ?aO ?aR (fun _ _ h => h) (fun _ h => h.elim) ?aF ?aB ?aS ?aL ?_
                        (case aR => repeat (first | exact (Kd.C_below HR0_1.out HB.out) | (with_reducible refine Kd.C_alloc ?_ _) | (with_reducible refine Kd.C_drewN ?_ _) | (with_reducible refine Kd.C_drew ?_)))
                        (case aB => exact (by repeat (first | (with_reducible first | exact HB.out | apply below_alloc | apply pw_below_drewN | apply below_drew1 | refine below_set ?_ GE101.out) | exact HB.out)))
                        (case aF => exact (fun k_ hk => ⟨Kd.fresh' (Kd.R_lt (by (with_reducible repeat (first | apply Kd.R_alloc | apply Kd.R_drewN | apply Kd.R_drew)); exact HO112.out)) k_ hk, Kd.fresh' (Kd.R_lt (by (with_reducible repeat (first | apply Kd.R_alloc | apply Kd.R_drewN | apply Kd.R_drew)); exact HO115.out)) k_ hk, Kd.fresh' (Kd.R_lt (by (with_reducible repeat (first | apply Kd.R_alloc | apply Kd.R_drewN | apply Kd.R_drew)); exact HO124.out)) k_ hk⟩))
                        (case aO => exact (by (with_reducible repeat (first | apply Kd.R_alloc | apply Kd.R_drewN | apply Kd.R_drew)); exact Kd.R_mono HO118.out (fun _ hk => ⟨hk.1.1.2, ⟨hk.1.2, hk.2⟩⟩)))
                        (case aS => exact (below_size (by repeat (first | (with_reducible first | exact HB.out | apply below_alloc | apply pw_below_drewN | apply below_drew1 | refine below_set ?_ GE101.out) | exact HB.out))))
                        (case aL => have := LMc32.out; omega)
                        intro v120 w52 ho hb hg hat
                        rw [← Ny119.out] at ho
                        have n0_ := Aside0.mk (blk_grown (g := gb101) (o := .cells #[.int .i64 a0_0, .slice A0_1 l0_1.length c0_1] 24 (0, 0)) (by (with_reducible repeat (first | refine blk_drewN ?_ _ | refine blk_drew ?_ | refine blk_alloc ?_ _)); exact BK101.out) hg (Kd.R_ne HO118.out BK101.out (by decide)))
                        have n1_ := Aside0.mk (Kd.R_after (ok := (fun k_ => some k_ ≠ (v114 : Value).ownBlock ∧ some k_ ≠ (v123 : Value).ownBlock)) (by (with_reducible repeat (first | apply Kd.R_alloc | apply Kd.R_drewN | apply Kd.R_drew)); exact Kd.R_mono HO112.out (fun _ hk => ⟨⟨hk.1.1.2, hk.2⟩, hk.1.2⟩)) hg hat)
                        have n2_ := Aside0.mk (Kd.R_after (ok := (fun k_ => some k_ ≠ (.slice Ao46 y110.length co46 : Value).ownBlock ∧ some k_ ≠ (v123 : Value).ownBlock)) (by (with_reducible repeat (first | apply Kd.R_alloc | apply Kd.R_drewN | apply Kd.R_drew)); exact Kd.R_mono HO115.out (fun _ hk => ⟨⟨hk.1.1, hk.2⟩, hk.1.2⟩)) hg hat)
                        have n3_ := Aside0.mk (Kd.R_after (ok := (fun k_ => some k_ ≠ (.slice Ao46 y110.length co46 : Value).ownBlock ∧ some k_ ≠ (v114 : Value).ownBlock)) (by (with_reducible repeat (first | apply Kd.R_alloc | apply Kd.R_drewN | apply Kd.R_drew)); exact Kd.R_mono HO124.out (fun _ hk => ⟨⟨hk.1.1.2, hk.1.2⟩, hk.2⟩)) hg hat)
                        have n4_ := Aside0.mk (hb)
                        have n5_ := Aside0.mk (ho)
                        clear BK101
                        clear HO112
                        clear HO115
                        clear HO124
                        clear HB
                        clear HO118
                        have BK101 := n0_
                        have HO112 := n1_
                        have HO115 := n2_
                        have HO124 := n3_
                        have HB := n4_
                        have HO121 := n5_
                        clear n0_ n1_ n2_ n3_ n4_ n5_
                        clear ho hb hg hat
                        refine hK.out _ _ ⟨(blk_cell BK101.out 0).trans rfl, (blk_cell BK101.out 1).trans rfl⟩ (fun hHeld => ?_)
                        clear hK K
                        refine norm_ (a' := ?_) ?_ ?_
                        rotate_left
                        · show Act.put _ (some 84) _ = _
                          simp only [Act.put, List.setIfInBounds_toArray, List.set_cons_zero, List.set_cons_succ, i64_w, i32_w]
                          rfl
                        exact norm_ (by simp only [putAll, Act.put, List.setIfInBounds_toArray, List.set_cons_zero, List.set_cons_succ]) (hCont (v117, v120, v123) _ ⟨hHeld, (by (with_reducible repeat (first | apply Kd.R_alloc | apply Kd.R_drewN | apply Kd.R_drew)); exact Kd.R_mono HO112.out (fun _ hk => ⟨hk.1.1, ⟨hk.2, hk.1.2⟩⟩)), (by (with_reducible repeat (first | apply Kd.R_alloc | apply Kd.R_drewN | apply Kd.R_drew)); exact Kd.R_mono HO115.out (fun _ hk => ⟨hk.1.1, ⟨hk.2, hk.1.2⟩⟩)), (by (with_reducible repeat (first | apply Kd.R_alloc | apply Kd.R_drewN | apply Kd.R_drew)); exact HO121.out), (by (with_reducible repeat (first | apply Kd.R_alloc | apply Kd.R_drewN | apply Kd.R_drew)); exact Kd.R_mono HO124.out (fun _ hk => ⟨hk.1.1, ⟨hk.1.2, hk.2⟩⟩)), (by (with_reducible repeat (first | refine blk_drewN ?_ _ | refine blk_drew ?_ | refine blk_alloc ?_ _)); exact BK101.out), (by repeat (first | (with_reducible first | exact HB.out | apply below_alloc | apply pw_below_drewN | apply below_drew1 | refine below_set ?_ GE101.out) | exact HB.out))⟩)
                    · skip
                      refine Kd.R_lit_step k39 _ 39 ?hg (N := 93) ?hd (xs := ([(⟨a4, a1, a3⟩ : S39), (⟨a2, a5, a3⟩ : S39)] : List (S39))) (inner := [.int .i64 a4, .int .i64 a1, .int .i64 a3, .int .i64 a2, .int .i64 a5, .int .i64 a3]) (ok := fun _ => True) (okp := fun _ => True) ?hr ?hp (fun _ hk => hk) trivial (Below.refl _ _) (Nat.le_refl _) (by simp) ?_; (case hd => rfl); (case hg => rfl); (case hr => first | (go_simp; done) | (go_simp; rfl)); (case hp => exact (Reps.c3 (show Kd.M k39 _ _ _ (⟨a4, a1, a3⟩ : S39) [.int .i64 a4, .int .i64 a1, .int .i64 a3] from (k39_mkM _ _ _ (⟨a4, a1, a3⟩ : S39) )) (Reps.c3 (show Kd.M k39 _ _ _ (⟨a2, a5, a3⟩ : S39) [.int .i64 a2, .int .i64 a5, .int .i64 a3] from (k39_mkM _ _ _ (⟨a2, a5, a3⟩ : S39) )) (Reps.none _ _))))
                      intro v123 w48 ho49 hb hg_ hnew_
                      clear hg_ hnew_
                      (first | rw [← Ny122.out] at ho49 | (simp only [Int.reduceToNat] at ho49; rw [← Ny122.out] at ho49))
                      have n0_ := Aside0.mk (Kd.R_elder' (by (with_reducible repeat (first | apply Kd.R_alloc | apply Kd.R_drewN | apply Kd.R_drew)); exact HO112.out) (Kd.R_base ho49) hb)
                      have n1_ := Aside0.mk (Kd.R_elder' (by (with_reducible repeat (first | apply Kd.R_alloc | apply Kd.R_drewN | apply Kd.R_drew)); exact HO115.out) (Kd.R_base ho49) hb)
                      have n2_ := Aside0.mk (Kd.R_lower (Kd.R_new' (Kd.R_new' ho49 (Kd.R_lt (by (with_reducible repeat (first | apply Kd.R_alloc | apply Kd.R_drewN | apply Kd.R_drew)); exact HO112.out))) (Kd.R_lt (by (with_reducible repeat (first | apply Kd.R_alloc | apply Kd.R_drewN | apply Kd.R_drew)); exact HO115.out))) (below_size (by repeat (first | (with_reducible first | exact HB.out | apply below_alloc | apply pw_below_drewN | apply below_drew1 | refine below_set ?_ GE101.out) | exact HB.out))))
                      have n3_ := Aside0.mk (blk_below (g := gb101) (o := .cells #[.int .i64 a0_0, .slice A0_1 l0_1.length c0_1] 24 (0, 0)) (by (with_reducible repeat (first | refine blk_drewN ?_ _ | refine blk_drew ?_ | refine blk_alloc ?_ _)); exact BK101.out) hb)
                      have n4_ := Aside0.mk (below_step (by repeat (first | (with_reducible first | exact HB.out | apply below_alloc | apply pw_below_drewN | apply below_drew1 | refine below_set ?_ GE101.out) | exact HB.out)) hb)
                      clear HO112
                      clear HO115
                      clear BK101
                      clear HB
                      have HO112 := n0_
                      have HO115 := n1_
                      have HO124 := n2_
                      have BK101 := n3_
                      have HB := n4_
                      clear n0_ n1_ n2_ n3_ n4_
                      clear hb ho49
                      refine hK.out _ _ ⟨(blk_cell BK101.out 0).trans rfl, (blk_cell BK101.out 1).trans rfl⟩ (fun hHeld => ?_)
                      clear hK K
                      refine norm_ (a' := ?_) ?_ ?_
                      rotate_left
                      · show Act.put _ (some 93) _ = _
                        simp only [Act.put, List.setIfInBounds_toArray, List.set_cons_zero, List.set_cons_succ, i64_w, i32_w]
                        rfl
                      refine one_ (i := 0) (N := some 81) #[true, true, true, false, true, true, true, true, true, true, true, true, true, false, false] rfl rfl (one_of HT_.out (by kernel_rfl)) (by decide) (fun K hK => ?_)
                      refine Kd.R_make0_step k39 _ 39 (by rfl) (N := 81) rfl 22 _ _ rfl 512 rfl rfl Try.underlying22 (.agg #[(.int .i64 0), (.int .i64 0), (.int .i64 0)]) 24 info39 (by omega) (ok := fun _ => True) trivial (by omega) (by omega) (Below.refl _ _) (Nat.le_refl _) ?_
                      intro v117 w50 ho51 hb hg_ hnew_
                      clear hg_ hnew_
                      (first | rw [← Ny116.out] at ho51 | (simp only [Int.reduceToNat] at ho51; rw [← Ny116.out] at ho51))
                      have n0_ := Aside0.mk (Kd.R_elder' (by (with_reducible repeat (first | apply Kd.R_alloc | apply Kd.R_drewN | apply Kd.R_drew)); exact HO112.out) (Kd.R_base ho51) hb)
                      have n1_ := Aside0.mk (Kd.R_elder' (by (with_reducible repeat (first | apply Kd.R_alloc | apply Kd.R_drewN | apply Kd.R_drew)); exact HO115.out) (Kd.R_base ho51) hb)
                      have n2_ := Aside0.mk (Kd.R_elder' (by (with_reducible repeat (first | apply Kd.R_alloc | apply Kd.R_drewN | apply Kd.R_drew)); exact HO124.out) (Kd.R_base ho51) hb)
                      have n3_ := Aside0.mk (Kd.R_lower (Kd.R_new' (Kd.R_new' (Kd.R_new' ho51 (Kd.R_lt (by (with_reducible repeat (first | apply Kd.R_alloc | apply Kd.R_drewN | apply Kd.R_drew)); exact HO112.out))) (Kd.R_lt (by (with_reducible repeat (first | apply Kd.R_alloc | apply Kd.R_drewN | apply Kd.R_drew)); exact HO115.out))) (Kd.R_lt (by (with_reducible repeat (first | apply Kd.R_alloc | apply Kd.R_drewN | apply Kd.R_drew)); exact HO124.out))) (below_size (by repeat (first | (with_reducible first | exact HB.out | apply below_alloc | apply pw_below_drewN | apply below_drew1 | refine below_set ?_ GE101.out) | exact HB.out))))
                      have n4_ := Aside0.mk (blk_below (g := gb101) (o := .cells #[.int .i64 a0_0, .slice A0_1 l0_1.length c0_1] 24 (0, 0)) (by (with_reducible repeat (first | refine blk_drewN ?_ _ | refine blk_drew ?_ | refine blk_alloc ?_ _)); exact BK101.out) hb)
                      have n5_ := Aside0.mk (below_step (by repeat (first | (with_reducible first | exact HB.out | apply below_alloc | apply pw_below_drewN | apply below_drew1 | refine below_set ?_ GE101.out) | exact HB.out)) hb)
                      clear HO112
                      clear HO115
                      clear HO124
                      clear BK101
                      clear HB
                      have HO112 := n0_
                      have HO115 := n1_
                      have HO124 := n2_
                      have HO118 := n3_
                      have BK101 := n4_
                      have HB := n5_
                      clear n0_ n1_ n2_ n3_ n4_ n5_
                      clear hb ho51
                      refine hK.out _ _ ⟨(blk_cell BK101.out 0).trans rfl, (blk_cell BK101.out 1).trans rfl⟩ (fun hHeld => ?_)
                      clear hK K
                      refine norm_ (a' := ?_) ?_ ?_
                      rotate_left
                      · show Act.put _ (some 81) _ = _
                        simp only [Act.put, List.setIfInBounds_toArray, List.set_cons_zero, List.set_cons_succ, i64_w, i32_w]
                        rfl
                      refine one_ (i := 3) (N := some 84) #[true, true, true, true, true, true, true, true, true, true, true, true, true, false, false] rfl rfl (one_of HT_.out (by kernel_rfl)) (by decide) (fun K hK => ?_)
                      refine Kd.R_append_rows_step k39 (w0 := w) w.heap.size (by rfl) (.tmp 81) (.tmp 83) 22 39 (.agg #[(.int .i64 0), (.int .i64 0), (.int .i64 0)]) 24 rfl Try.underlying22 info39 rfl (by decide) (by omega) v117 y116 l0_1 _ _ _ (fun k_ => some k_ ≠ (.slice Ao46 y110.length co46 : Value).ownBlock ∧ some k_ ≠ (v114 : Value).ownBlock ∧ some k_ ≠ (v123 : Value).ownBlock) (fun _ => False) rfl rfl ?aO ?aR (fun _ _ h => h) (fun _ h => h.elim) ?aF ?aB ?aS ?aL ?_
                      (case aR => repeat (first | exact (Kd.C_below HR0_1.out HB.out) | (with_reducible refine Kd.C_alloc ?_ _) | (with_reducible refine Kd.C_drewN ?_ _) | (with_reducible refine Kd.C_drew ?_)))
                      (case aB => exact (by repeat (first | (with_reducible first | exact HB.out | apply below_alloc | apply pw_below_drewN | apply below_drew1 | refine below_set ?_ GE101.out) | exact HB.out)))
                      (case aF => exact (fun k_ hk => ⟨Kd.fresh' (Kd.R_lt (by (with_reducible repeat (first | apply Kd.R_alloc | apply Kd.R_drewN | apply Kd.R_drew)); exact HO112.out)) k_ hk, Kd.fresh' (Kd.R_lt (by (with_reducible repeat (first | apply Kd.R_alloc | apply Kd.R_drewN | apply Kd.R_drew)); exact HO115.out)) k_ hk, Kd.fresh' (Kd.R_lt (by (with_reducible repeat (first | apply Kd.R_alloc | apply Kd.R_drewN | apply Kd.R_drew)); exact HO124.out)) k_ hk⟩))
                      (case aO => exact (by (with_reducible repeat (first | apply Kd.R_alloc | apply Kd.R_drewN | apply Kd.R_drew)); exact Kd.R_mono HO118.out (fun _ hk => ⟨hk.1.1.2, ⟨hk.1.2, hk.2⟩⟩)))
                      (case aS => exact (below_size (by repeat (first | (with_reducible first | exact HB.out | apply below_alloc | apply pw_below_drewN | apply below_drew1 | refine below_set ?_ GE101.out) | exact HB.out))))
                      (case aL => have := LMc32.out; omega)
                      intro v120 w52 ho hb hg hat
                      rw [← Ny119.out] at ho
                      have n0_ := Aside0.mk (blk_grown (g := gb101) (o := .cells #[.int .i64 a0_0, .slice A0_1 l0_1.length c0_1] 24 (0, 0)) (by (with_reducible repeat (first | refine blk_drewN ?_ _ | refine blk_drew ?_ | refine blk_alloc ?_ _)); exact BK101.out) hg (Kd.R_ne HO118.out BK101.out (by decide)))
                      have n1_ := Aside0.mk (Kd.R_after (ok := (fun k_ => some k_ ≠ (v114 : Value).ownBlock ∧ some k_ ≠ (v123 : Value).ownBlock)) (by (with_reducible repeat (first | apply Kd.R_alloc | apply Kd.R_drewN | apply Kd.R_drew)); exact Kd.R_mono HO112.out (fun _ hk => ⟨⟨hk.1.1.2, hk.1.2⟩, hk.2⟩)) hg hat)
                      have n2_ := Aside0.mk (Kd.R_after (ok := (fun k_ => some k_ ≠ (.slice Ao46 y110.length co46 : Value).ownBlock ∧ some k_ ≠ (v123 : Value).ownBlock)) (by (with_reducible repeat (first | apply Kd.R_alloc | apply Kd.R_drewN | apply Kd.R_drew)); exact HO115.out) hg hat)
                      have n3_ := Aside0.mk (Kd.R_after (ok := (fun k_ => some k_ ≠ (.slice Ao46 y110.length co46 : Value).ownBlock ∧ some k_ ≠ (v114 : Value).ownBlock)) (by (with_reducible repeat (first | apply Kd.R_alloc | apply Kd.R_drewN | apply Kd.R_drew)); exact Kd.R_mono HO124.out (fun _ hk => ⟨⟨hk.1.1.2, hk.1.2⟩, hk.2⟩)) hg hat)
                      have n4_ := Aside0.mk (hb)
                      have n5_ := Aside0.mk (ho)
                      clear BK101
                      clear HO112
                      clear HO115
                      clear HO124
                      clear HB
                      clear HO118
                      have BK101 := n0_
                      have HO112 := n1_
                      have HO115 := n2_
                      have HO124 := n3_
                      have HB := n4_
                      have HO121 := n5_
                      clear n0_ n1_ n2_ n3_ n4_ n5_
                      clear ho hb hg hat
                      refine hK.out _ _ ⟨(blk_cell BK101.out 0).trans rfl, (blk_cell BK101.out 1).trans rfl⟩ (fun hHeld => ?_)
                      clear hK K
                      refine norm_ (a' := ?_) ?_ ?_
                      rotate_left
                      · show Act.put _ (some 84) _ = _
                        simp only [Act.put, List.setIfInBounds_toArray, List.set_cons_zero, List.set_cons_succ, i64_w, i32_w]
                        rfl
                      exact norm_ (by simp only [putAll, Act.put, List.setIfInBounds_toArray, List.set_cons_zero, List.set_cons_succ]) (hCont (v117, v120, v123) _ ⟨hHeld, (by (with_reducible repeat (first | apply Kd.R_alloc | apply Kd.R_drewN | apply Kd.R_drew)); exact Kd.R_mono HO112.out (fun _ hk => ⟨hk.1.1, ⟨hk.2, hk.1.2⟩⟩)), (by (with_reducible repeat (first | apply Kd.R_alloc | apply Kd.R_drewN | apply Kd.R_drew)); exact Kd.R_mono HO115.out (fun _ hk => ⟨hk.1.1, ⟨hk.2, hk.1.2⟩⟩)), (by (with_reducible repeat (first | apply Kd.R_alloc | apply Kd.R_drewN | apply Kd.R_drew)); exact HO121.out), (by (with_reducible repeat (first | apply Kd.R_alloc | apply Kd.R_drewN | apply Kd.R_drew)); exact Kd.R_mono HO124.out (fun _ hk => ⟨hk.1.1, ⟨hk.1.2, hk.2⟩⟩)), (by (with_reducible repeat (first | refine blk_drewN ?_ _ | refine blk_drew ?_ | refine blk_alloc ?_ _)); exact BK101.out), (by repeat (first | (with_reducible first | exact HB.out | apply below_alloc | apply pw_below_drewN | apply below_drew1 | refine below_set ?_ GE101.out) | exact HB.out))⟩)
                  rintro ⟨v117, v120, v123⟩ w53 ⟨hS_, h0_, h1_, h2_, h3_, h4_, h5_⟩
                  have n0_ : Aside0 (Kd.R k39 39 w53 w.heap.size (fun k_ => some k_ ≠ (v114 : Value).ownBlock ∧ some k_ ≠ (v120 : Value).ownBlock ∧ some k_ ≠ (v123 : Value).ownBlock) (.slice Ao46 y110.length co46) y110) := ⟨h0_⟩
                  have n1_ : Aside0 (Kd.R k39 39 w53 w.heap.size (fun k_ => some k_ ≠ (.slice Ao46 y110.length co46 : Value).ownBlock ∧ some k_ ≠ (v120 : Value).ownBlock ∧ some k_ ≠ (v123 : Value).ownBlock) v114 y113) := ⟨h1_⟩
                  have n2_ : Aside0 (Kd.R k39 39 w53 w.heap.size (fun k_ => some k_ ≠ (.slice Ao46 y110.length co46 : Value).ownBlock ∧ some k_ ≠ (v114 : Value).ownBlock ∧ some k_ ≠ (v123 : Value).ownBlock) v120 y119) := ⟨h2_⟩
                  have n3_ : Aside0 (Kd.R k39 39 w53 w.heap.size (fun k_ => some k_ ≠ (.slice Ao46 y110.length co46 : Value).ownBlock ∧ some k_ ≠ (v114 : Value).ownBlock ∧ some k_ ≠ (v120 : Value).ownBlock) v123 y122) := ⟨h3_⟩
                  have n4_ : Aside0 (w53.heap[gb101]? = some (.cells #[.int .i64 a0_0, .slice A0_1 l0_1.length c0_1] 24 (0, 0))) := ⟨h4_⟩
                  have n5_ : Aside0 (Below w.heap.size w w53) := ⟨h5_⟩
                  clear HO112
                  clear HO115
                  clear BK101
                  clear HB
                  clear h0_ h1_ h2_ h3_ h4_ h5_
                  have HO112 := n0_
                  have HO115 := n1_
                  have HO121 := n2_
                  have HO124 := n3_
                  have BK101 := n4_
                  have HB := n5_
                  clear n0_ n1_ n2_ n3_ n4_ n5_
                  have hHeld : w53.cell? ⟨gb101, 0, none⟩ = some (.int .i64 a0_0) ∧ w53.cell? ⟨gb101, 1, none⟩ = some (.slice A0_1 l0_1.length c0_1) := hS_
                  obtain ⟨Ao55, co55, eo55⟩ := Kd.R_slice HO124.out
                  (first | subst eo55 | (injection eo55 with f1_ f2_ f3_; have f4_ := f1_.symm; have f5_ := f3_.symm; clear f1_ f2_ f3_; subst f4_; subst f5_))
                  refine norm_ (a' := ?_) ?_ ?_
                  rotate_left
                  · simp only [putAll, Act.put, List.setIfInBounds_toArray, List.set_cons_zero, List.set_cons_succ]
                    rfl
                  refine one_ (i := 13) (N := some 94) #[true, true, true, true, true, true, true, true, true, true, true, true, true, true, false] rfl rfl (one_of HT_.out (by kernel_rfl)) (by decide) (fun K hK => ?_)
                  refine Kd.R_append_rows_step k39 (w0 := w) w.heap.size (by rfl) (.tmp 84) (.tmp 93) 22 39 (.agg #[(.int .i64 0), (.int .i64 0), (.int .i64 0)]) 24 rfl Try.underlying22 info39 rfl (by decide) (by omega) v120 y119 y122 _ _ _ (fun k_ => some k_ ≠ (.slice Ao46 y110.length co46 : Value).ownBlock ∧ some k_ ≠ (v114 : Value).ownBlock ∧ some k_ ≠ (.slice Ao55 y122.length co55 : Value).ownBlock) (fun _ => False) rfl rfl ?aO ?aR (fun _ _ h => h) (fun _ h => h.elim) ?aF ?aB ?aS ?aL ?_
                  (case aR => repeat (first | exact (Kd.R_reads' HO124.out).2.2 | (with_reducible refine Kd.C_alloc ?_ _) | (with_reducible refine Kd.C_drewN ?_ _) | (with_reducible refine Kd.C_drew ?_)))
                  (case aB => exact (by repeat (first | (with_reducible first | exact HB.out | apply below_alloc | apply pw_below_drewN | apply below_drew1 | refine below_set ?_ GE101.out) | exact HB.out)))
                  (case aF => exact (fun k_ hk => ⟨Kd.fresh' (Kd.R_lt (by (with_reducible repeat (first | apply Kd.R_alloc | apply Kd.R_drewN | apply Kd.R_drew)); exact HO112.out)) k_ hk, Kd.fresh' (Kd.R_lt (by (with_reducible repeat (first | apply Kd.R_alloc | apply Kd.R_drewN | apply Kd.R_drew)); exact HO115.out)) k_ hk, Kd.fresh' (Kd.R_lt (by (with_reducible repeat (first | apply Kd.R_alloc | apply Kd.R_drewN | apply Kd.R_drew)); exact HO124.out)) k_ hk⟩))
                  (case aO => exact (by (with_reducible repeat (first | apply Kd.R_alloc | apply Kd.R_drewN | apply Kd.R_drew)); exact HO121.out))
                  (case aS => exact (below_size (by repeat (first | (with_reducible first | exact HB.out | apply below_alloc | apply pw_below_drewN | apply below_drew1 | refine below_set ?_ GE101.out) | exact HB.out))))
                  (case aL => have := LMc33.out; omega)
                  intro v126 w54 ho hb hg hat
                  rw [← Ny125.out] at ho
                  have n0_ := Aside0.mk (blk_grown (g := gb101) (o := .cells #[.int .i64 a0_0, .slice A0_1 l0_1.length c0_1] 24 (0, 0)) (by (with_reducible repeat (first | refine blk_drewN ?_ _ | refine blk_drew ?_ | refine blk_alloc ?_ _)); exact BK101.out) hg (Kd.R_ne HO121.out BK101.out (by decide)))
                  have n1_ := Aside0.mk (Kd.R_after (ok := (fun k_ => some k_ ≠ (v114 : Value).ownBlock ∧ some k_ ≠ (.slice Ao55 y122.length co55 : Value).ownBlock)) (by (with_reducible repeat (first | apply Kd.R_alloc | apply Kd.R_drewN | apply Kd.R_drew)); exact Kd.R_mono HO112.out (fun _ hk => ⟨⟨hk.1, hk.2.2⟩, hk.2.1⟩)) hg hat)
                  have n2_ := Aside0.mk (Kd.R_after (ok := (fun k_ => some k_ ≠ (.slice Ao46 y110.length co46 : Value).ownBlock ∧ some k_ ≠ (.slice Ao55 y122.length co55 : Value).ownBlock)) (by (with_reducible repeat (first | apply Kd.R_alloc | apply Kd.R_drewN | apply Kd.R_drew)); exact Kd.R_mono HO115.out (fun _ hk => ⟨⟨hk.1, hk.2.2⟩, hk.2.1⟩)) hg hat)
                  have n3_ := Aside0.mk (Kd.R_after (ok := (fun k_ => some k_ ≠ (.slice Ao46 y110.length co46 : Value).ownBlock ∧ some k_ ≠ (v114 : Value).ownBlock)) (by (with_reducible repeat (first | apply Kd.R_alloc | apply Kd.R_drewN | apply Kd.R_drew)); exact Kd.R_mono HO124.out (fun _ hk => ⟨⟨hk.1, hk.2.1⟩, hk.2.2⟩)) hg hat)
                  have n4_ := Aside0.mk (hb)
                  have n5_ := Aside0.mk (ho)
                  clear BK101
                  clear HO112
                  clear HO115
                  clear HO124
                  clear HB
                  clear HO121
                  have BK101 := n0_
                  have HO112 := n1_
                  have HO115 := n2_
                  have HO124 := n3_
                  have HB := n4_
                  have HO127 := n5_
                  clear n0_ n1_ n2_ n3_ n4_ n5_
                  clear ho hb hg hat
                  refine hK.out _ _ ⟨(blk_cell BK101.out 0).trans rfl, (blk_cell BK101.out 1).trans rfl⟩ (fun hHeld => ?_)
                  clear hK K
                  refine norm_ (a' := ?_) ?_ ?_
                  rotate_left
                  · show Act.put _ (some 94) _ = _
                    simp only [Act.put, List.setIfInBounds_toArray, List.set_cons_zero, List.set_cons_succ, i64_w, i32_w]
                    rfl
                  refine pure_ (i := 14) (N := some 16) (v := ?_) (a' := ?_) #[true, true, true, true, true, true, true, true, true, true, true, true, true, true, true] rfl rfl (any_of HT_.out (by kernel_rfl)) (fun _ _ _ h => h) (Or.inl ⟨by rfl, ?_⟩) ?_ ?_
                  rotate_left
                  · intro w'
                    go_simp
                    with_reducible rfl
                  rotate_left
                  · simp only [Act.put, List.setIfInBounds_toArray, List.set_cons_zero, List.set_cons_succ, i64_w, i32_w]
                    rfl
                  refine done_ (done_of HT_.out (by kernel_rfl)) ?_
                  have hcz56_0 : w54.cell? ⟨gb101, 0, none⟩ = some (.int .i64 a0_0) := (blk_cell BK101.out 0).trans rfl
                  have hcz56_1 : w54.cell? ⟨gb101, 1, none⟩ = some (.slice A0_1 l0_1.length c0_1) := (blk_cell BK101.out 1).trans rfl
                  have hfz56_0 := blk_frozen BK101.out 0
                  have hfz56_1 := blk_frozen BK101.out 1
                  go_upto_region 10 with (first | ((with_reducible refine gate_callee (f := 14) rfl ?_); refine goesL_ (some 99) rfl rfl Try.func14 (by kernel_rfl) rfl #[.agg #[.int .i64 a0_0, .slice A0_1 l0_1.length c0_1], .int .i64 a1, .int .i64 a2] rfl (by (try simp only [List.map_toArray, List.map_cons, List.map_nil]); first | done | rfl | (simp only [List.length_drop, List.length_take]; rfl)) ?_; (with_reducible refine (flow_Most.calls a0_0 _ _ l0_1 a1 a2 t128 t129 t132 t135 _ ?side1 ?side2 A34.out).mono ?_); (case side1 => repeat (first | exact (Kd.C_below HR0_1.out HB.out) | (with_reducible refine Kd.C_alloc ?_ _) | (with_reducible refine Kd.C_drewN ?_ _) | (with_reducible refine Kd.C_drew ?_))); (case side2 => exact HC0_1.out); rintro e w57 ⟨v130, v133, rfl, ho0, ho1, hb⟩; refine ⟨_, rfl, ?_⟩; have n0_ := Aside0.mk (Kd.R_below (by (with_reducible repeat (first | apply Kd.R_alloc | apply Kd.R_drewN | apply Kd.R_drew)); exact HO112.out) hb); have n1_ := Aside0.mk (Kd.R_below (by (with_reducible repeat (first | apply Kd.R_alloc | apply Kd.R_drewN | apply Kd.R_drew)); exact HO115.out) hb); have n2_ := Aside0.mk (Kd.R_below (by (with_reducible repeat (first | apply Kd.R_alloc | apply Kd.R_drewN | apply Kd.R_drew)); exact HO124.out) hb); have n3_ := Aside0.mk (Kd.R_below (by (with_reducible repeat (first | apply Kd.R_alloc | apply Kd.R_drewN | apply Kd.R_drew)); exact HO127.out) hb); have n4_ := Aside0.mk (Kd.R_lower ho0 (below_size (by repeat (first | (with_reducible first | exact HB.out | apply below_alloc | apply pw_below_drewN | apply below_drew1 | refine below_set ?_ GE101.out) | exact HB.out)))); have n5_ := Aside0.mk (Kd.R_lower ho1 (below_size (by repeat (first | (with_reducible first | exact HB.out | apply below_alloc | apply pw_below_drewN | apply below_drew1 | refine below_set ?_ GE101.out) | exact HB.out)))); have n6_ := Aside0.mk (blk_below (g := gb101) (o := .cells #[.int .i64 a0_0, .slice A0_1 l0_1.length c0_1] 24 (0, 0)) (by (with_reducible repeat (first | refine blk_drewN ?_ _ | refine blk_drew ?_ | refine blk_alloc ?_ _)); exact BK101.out) hb); have n7_ := Aside0.mk (below_step (by repeat (first | (with_reducible first | exact HB.out | apply below_alloc | apply pw_below_drewN | apply below_drew1 | refine below_set ?_ GE101.out) | exact HB.out)) hb); clear HO112; clear HO115; clear HO124; clear HO127; clear BK101; clear HB; have HO112 := n0_; have HO115 := n1_; have HO124 := n2_; have HO127 := n3_; have HO131 := n4_; have HO134 := n5_; have BK101 := n6_; have HB := n7_; clear n0_ n1_ n2_ n3_ n4_ n5_ n6_ n7_; (try clear hb); (try clear hb2); (try clear hk); (try clear hi); (try clear ho0); (try clear ho1); have hcz58_0 : w57.cell? ⟨gb101, 0, none⟩ = some (.int .i64 a0_0) := (blk_cell BK101.out 0).trans rfl; have hcz58_1 : w57.cell? ⟨gb101, 1, none⟩ = some (.slice A0_1 l0_1.length c0_1) := (blk_cell BK101.out 1).trans rfl; have hfz58_0 := blk_frozen BK101.out 0; have hfz58_1 := blk_frozen BK101.out 1; obtain ⟨Ao59, co59, eo59⟩ := Kd.R_slice HO115.out; subst eo59) | ((with_reducible refine gate_callee (f := 14) rfl ?_); refine goesL_ (some 111) rfl rfl Try.func14 (by kernel_rfl) rfl #[.agg #[.int .i64 a0_0, .slice Ao59 y113.length co59], .int .i64 a1, .int .i64 a2] rfl (by (try simp only [List.map_toArray, List.map_cons, List.map_nil]); first | done | rfl | (simp only [List.length_drop, List.length_take]; rfl)) ?_; (with_reducible refine (flow_Most.calls a0_0 _ _ y113 a1 a2 t136 t137 t140 t143 _ ?side1 ?side2 A35.out).mono ?_); (case side1 => repeat (first | exact (Kd.R_reads' HO115.out).2.2 | (with_reducible refine Kd.C_alloc ?_ _) | (with_reducible refine Kd.C_drewN ?_ _) | (with_reducible refine Kd.C_drew ?_))); (case side2 => exact (Kd.R_reads' HO115.out).2.1); rintro e w60 ⟨v138, v141, rfl, ho0, ho1, hb⟩; refine ⟨_, rfl, ?_⟩; have n0_ := Aside0.mk (Kd.R_below (by (with_reducible repeat (first | apply Kd.R_alloc | apply Kd.R_drewN | apply Kd.R_drew)); exact HO112.out) hb); have n1_ := Aside0.mk (Kd.R_below (by (with_reducible repeat (first | apply Kd.R_alloc | apply Kd.R_drewN | apply Kd.R_drew)); exact HO115.out) hb); have n2_ := Aside0.mk (Kd.R_below (by (with_reducible repeat (first | apply Kd.R_alloc | apply Kd.R_drewN | apply Kd.R_drew)); exact HO124.out) hb); have n3_ := Aside0.mk (Kd.R_below (by (with_reducible repeat (first | apply Kd.R_alloc | apply Kd.R_drewN | apply Kd.R_drew)); exact HO127.out) hb); have n4_ := Aside0.mk (Kd.R_elder' (by (with_reducible repeat (first | apply Kd.R_alloc | apply Kd.R_drewN | apply Kd.R_drew)); exact HO131.out) (Kd.R_base ho0) hb); have n5_ := Aside0.mk (Kd.R_elder' (by (with_reducible repeat (first | apply Kd.R_alloc | apply Kd.R_drewN | apply Kd.R_drew)); exact HO134.out) (Kd.R_base ho1) hb); have n6_ := Aside0.mk (Kd.R_lower (Kd.R_new' ho0 (Kd.R_lt (by (with_reducible repeat (first | apply Kd.R_alloc | apply Kd.R_drewN | apply Kd.R_drew)); exact HO131.out))) (below_size (by repeat (first | (with_reducible first | exact HB.out | apply below_alloc | apply pw_below_drewN | apply below_drew1 | refine below_set ?_ GE101.out) | exact HB.out)))); have n7_ := Aside0.mk (Kd.R_lower (Kd.R_new' ho1 (Kd.R_lt (by (with_reducible repeat (first | apply Kd.R_alloc | apply Kd.R_drewN | apply Kd.R_drew)); exact HO134.out))) (below_size (by repeat (first | (with_reducible first | exact HB.out | apply below_alloc | apply pw_below_drewN | apply below_drew1 | refine below_set ?_ GE101.out) | exact HB.out)))); have n8_ := Aside0.mk (blk_below (g := gb101) (o := .cells #[.int .i64 a0_0, .slice A0_1 l0_1.length c0_1] 24 (0, 0)) (by (with_reducible repeat (first | refine blk_drewN ?_ _ | refine blk_drew ?_ | refine blk_alloc ?_ _)); exact BK101.out) hb); have n9_ := Aside0.mk (below_step (by repeat (first | (with_reducible first | exact HB.out | apply below_alloc | apply pw_below_drewN | apply below_drew1 | refine below_set ?_ GE101.out) | exact HB.out)) hb); clear HO112; clear HO115; clear HO124; clear HO127; clear HO131; clear HO134; clear BK101; clear HB; have HO112 := n0_; have HO115 := n1_; have HO124 := n2_; have HO127 := n3_; have HO131 := n4_; have HO134 := n5_; have HO139 := n6_; have HO142 := n7_; have BK101 := n8_; have HB := n9_; clear n0_ n1_ n2_ n3_ n4_ n5_ n6_ n7_ n8_ n9_; (try clear hb); (try clear hb2); (try clear hk); (try clear hi); (try clear ho0); (try clear ho1); have hcz61_0 : w60.cell? ⟨gb101, 0, none⟩ = some (.int .i64 a0_0) := (blk_cell BK101.out 0).trans rfl; have hcz61_1 : w60.cell? ⟨gb101, 1, none⟩ = some (.slice A0_1 l0_1.length c0_1) := (blk_cell BK101.out 1).trans rfl; have hfz61_0 := blk_frozen BK101.out 0; have hfz61_1 := blk_frozen BK101.out 1; obtain ⟨Ao62, co62, eo62⟩ := Kd.R_slice HO127.out; subst eo62) | ((with_reducible refine gate_callee (f := 14) rfl ?_); refine goesL_ (some 123) rfl rfl Try.func14 (by kernel_rfl) rfl #[.agg #[.int .i64 a0_0, .slice Ao62 y125.length co62], .int .i64 a1, .int .i64 a2] rfl (by (try simp only [List.map_toArray, List.map_cons, List.map_nil]); first | done | rfl | (simp only [List.length_drop, List.length_take]; rfl)) ?_; (with_reducible refine (flow_Most.calls a0_0 _ _ y125 a1 a2 t144 t145 t148 t151 _ ?side1 ?side2 A36.out).mono ?_); (case side1 => repeat (first | exact (Kd.R_reads' HO127.out).2.2 | (with_reducible refine Kd.C_alloc ?_ _) | (with_reducible refine Kd.C_drewN ?_ _) | (with_reducible refine Kd.C_drew ?_))); (case side2 => exact (Kd.R_reads' HO127.out).2.1); rintro e w63 ⟨v146, v149, rfl, ho0, ho1, hb⟩; refine ⟨_, rfl, ?_⟩; have n0_ := Aside0.mk (Kd.R_below (by (with_reducible repeat (first | apply Kd.R_alloc | apply Kd.R_drewN | apply Kd.R_drew)); exact HO112.out) hb); have n1_ := Aside0.mk (Kd.R_below (by (with_reducible repeat (first | apply Kd.R_alloc | apply Kd.R_drewN | apply Kd.R_drew)); exact HO115.out) hb); have n2_ := Aside0.mk (Kd.R_below (by (with_reducible repeat (first | apply Kd.R_alloc | apply Kd.R_drewN | apply Kd.R_drew)); exact HO124.out) hb); have n3_ := Aside0.mk (Kd.R_below (by (with_reducible repeat (first | apply Kd.R_alloc | apply Kd.R_drewN | apply Kd.R_drew)); exact HO127.out) hb); have n4_ := Aside0.mk (Kd.R_elder' (by (with_reducible repeat (first | apply Kd.R_alloc | apply Kd.R_drewN | apply Kd.R_drew)); exact HO131.out) (Kd.R_base ho0) hb); have n5_ := Aside0.mk (Kd.R_elder' (by (with_reducible repeat (first | apply Kd.R_alloc | apply Kd.R_drewN | apply Kd.R_drew)); exact HO134.out) (Kd.R_base ho1) hb); have n6_ := Aside0.mk (Kd.R_elder' (by (with_reducible repeat (first | apply Kd.R_alloc | apply Kd.R_drewN | apply Kd.R_drew)); exact HO139.out) (Kd.R_base ho0) hb); have n7_ := Aside0.mk (Kd.R_elder' (by (with_reducible repeat (first | apply Kd.R_alloc | apply Kd.R_drewN | apply Kd.R_drew)); exact HO142.out) (Kd.R_base ho1) hb); have n8_ := Aside0.mk (Kd.R_lower (Kd.R_new' (Kd.R_new' ho0 (Kd.R_lt (by (with_reducible repeat (first | apply Kd.R_alloc | apply Kd.R_drewN | apply Kd.R_drew)); exact HO131.out))) (Kd.R_lt (by (with_reducible repeat (first | apply Kd.R_alloc | apply Kd.R_drewN | apply Kd.R_drew)); exact HO139.out))) (below_size (by repeat (first | (with_reducible first | exact HB.out | apply below_alloc | apply pw_below_drewN | apply below_drew1 | refine below_set ?_ GE101.out) | exact HB.out)))); have n9_ := Aside0.mk (Kd.R_lower (Kd.R_new' (Kd.R_new' ho1 (Kd.R_lt (by (with_reducible repeat (first | apply Kd.R_alloc | apply Kd.R_drewN | apply Kd.R_drew)); exact HO134.out))) (Kd.R_lt (by (with_reducible repeat (first | apply Kd.R_alloc | apply Kd.R_drewN | apply Kd.R_drew)); exact HO142.out))) (below_size (by repeat (first | (with_reducible first | exact HB.out | apply below_alloc | apply pw_below_drewN | apply below_drew1 | refine below_set ?_ GE101.out) | exact HB.out)))); have n10_ := Aside0.mk (blk_below (g := gb101) (o := .cells #[.int .i64 a0_0, .slice A0_1 l0_1.length c0_1] 24 (0, 0)) (by (with_reducible repeat (first | refine blk_drewN ?_ _ | refine blk_drew ?_ | refine blk_alloc ?_ _)); exact BK101.out) hb); have n11_ := Aside0.mk (below_step (by repeat (first | (with_reducible first | exact HB.out | apply below_alloc | apply pw_below_drewN | apply below_drew1 | refine below_set ?_ GE101.out) | exact HB.out)) hb); clear HO112; clear HO115; clear HO124; clear HO127; clear HO131; clear HO134; clear HO139; clear HO142; clear BK101; clear HB; have HO112 := n0_; have HO115 := n1_; have HO124 := n2_; have HO127 := n3_; have HO131 := n4_; have HO134 := n5_; have HO139 := n6_; have HO142 := n7_; have HO147 := n8_; have HO150 := n9_; have BK101 := n10_; have HB := n11_; clear n0_ n1_ n2_ n3_ n4_ n5_ n6_ n7_ n8_ n9_ n10_ n11_; (try clear hb); (try clear hb2); (try clear hk); (try clear hi); (try clear ho0); (try clear ho1)))
                  (try simp only [Act.put, List.setIfInBounds_toArray, List.set_cons_zero, List.set_cons_succ])
                  go_cut [12] (fun v12 wc => ∃ (kq : Nat) (x12_36 : Bool), v12 = .bool x12_36 ∧ Aside0 (chargeparklaw21_FlowAnotherEdge.j1 kq x12_36 = some r) ∧ Aside0 (kq ≤ kj8) ∧ Aside0 (wc.heap[gb101]? = some (.cells #[.int .i64 a0_0, (.slice A0_1 l0_1.length c0_1)] 24 (0, 0))) ∧ Aside0 (Below w.heap.size w wc))
                  case first =>
                    have H := HC37.out
                    clear HC37
                    by_cases c64 : t102 = true
                    · subst c64
                      have H1 : (if t135 = 0 then (if t143 = 0 then (if t151 = 0 then (if t136 = (wrap64 (t128 + a3)) then (chargeparklaw21_FlowAnotherEdge.j1 kj8 (t144 == t128)) else (chargeparklaw21_FlowAnotherEdge.j1 kj8 false)) else (chargeparklaw21_FlowAnotherEdge.j1 kj8 false)) else (chargeparklaw21_FlowAnotherEdge.j1 kj8 false)) else (chargeparklaw21_FlowAnotherEdge.j1 kj8 false)) = some r := by rw [if_pos rfl] at H; exact H
                      clear H
                      have H := H1
                      clear H1
                      by_cases c65 : t135 = 0
                      · rw [if_pos c65] at H
                        have c65b0 : (t135 == 0) = true := beq_iff_eq.mpr c65
                        have c65b1 : (t135 != 0) = false := bne_eq_false_iff_eq.mpr c65
                        clear c65
                        (first | rw [c65b0] | (simp only [i64_w, i32_w]; rw [c65b0]) | skip)
                        by_cases c66 : t143 = 0
                        · rw [if_pos c66] at H
                          have c66b0 : (t143 == 0) = true := beq_iff_eq.mpr c66
                          have c66b1 : (t143 != 0) = false := bne_eq_false_iff_eq.mpr c66
                          clear c66
                          by_cases c67 : t151 = 0
                          · rw [if_pos c67] at H
                            have c67b0 : (t151 == 0) = true := beq_iff_eq.mpr c67
                            have c67b1 : (t151 != 0) = false := bne_eq_false_iff_eq.mpr c67
                            clear c67
                            by_cases c68 : t136 = (wrap64 (t128 + a3))
                            · rw [if_pos c68] at H
                              have c68b0 : (t136 == (wrap64 (t128 + a3))) = true := beq_iff_eq.mpr c68
                              have c68b1 : (t136 != (wrap64 (t128 + a3))) = false := bne_eq_false_iff_eq.mpr c68
                              clear c68
                              have H' := Aside0.mk H
                              clear H
                              go_wp2
                              go_meet
                              case rel => exact ⟨_, ((t144 == t128)), (by first | rfl | (simp; done) | (simp [*]; done)), H', ⟨by have := HJ8.out; first | omega | exact Nat.le_refl _⟩, ⟨by (with_reducible repeat (first | refine blk_drewN ?_ _ | refine blk_drew ?_ | refine blk_alloc ?_ _)); exact BK101.out⟩, ⟨by repeat (first | (with_reducible first | exact HB.out | apply below_alloc | apply pw_below_drewN | apply below_drew1 | refine below_set ?_ GE101.out) | exact HB.out)⟩⟩
                            · rw [if_neg c68] at H
                              have c68b0 : (t136 == (wrap64 (t128 + a3))) = false := beq_eq_false_iff_ne.mpr c68
                              have c68b1 : (t136 != (wrap64 (t128 + a3))) = true := bne_iff_ne.mpr c68
                              have H' := Aside0.mk H
                              clear H
                              go_wp2
                              go_meet
                              case rel => exact ⟨_, (false), (by first | rfl | (simp; done) | (simp [*]; done)), H', ⟨by have := HJ8.out; first | omega | exact Nat.le_refl _⟩, ⟨by (with_reducible repeat (first | refine blk_drewN ?_ _ | refine blk_drew ?_ | refine blk_alloc ?_ _)); exact BK101.out⟩, ⟨by repeat (first | (with_reducible first | exact HB.out | apply below_alloc | apply pw_below_drewN | apply below_drew1 | refine below_set ?_ GE101.out) | exact HB.out)⟩⟩
                          · rw [if_neg c67] at H
                            have c67b0 : (t151 == 0) = false := beq_eq_false_iff_ne.mpr c67
                            have c67b1 : (t151 != 0) = true := bne_iff_ne.mpr c67
                            have H' := Aside0.mk H
                            clear H
                            go_wp2
                            go_meet
                            case rel => exact ⟨_, (false), (by first | rfl | (simp; done) | (simp [*]; done)), H', ⟨by have := HJ8.out; first | omega | exact Nat.le_refl _⟩, ⟨by (with_reducible repeat (first | refine blk_drewN ?_ _ | refine blk_drew ?_ | refine blk_alloc ?_ _)); exact BK101.out⟩, ⟨by repeat (first | (with_reducible first | exact HB.out | apply below_alloc | apply pw_below_drewN | apply below_drew1 | refine below_set ?_ GE101.out) | exact HB.out)⟩⟩
                        · rw [if_neg c66] at H
                          have c66b0 : (t143 == 0) = false := beq_eq_false_iff_ne.mpr c66
                          have c66b1 : (t143 != 0) = true := bne_iff_ne.mpr c66
                          have H' := Aside0.mk H
                          clear H
                          go_wp2
                          go_meet
                          case rel => exact ⟨_, (false), (by first | rfl | (simp; done) | (simp [*]; done)), H', ⟨by have := HJ8.out; first | omega | exact Nat.le_refl _⟩, ⟨by (with_reducible repeat (first | refine blk_drewN ?_ _ | refine blk_drew ?_ | refine blk_alloc ?_ _)); exact BK101.out⟩, ⟨by repeat (first | (with_reducible first | exact HB.out | apply below_alloc | apply pw_below_drewN | apply below_drew1 | refine below_set ?_ GE101.out) | exact HB.out)⟩⟩
                      · rw [if_neg c65] at H
                        have c65b0 : (t135 == 0) = false := beq_eq_false_iff_ne.mpr c65
                        have c65b1 : (t135 != 0) = true := bne_iff_ne.mpr c65
                        (first | rw [c65b0] | (simp only [i64_w, i32_w]; rw [c65b0]) | skip)
                        have H' := Aside0.mk H
                        clear H
                        go_wp2
                        go_meet
                        case rel => exact ⟨_, (false), (by first | rfl | (simp; done) | (simp [*]; done)), H', ⟨by have := HJ8.out; first | omega | exact Nat.le_refl _⟩, ⟨by (with_reducible repeat (first | refine blk_drewN ?_ _ | refine blk_drew ?_ | refine blk_alloc ?_ _)); exact BK101.out⟩, ⟨by repeat (first | (with_reducible first | exact HB.out | apply below_alloc | apply pw_below_drewN | apply below_drew1 | refine below_set ?_ GE101.out) | exact HB.out)⟩⟩
                    · replace c64 := Bool.eq_false_iff.mpr c64
                      subst c64
                      have H1 : (chargeparklaw21_FlowAnotherEdge.j1 kj8 false) = some r := by rw [if_neg (show ¬ (false = true) by decide)] at H; exact H
                      clear H
                      have H := H1
                      clear H1
                      have H' := Aside0.mk H
                      clear H
                      go_wp2
                      go_meet
                      case rel => exact ⟨_, (false), (by first | rfl | (simp; done) | (simp [*]; done)), H', ⟨by have := HJ8.out; first | omega | exact Nat.le_refl _⟩, ⟨by (with_reducible repeat (first | refine blk_drewN ?_ _ | refine blk_drew ?_ | refine blk_alloc ?_ _)); exact BK101.out⟩, ⟨by repeat (first | (with_reducible first | exact HB.out | apply below_alloc | apply pw_below_drewN | apply below_drew1 | refine below_set ?_ GE101.out) | exact HB.out)⟩⟩
                  case rest =>
                    clear HC37
                    try clear c1
                    try clear p2
                    try clear c3
                    try clear c6
                    try clear p6
                    try clear c14
                    try clear c31
                    try clear c32
                    try clear c33
                    try clear c64
                    try clear p64
                    try clear c65
                    try clear c65b0
                    try clear c65b1
                    try clear c66
                    try clear c66b0
                    try clear c66b1
                    try clear c67
                    try clear c67b0
                    try clear c67b1
                    try clear c68
                    try clear c68b0
                    try clear c68b1
                    try clear hcz56_0
                    try clear hcz56_1
                    try clear hcz58_0
                    try clear hcz58_1
                    try clear hcz61_0
                    try clear hcz61_1
                    try clear hfz56_0
                    try clear hfz56_1
                    try clear hfz58_0
                    try clear hfz58_1
                    try clear hfz61_0
                    try clear hfz61_1
                    obtain ⟨kq, x12_36, rfl, HA, HJ36, BK101, HB⟩ := hcut
                    cases kq with
                    | zero => exact absurd HA.out (by simp [chargeparklaw21_FlowAnotherEdge.j1])
                    | succ kj36 =>
                      have H := HA.out
                      clear HA
                      simp only [chargeparklaw21_FlowAnotherEdge.j1] at H
                      obtain rfl := Option.some.inj H
                      go_wp2
                      go_ret
                      exact ⟨by first | rfl | (simp [errW_none, errW_some] <;> rfl) | (simp [*, errW_none, errW_some] <;> rfl), by repeat (first | (with_reducible first | exact HB.out | apply below_alloc | apply pw_below_drewN | apply below_drew1 | refine below_set ?_ GE101.out) | exact HB.out)⟩
                · rw [if_neg c33] at H
                  exact absurd H (by simp)
              · rw [if_neg c32] at H
                exact absurd H (by simp)
            · rw [if_neg c31] at H
              exact absurd H (by simp)
          · rw [if_neg c30] at H
            exact absurd H (by simp)
        · rw [if_neg c29] at H
          exact absurd H (by simp)

end Go.Proofs.Ytfjbbmgnfpeogaa.Pr
