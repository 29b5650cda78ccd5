-- Written by a program of this session over the kit's print.
import Derived.Test.YtfjbbmgnfpeogaaPr0
import Derived.Test.YtfjbbmgnfpeogaaPr2
import Derived.Test.YtfjbbmgnfpeogaaPr4
import Derived.Test.YtfjbbmgnfpeogaaPr5
import Derived.Test.YtfjbbmgnfpeogaaPr6
import Derived.Test.YtfjbbmgnfpeogaaPr7
import Derived.Test.YtfjbbmgnfpeogaaMost
namespace Go.Proofs.Ytfjbbmgnfpeogaa.Pr
open Go.RowKit Go.Proofs.YtfjbbmgnfpeogaaW.PrintWords Go.Proofs.YtfjbbmgnfpeogaaW.PrintLast Go.Proofs.YtfjbbmgnfpeogaaW.PrintMore
attribute [local go_sem] max2_int min2_int max_two min_two max_three min_three max_four min_four   -- for this text's walks alone
set_option linter.unusedVariables false
set_option linter.unusedSimpArgs false

/-! ### chargeparklaw21_FlowDuality: function 5 -/
def chargeparklaw21_FlowDuality.j0 : Nat → Int → Int → List Int → List Bool → Bool → Int → Bool → Bool → Int → List (S39) → Option (Bool)
  | 0, _, _, _, _, _, _, _, _, _, _ => none
  | k + 1, x1, x2, x3, x4, x11, x13, x17, x18, x300000, x300001 => if x18 = true then (if x11 = true then ((chargeparkref21_Capacity.f k x300000 x300001 x4).bind fun t313 => ((flow_Check.f k x300000 x300001 x1 x2 x3 x4).bind fun t314 => (if t313 ≥ x13 then (if t314 = true then (if x17 = true then ((chargeparkref21_Amount.f k x300000 x300001 x1 x3).bind fun t315 => (if t315 = x13 then ((chargeparkref21_Capacity.f k x300000 x300001 x4).bind fun t316 => (some (t316 == x13))) else (some false))) else (some false)) else (some true)) else (some false)))) else ((flow_Check.f k x300000 x300001 x1 x2 x3 x4).bind fun t317 => (some false))) else ((flow_Check.f k x300000 x300001 x1 x2 x3 x4).bind fun t318 => (if x11 = true then (if t318 = true then (if x17 = true then (some false) else (some false)) else (some true)) else (some false)))
def chargeparklaw21_FlowDuality.f (k : Nat) (a0_0 : Int) (l0_1 : List (S39)) (a1 : Int) (a2 : Int) (l3 : List Int) (l4 : List Bool) : Option (Bool) := (chargeparklaw21_head.f k).bind fun t300 => ((chargeparkref21_Ends.f k a0_0 l0_1 a1 a2).bind fun t301 => (if t301 = true then ((flow_Most.f a0_0 l0_1 a1 a2).bind fun bt302 => ((chargeparkref21_Flow.f k a0_0 l0_1 a1 a2 l3).bind fun t310 => ((chargeparkref21_Cut.f a0_0 l0_1 a1 a2 l4).bind fun t311 => (if bt302.2.2.2 = 0 then (if t310 = true then (if t300 = true then ((chargeparkref21_Amount.f k a0_0 l0_1 a1 l3).bind fun t312 => (chargeparklaw21_FlowDuality.j0 k a1 a2 l3 l4 (decide (t312 ≤ bt302.1)) bt302.1 t310 t311 a0_0 l0_1)) else (chargeparklaw21_FlowDuality.j0 k a1 a2 l3 l4 false bt302.1 t310 t311 a0_0 l0_1)) else (chargeparklaw21_FlowDuality.j0 k a1 a2 l3 l4 t300 bt302.1 t310 t311 a0_0 l0_1)) else (some false))))) else (some t300)))
theorem chargeparklaw21_FlowDuality.mono_l : ∀ k, (∀ y0 y1 y2 y3 y4 y5 y6 y7 y8 y9, LeO (chargeparklaw21_FlowDuality.j0 k y0 y1 y2 y3 y4 y5 y6 y7 y8 y9) (chargeparklaw21_FlowDuality.j0 (k + 1) y0 y1 y2 y3 y4 y5 y6 y7 y8 y9))
  | 0 => fun _ _ _ _ _ _ _ _ _ _ r h => by simp [chargeparklaw21_FlowDuality.j0] at h
  | k + 1 => by
    have ih0 := chargeparklaw21_FlowDuality.mono_l k
    · intro y0 y1 y2 y3 y4 y5 y6 y7 y8 y9
      unfold chargeparklaw21_FlowDuality.j0
      repeat' first
      | (with_reducible exact ih0 _ _ _ _ _ _ _ _ _ _)
      | (with_reducible exact chargeparklaw21_head.mono _)
      | (with_reducible exact chargeparkref21_Amount.mono _ _ _ _ _)
      | (with_reducible exact chargeparkref21_Capacity.mono _ _ _ _)
      | (with_reducible exact chargeparkref21_Ends.mono _ _ _ _ _)
      | (with_reducible exact chargeparkref21_Flow.mono _ _ _ _ _ _)
      | (with_reducible exact flow_Check.mono _ _ _ _ _ _ _)
      | (with_reducible exact LeO.refl _)
      | (with_reducible exact LeO.none _)
      | (with_reducible refine LeO.ite ?_ ?_)
      | (with_reducible refine LeO.bind ?_ (fun _ => ?_))
      | exact ih0 _ _ _ _ _ _ _ _ _ _
      | exact chargeparklaw21_head.mono _
      | exact chargeparkref21_Amount.mono _ _ _ _ _
      | exact chargeparkref21_Capacity.mono _ _ _ _
      | exact chargeparkref21_Ends.mono _ _ _ _ _
      | exact chargeparkref21_Flow.mono _ _ _ _ _ _
      | exact flow_Check.mono _ _ _ _ _ _ _
      | exact LeO.none _
      | refine LeO.ite ?_ ?_
      | refine LeO.bind ?_ (fun _ => ?_)
theorem chargeparklaw21_FlowDuality.mono : ∀ a0 a1 a2 a3 a4 a5 k, LeO (chargeparklaw21_FlowDuality.f k a0 a1 a2 a3 a4 a5) (chargeparklaw21_FlowDuality.f (k + 1) a0 a1 a2 a3 a4 a5) := by
  intro a0 a1 a2 a3 a4 a5 k
  have ih0 := chargeparklaw21_FlowDuality.mono_l k
  unfold chargeparklaw21_FlowDuality.f
  repeat' first
      | (with_reducible exact ih0 _ _ _ _ _ _ _ _ _ _)
      | (with_reducible exact chargeparklaw21_head.mono _)
      | (with_reducible exact chargeparkref21_Amount.mono _ _ _ _ _)
      | (with_reducible exact chargeparkref21_Capacity.mono _ _ _ _)
      | (with_reducible exact chargeparkref21_Ends.mono _ _ _ _ _)
      | (with_reducible exact chargeparkref21_Flow.mono _ _ _ _ _ _)
      | (with_reducible exact flow_Check.mono _ _ _ _ _ _ _)
      | (with_reducible exact LeO.refl _)
      | (with_reducible exact LeO.none _)
      | (with_reducible refine LeO.ite ?_ ?_)
      | (with_reducible refine LeO.bind ?_ (fun _ => ?_))
      | exact ih0 _ _ _ _ _ _ _ _ _ _
      | exact chargeparklaw21_head.mono _
      | exact chargeparkref21_Amount.mono _ _ _ _ _
      | exact chargeparkref21_Capacity.mono _ _ _ _
      | exact chargeparkref21_Ends.mono _ _ _ _ _
      | exact chargeparkref21_Flow.mono _ _ _ _ _ _
      | exact flow_Check.mono _ _ _ _ _ _ _
      | exact LeO.none _
      | refine LeO.ite ?_ ?_
      | refine LeO.bind ?_ (fun _ => ?_)
set_option maxHeartbeats 8000000 in
set_option maxRecDepth 100000 in
theorem chargeparklaw21_FlowDuality.calls (k : Nat) (a0_0 : Int) (A0_1 : Option Addr) (c0_1 : Nat) (l0_1 : List (S39)) (a1 : Int) (a2 : Int) (A3 : Option Addr) (c3 : Nat) (l3 : List Int) (A4 : Option Addr) (c4 : Nat) (l4 : List Bool) (r : Bool) (w : World) (hr0_1 : Kd.C k39 w A0_1 l0_1.length l0_1) (hc0_1 : l0_1.length ≤ c0_1) (hr3 : Kd.C (Kd.int .i64) w A3 l3.length l3) (hc3 : l3.length ≤ c3) (hr4 : Kd.C Kd.bool w A4 l4.length l4) (hc4 : l4.length ≤ c4) (h : chargeparklaw21_FlowDuality.f k a0_0 l0_1 a1 a2 l3 l4 = some r) :
    Calls Try.prog 5 #[.agg #[.int .i64 a0_0, .slice A0_1 l0_1.length c0_1], .int .i64 a1, .int .i64 a2, .slice A3 l3.length c3, .slice A4 l4.length c4] w fun e w' => e = .returned (.bool r) ∧ Below w.heap.size w w' := by
  have hu24 := Try.underlying24
  have HR0_1 := Aside0.mk hr0_1
  have HC0_1 := Aside0.mk hc0_1
  clear hr0_1 hc0_1
  have HR3 := Aside0.mk hr3
  have HC3 := Aside0.mk hc3
  clear hr3 hc3
  have HR4 := Aside0.mk hr4
  have HC4 := Aside0.mk hc4
  clear hr4 hc4
  have HB := Aside0.mk (Below.refl w.heap.size w)
  have H : ((chargeparklaw21_head.f k).bind fun t300 => ((chargeparkref21_Ends.f k a0_0 l0_1 a1 a2).bind fun t301 => (if t301 = true then ((flow_Most.f a0_0 l0_1 a1 a2).bind fun bt302 => ((chargeparkref21_Flow.f k a0_0 l0_1 a1 a2 l3).bind fun t310 => ((chargeparkref21_Cut.f a0_0 l0_1 a1 a2 l4).bind fun t311 => (if bt302.2.2.2 = 0 then (if t310 = true then (if t300 = true then ((chargeparkref21_Amount.f k a0_0 l0_1 a1 l3).bind fun t312 => (chargeparklaw21_FlowDuality.j0 k a1 a2 l3 l4 (decide (t312 ≤ bt302.1)) bt302.1 t310 t311 a0_0 l0_1)) else (chargeparklaw21_FlowDuality.j0 k a1 a2 l3 l4 false bt302.1 t310 t311 a0_0 l0_1)) else (chargeparklaw21_FlowDuality.j0 k a1 a2 l3 l4 t300 bt302.1 t310 t311 a0_0 l0_1)) else (some false))))) else (some t300)))) = some r := h
  clear h
  replace H := Option.bind_eq_some_iff.mp H
  obtain ⟨t300, A60, H⟩ := H
  replace H : ((chargeparkref21_Ends.f k a0_0 l0_1 a1 a2).bind fun t301 => (if t301 = true then ((flow_Most.f a0_0 l0_1 a1 a2).bind fun bt302 => ((chargeparkref21_Flow.f k a0_0 l0_1 a1 a2 l3).bind fun t310 => ((chargeparkref21_Cut.f a0_0 l0_1 a1 a2 l4).bind fun t311 => (if bt302.2.2.2 = 0 then (if t310 = true then (if t300 = true then ((chargeparkref21_Amount.f k a0_0 l0_1 a1 l3).bind fun t312 => (chargeparklaw21_FlowDuality.j0 k a1 a2 l3 l4 (decide (t312 ≤ bt302.1)) bt302.1 t310 t311 a0_0 l0_1)) else (chargeparklaw21_FlowDuality.j0 k a1 a2 l3 l4 false bt302.1 t310 t311 a0_0 l0_1)) else (chargeparklaw21_FlowDuality.j0 k a1 a2 l3 l4 t300 bt302.1 t310 t311 a0_0 l0_1)) else (some false))))) else (some t300))) = some r := H
  have A6 := Aside0.mk A60
  clear A60
  replace H := Option.bind_eq_some_iff.mp H
  obtain ⟨t301, A70, H⟩ := H
  replace H : (if t301 = true then ((flow_Most.f a0_0 l0_1 a1 a2).bind fun bt302 => ((chargeparkref21_Flow.f k a0_0 l0_1 a1 a2 l3).bind fun t310 => ((chargeparkref21_Cut.f a0_0 l0_1 a1 a2 l4).bind fun t311 => (if bt302.2.2.2 = 0 then (if t310 = true then (if t300 = true then ((chargeparkref21_Amount.f k a0_0 l0_1 a1 l3).bind fun t312 => (chargeparklaw21_FlowDuality.j0 k a1 a2 l3 l4 (decide (t312 ≤ bt302.1)) bt302.1 t310 t311 a0_0 l0_1)) else (chargeparklaw21_FlowDuality.j0 k a1 a2 l3 l4 false bt302.1 t310 t311 a0_0 l0_1)) else (chargeparklaw21_FlowDuality.j0 k a1 a2 l3 l4 t300 bt302.1 t310 t311 a0_0 l0_1)) else (some false))))) else (some t300)) = some r := H
  have A7 := Aside0.mk A70
  clear A70
  by_cases c8 : t301 = true
  · subst c8
    have H1 : ((flow_Most.f a0_0 l0_1 a1 a2).bind fun bt302 => ((chargeparkref21_Flow.f k a0_0 l0_1 a1 a2 l3).bind fun t310 => ((chargeparkref21_Cut.f a0_0 l0_1 a1 a2 l4).bind fun t311 => (if bt302.2.2.2 = 0 then (if t310 = true then (if t300 = true then ((chargeparkref21_Amount.f k a0_0 l0_1 a1 l3).bind fun t312 => (chargeparklaw21_FlowDuality.j0 k a1 a2 l3 l4 (decide (t312 ≤ bt302.1)) bt302.1 t310 t311 a0_0 l0_1)) else (chargeparklaw21_FlowDuality.j0 k a1 a2 l3 l4 false bt302.1 t310 t311 a0_0 l0_1)) else (chargeparklaw21_FlowDuality.j0 k a1 a2 l3 l4 t300 bt302.1 t310 t311 a0_0 l0_1)) else (some false))))) = some r := by rw [if_pos rfl] at H; exact H
    clear H
    have H := H1
    clear H1
    replace H := Option.bind_eq_some_iff.mp H
    obtain ⟨⟨t302, t303, t306, t309⟩, A90, H⟩ := H
    replace H : ((chargeparkref21_Flow.f k a0_0 l0_1 a1 a2 l3).bind fun t310 => ((chargeparkref21_Cut.f a0_0 l0_1 a1 a2 l4).bind fun t311 => (if t309 = 0 then (if t310 = true then (if t300 = true then ((chargeparkref21_Amount.f k a0_0 l0_1 a1 l3).bind fun t312 => (chargeparklaw21_FlowDuality.j0 k a1 a2 l3 l4 (decide (t312 ≤ t302)) t302 t310 t311 a0_0 l0_1)) else (chargeparklaw21_FlowDuality.j0 k a1 a2 l3 l4 false t302 t310 t311 a0_0 l0_1)) else (chargeparklaw21_FlowDuality.j0 k a1 a2 l3 l4 t300 t302 t310 t311 a0_0 l0_1)) else (some false)))) = some r := H
    have A9 := Aside0.mk A90
    clear A90
    replace H := Option.bind_eq_some_iff.mp H
    obtain ⟨t310, A100, H⟩ := H
    replace H : ((chargeparkref21_Cut.f a0_0 l0_1 a1 a2 l4).bind fun t311 => (if t309 = 0 then (if t310 = true then (if t300 = true then ((chargeparkref21_Amount.f k a0_0 l0_1 a1 l3).bind fun t312 => (chargeparklaw21_FlowDuality.j0 k a1 a2 l3 l4 (decide (t312 ≤ t302)) t302 t310 t311 a0_0 l0_1)) else (chargeparklaw21_FlowDuality.j0 k a1 a2 l3 l4 false t302 t310 t311 a0_0 l0_1)) else (chargeparklaw21_FlowDuality.j0 k a1 a2 l3 l4 t300 t302 t310 t311 a0_0 l0_1)) else (some false))) = some r := H
    have A10 := Aside0.mk A100
    clear A100
    replace H := Option.bind_eq_some_iff.mp H
    obtain ⟨t311, A110, H⟩ := H
    replace H : (if t309 = 0 then (if t310 = true then (if t300 = true then ((chargeparkref21_Amount.f k a0_0 l0_1 a1 l3).bind fun t312 => (chargeparklaw21_FlowDuality.j0 k a1 a2 l3 l4 (decide (t312 ≤ t302)) t302 t310 t311 a0_0 l0_1)) else (chargeparklaw21_FlowDuality.j0 k a1 a2 l3 l4 false t302 t310 t311 a0_0 l0_1)) else (chargeparklaw21_FlowDuality.j0 k a1 a2 l3 l4 t300 t302 t310 t311 a0_0 l0_1)) else (some false)) = some r := H
    have A11 := Aside0.mk A110
    clear A110
    by_cases c12 : t309 = 0
    · rw [if_pos c12] at H
      have c12b0 : (t309 == 0) = true := beq_iff_eq.mpr c12
      have c12b1 : (t309 != 0) = false := bne_eq_false_iff_eq.mpr c12
      clear c12
      have HC13 := Aside0.mk H
      clear H
      go_enter Try.func5, Try.ntmps5
      go_upto_if 49 with (first | ((with_reducible refine gate_dst (N := 5) rfl ?_); refine box_event ?hg (N := 5) ?hd (cs := #[.int .i64 a0_0, .slice A0_1 l0_1.length c0_1]) (t := 24) ?hr ?_; (case hd => rfl); (case hg => rfl); (case hr => first | (go_simp; done) | (go_simp; rfl)); intro gb299 hg w14 hbox hb; have n0_ := Aside0.mk (below_step (by repeat (first | (with_reducible first | exact HB.out | apply below_alloc | apply pw_below_drewN | apply below_drew1) | exact HB.out)) hb); have n1_ := Aside0.mk (hbox); have n2_ := Aside0.mk ((by rw [hg]; exact (below_size (by repeat (first | (with_reducible first | exact HB.out | apply below_alloc | apply pw_below_drewN | apply below_drew1) | exact HB.out))) : w.heap.size ≤ gb299)); have n3_ := Aside0.mk ((by rw [hg]; exact (below_size (by repeat (first | (with_reducible first | exact HB.out | apply below_alloc | apply pw_below_drewN | apply below_drew1) | exact HB.out))) : w.heap.size ≤ gb299)); clear HB; have HB := n0_; have BK299 := n1_; have GW299 := n2_; have GE299 := n3_; clear n0_ n1_ n2_ n3_; clear hb hbox hg) | ((with_reducible refine gate_callee (f := 10) rfl ?_); refine goesL_ (some 20) rfl rfl Try.func10 (by kernel_rfl) rfl #[] rfl (by (try simp only [List.map_toArray, List.map_cons, List.map_nil]); first | done | rfl | (simp only [List.length_drop, List.length_take]; rfl)) ?_; (with_reducible refine (chargeparklaw21_head.calls k  t300 _ A6.out).mono ?_); rintro e w15 ⟨rfl, hb⟩; refine ⟨_, rfl, ?_⟩; have n0_ := Aside0.mk (blk_below (g := gb299) (o := .cells #[.int .i64 a0_0, .slice A0_1 l0_1.length c0_1] 24 (0, 0)) (by (with_reducible repeat (first | refine blk_drewN ?_ _ | refine blk_drew ?_ | refine blk_alloc ?_ _)); exact BK299.out) hb); have n1_ := Aside0.mk (below_step (by repeat (first | (with_reducible first | exact HB.out | apply below_alloc | apply pw_below_drewN | apply below_drew1 | refine below_set ?_ GE299.out) | exact HB.out)) hb); clear BK299; clear HB; have BK299 := n0_; have HB := n1_; clear n0_ n1_; (try clear hb); (try clear hb2); (try clear hk); (try clear hi); have hcz16_0 : w15.cell? ⟨gb299, 0, none⟩ = some (.int .i64 a0_0) := (blk_cell BK299.out 0).trans rfl; have hcz16_1 : w15.cell? ⟨gb299, 1, none⟩ = some (.slice A0_1 l0_1.length c0_1) := (blk_cell BK299.out 1).trans rfl; have hfz16_0 := blk_frozen BK299.out 0; have hfz16_1 := blk_frozen BK299.out 1) | ((with_reducible refine gate_callee (f := 18) rfl ?_); refine goesL_ (some 24) rfl rfl Try.func18 (by kernel_rfl) rfl #[.agg #[.int .i64 a0_0, .slice A0_1 l0_1.length c0_1], .int .i64 a1, .int .i64 a2] rfl (by (try simp only [List.map_toArray, List.map_cons, List.map_nil]); first | done | rfl | (simp only [List.length_drop, List.length_take]; rfl)) ?_; (with_reducible refine (chargeparkref21_Ends.calls k a0_0 _ _ l0_1 a1 a2 true _ ?side1 ?side2 A7.out).mono ?_); (case side1 => repeat (first | exact (Kd.C_below HR0_1.out HB.out) | (with_reducible refine Kd.C_alloc ?_ _) | (with_reducible refine Kd.C_drewN ?_ _) | (with_reducible refine Kd.C_drew ?_))); (case side2 => exact HC0_1.out); rintro e w17 ⟨rfl, hb⟩; refine ⟨_, rfl, ?_⟩; have n0_ := Aside0.mk (blk_below (g := gb299) (o := .cells #[.int .i64 a0_0, .slice A0_1 l0_1.length c0_1] 24 (0, 0)) (by (with_reducible repeat (first | refine blk_drewN ?_ _ | refine blk_drew ?_ | refine blk_alloc ?_ _)); exact BK299.out) hb); have n1_ := Aside0.mk (below_step (by repeat (first | (with_reducible first | exact HB.out | apply below_alloc | apply pw_below_drewN | apply below_drew1 | refine below_set ?_ GE299.out) | exact HB.out)) hb); clear BK299; clear HB; have BK299 := n0_; have HB := n1_; clear n0_ n1_; (try clear hb); (try clear hb2); (try clear hk); (try clear hi); have hcz18_0 : w17.cell? ⟨gb299, 0, none⟩ = some (.int .i64 a0_0) := (blk_cell BK299.out 0).trans rfl; have hcz18_1 : w17.cell? ⟨gb299, 1, none⟩ = some (.slice A0_1 l0_1.length c0_1) := (blk_cell BK299.out 1).trans rfl; have hfz18_0 := blk_frozen BK299.out 0; have hfz18_1 := blk_frozen BK299.out 1) | ((with_reducible refine gate_callee (f := 14) rfl ?_); refine goesL_ (some 32) rfl rfl Try.func14 (by kernel_rfl) rfl #[.agg #[.int .i64 a0_0, .slice A0_1 l0_1.length c0_1], .int .i64 a1, .int .i64 a2] rfl (by (try simp only [List.map_toArray, List.map_cons, List.map_nil]); first | done | rfl | (simp only [List.length_drop, List.length_take]; rfl)) ?_; (with_reducible refine (flow_Most.calls a0_0 _ _ l0_1 a1 a2 t302 t303 t306 t309 _ ?side1 ?side2 A9.out).mono ?_); (case side1 => repeat (first | exact (Kd.C_below HR0_1.out HB.out) | (with_reducible refine Kd.C_alloc ?_ _) | (with_reducible refine Kd.C_drewN ?_ _) | (with_reducible refine Kd.C_drew ?_))); (case side2 => exact HC0_1.out); rintro e w19 ⟨v304, v307, rfl, ho0, ho1, hb⟩; refine ⟨_, rfl, ?_⟩; have n0_ := Aside0.mk (Kd.R_lower ho0 (below_size (by repeat (first | (with_reducible first | exact HB.out | apply below_alloc | apply pw_below_drewN | apply below_drew1 | refine below_set ?_ GE299.out) | exact HB.out)))); have n1_ := Aside0.mk (Kd.R_lower ho1 (below_size (by repeat (first | (with_reducible first | exact HB.out | apply below_alloc | apply pw_below_drewN | apply below_drew1 | refine below_set ?_ GE299.out) | exact HB.out)))); have n2_ := Aside0.mk (blk_below (g := gb299) (o := .cells #[.int .i64 a0_0, .slice A0_1 l0_1.length c0_1] 24 (0, 0)) (by (with_reducible repeat (first | refine blk_drewN ?_ _ | refine blk_drew ?_ | refine blk_alloc ?_ _)); exact BK299.out) hb); have n3_ := Aside0.mk (below_step (by repeat (first | (with_reducible first | exact HB.out | apply below_alloc | apply pw_below_drewN | apply below_drew1 | refine below_set ?_ GE299.out) | exact HB.out)) hb); clear BK299; clear HB; have HO305 := n0_; have HO308 := n1_; have BK299 := n2_; have HB := n3_; clear n0_ n1_ n2_ n3_; (try clear hb); (try clear hb2); (try clear hk); (try clear hi); (try clear ho0); (try clear ho1); have hcz20_0 : w19.cell? ⟨gb299, 0, none⟩ = some (.int .i64 a0_0) := (blk_cell BK299.out 0).trans rfl; have hcz20_1 : w19.cell? ⟨gb299, 1, none⟩ = some (.slice A0_1 l0_1.length c0_1) := (blk_cell BK299.out 1).trans rfl; have hfz20_0 := blk_frozen BK299.out 0; have hfz20_1 := blk_frozen BK299.out 1) | ((with_reducible refine gate_callee (f := 19) rfl ?_); refine goesL_ (some 41) rfl rfl Try.func19 (by kernel_rfl) rfl #[.agg #[.int .i64 a0_0, .slice A0_1 l0_1.length c0_1], .int .i64 a1, .int .i64 a2, .slice A3 l3.length c3] rfl (by (try simp only [List.map_toArray, List.map_cons, List.map_nil]); first | done | rfl | (simp only [List.length_drop, List.length_take]; rfl)) ?_; (with_reducible refine (chargeparkref21_Flow.calls k a0_0 _ _ l0_1 a1 a2 _ _ l3 t310 _ ?side1 ?side2 ?side3 ?side4 A10.out).mono ?_); (case side1 => repeat (first | exact (Kd.C_below HR0_1.out HB.out) | (with_reducible refine Kd.C_alloc ?_ _) | (with_reducible refine Kd.C_drewN ?_ _) | (with_reducible refine Kd.C_drew ?_))); (case side2 => exact HC0_1.out); (case side3 => repeat (first | exact (Kd.C_below HR3.out HB.out) | (with_reducible refine Kd.C_alloc ?_ _) | (with_reducible refine Kd.C_drewN ?_ _) | (with_reducible refine Kd.C_drew ?_))); (case side4 => exact HC3.out); rintro e w21 ⟨rfl, hb⟩; refine ⟨_, rfl, ?_⟩; have n0_ := Aside0.mk (Kd.R_below (by (with_reducible repeat (first | apply Kd.R_alloc | apply Kd.R_drewN | apply Kd.R_drew)); exact HO305.out) hb); have n1_ := Aside0.mk (Kd.R_below (by (with_reducible repeat (first | apply Kd.R_alloc | apply Kd.R_drewN | apply Kd.R_drew)); exact HO308.out) hb); have n2_ := Aside0.mk (blk_below (g := gb299) (o := .cells #[.int .i64 a0_0, .slice A0_1 l0_1.length c0_1] 24 (0, 0)) (by (with_reducible repeat (first | refine blk_drewN ?_ _ | refine blk_drew ?_ | refine blk_alloc ?_ _)); exact BK299.out) hb); have n3_ := Aside0.mk (below_step (by repeat (first | (with_reducible first | exact HB.out | apply below_alloc | apply pw_below_drewN | apply below_drew1 | refine below_set ?_ GE299.out) | exact HB.out)) hb); clear HO305; clear HO308; clear BK299; clear HB; have HO305 := n0_; have HO308 := n1_; have BK299 := n2_; have HB := n3_; clear n0_ n1_ n2_ n3_; (try clear hb); (try clear hb2); (try clear hk); (try clear hi); have hcz22_0 : w21.cell? ⟨gb299, 0, none⟩ = some (.int .i64 a0_0) := (blk_cell BK299.out 0).trans rfl; have hcz22_1 : w21.cell? ⟨gb299, 1, none⟩ = some (.slice A0_1 l0_1.length c0_1) := (blk_cell BK299.out 1).trans rfl; have hfz22_0 := blk_frozen BK299.out 0; have hfz22_1 := blk_frozen BK299.out 1) | ((with_reducible refine gate_callee (f := 20) rfl ?_); refine goesL_ (some 46) rfl rfl Try.func20 (by kernel_rfl) rfl #[.agg #[.int .i64 a0_0, .slice A0_1 l0_1.length c0_1], .int .i64 a1, .int .i64 a2, .slice A4 l4.length c4] rfl (by (try simp only [List.map_toArray, List.map_cons, List.map_nil]); first | done | rfl | (simp only [List.length_drop, List.length_take]; rfl)) ?_; (with_reducible refine (chargeparkref21_Cut.calls a0_0 _ _ l0_1 a1 a2 _ _ l4 t311 _ ?side1 ?side2 ?side3 ?side4 A11.out).mono ?_); (case side1 => repeat (first | exact (Kd.C_below HR0_1.out HB.out) | (with_reducible refine Kd.C_alloc ?_ _) | (with_reducible refine Kd.C_drewN ?_ _) | (with_reducible refine Kd.C_drew ?_))); (case side2 => exact HC0_1.out); (case side3 => repeat (first | exact (Kd.C_below HR4.out HB.out) | (with_reducible refine Kd.C_alloc ?_ _) | (with_reducible refine Kd.C_drewN ?_ _) | (with_reducible refine Kd.C_drew ?_))); (case side4 => exact HC4.out); rintro e w23 ⟨rfl, hb⟩; refine ⟨_, rfl, ?_⟩; have n0_ := Aside0.mk (Kd.R_below (by (with_reducible repeat (first | apply Kd.R_alloc | apply Kd.R_drewN | apply Kd.R_drew)); exact HO305.out) hb); have n1_ := Aside0.mk (Kd.R_below (by (with_reducible repeat (first | apply Kd.R_alloc | apply Kd.R_drewN | apply Kd.R_drew)); exact HO308.out) hb); have n2_ := Aside0.mk (blk_below (g := gb299) (o := .cells #[.int .i64 a0_0, .slice A0_1 l0_1.length c0_1] 24 (0, 0)) (by (with_reducible repeat (first | refine blk_drewN ?_ _ | refine blk_drew ?_ | refine blk_alloc ?_ _)); exact BK299.out) hb); have n3_ := Aside0.mk (below_step (by repeat (first | (with_reducible first | exact HB.out | apply below_alloc | apply pw_below_drewN | apply below_drew1 | refine below_set ?_ GE299.out) | exact HB.out)) hb); clear HO305; clear HO308; clear BK299; clear HB; have HO305 := n0_; have HO308 := n1_; have BK299 := n2_; have HB := n3_; clear n0_ n1_ n2_ n3_; (try clear hb); (try clear hb2); (try clear hk); (try clear hi)))
      (try simp only [Act.put, List.setIfInBounds_toArray, List.set_cons_zero, List.set_cons_succ])
      go_cut [11] (fun v11 wc => ∃ (kq : Nat) (x11_12 : Bool), v11 = .bool x11_12 ∧ Aside0 (chargeparklaw21_FlowDuality.j0 kq a1 a2 l3 l4 x11_12 t302 t310 t311 a0_0 l0_1 = some r) ∧ Aside0 (kq ≤ k) ∧ Aside0 (wc.heap[gb299]? = some (.cells #[.int .i64 a0_0, (.slice A0_1 l0_1.length c0_1)] 24 (0, 0))) ∧ Aside0 (Below w.heap.size w wc))
      case first =>
        have H := HC13.out
        clear HC13
        by_cases c24 : t310 = true
        · subst c24
          have H1 : (if t300 = true then ((chargeparkref21_Amount.f k a0_0 l0_1 a1 l3).bind fun t312 => (chargeparklaw21_FlowDuality.j0 k a1 a2 l3 l4 (decide (t312 ≤ t302)) t302 true t311 a0_0 l0_1)) else (chargeparklaw21_FlowDuality.j0 k a1 a2 l3 l4 false t302 true t311 a0_0 l0_1)) = some r := by rw [if_pos rfl] at H; exact H
          clear H
          have H := H1
          clear H1
          by_cases c25 : t300 = true
          · subst c25
            have H1 : ((chargeparkref21_Amount.f k a0_0 l0_1 a1 l3).bind fun t312 => (chargeparklaw21_FlowDuality.j0 k a1 a2 l3 l4 (decide (t312 ≤ t302)) t302 true t311 a0_0 l0_1)) = some r := by rw [if_pos rfl] at H; exact H
            clear H
            have H := H1
            clear H1
            replace H := Option.bind_eq_some_iff.mp H
            obtain ⟨t312, A260, H⟩ := H
            replace H : (chargeparklaw21_FlowDuality.j0 k a1 a2 l3 l4 (decide (t312 ≤ t302)) t302 true t311 a0_0 l0_1) = some r := H
            have A26 := Aside0.mk A260
            clear A260
            have H' := Aside0.mk H
            clear H
            have hcz27_0 : w23.cell? ⟨gb299, 0, none⟩ = some (.int .i64 a0_0) := (blk_cell BK299.out 0).trans rfl
            have hcz27_1 : w23.cell? ⟨gb299, 1, none⟩ = some (.slice A0_1 l0_1.length c0_1) := (blk_cell BK299.out 1).trans rfl
            have hfz27_0 := blk_frozen BK299.out 0
            have hfz27_1 := blk_frozen BK299.out 1
            go_wp2_with (first | (go_at_call 21; (with_reducible refine (chargeparkref21_Amount.calls k a0_0 _ _ l0_1 a1 _ _ l3 t312 _ ?side1 ?side2 ?side3 ?side4 A26.out).mono ?_); (case side1 => repeat (first | exact (Kd.C_below HR0_1.out HB.out) | (with_reducible refine Kd.C_alloc ?_ _) | (with_reducible refine Kd.C_drewN ?_ _) | (with_reducible refine Kd.C_drew ?_))); (case side2 => exact HC0_1.out); (case side3 => repeat (first | exact (Kd.C_below HR3.out HB.out) | (with_reducible refine Kd.C_alloc ?_ _) | (with_reducible refine Kd.C_drewN ?_ _) | (with_reducible refine Kd.C_drew ?_))); (case side4 => exact HC3.out); rintro e w28 ⟨rfl, hb⟩; have n0_ := Aside0.mk (Kd.R_below (by (with_reducible repeat (first | apply Kd.R_alloc | apply Kd.R_drewN | apply Kd.R_drew)); exact HO305.out) hb); have n1_ := Aside0.mk (Kd.R_below (by (with_reducible repeat (first | apply Kd.R_alloc | apply Kd.R_drewN | apply Kd.R_drew)); exact HO308.out) hb); have n2_ := Aside0.mk (blk_below (g := gb299) (o := .cells #[.int .i64 a0_0, .slice A0_1 l0_1.length c0_1] 24 (0, 0)) (by (with_reducible repeat (first | refine blk_drewN ?_ _ | refine blk_drew ?_ | refine blk_alloc ?_ _)); exact BK299.out) hb); have n3_ := Aside0.mk (below_step (by repeat (first | (with_reducible first | exact HB.out | apply below_alloc | apply pw_below_drewN | apply below_drew1 | refine below_set ?_ GE299.out) | exact HB.out)) hb); clear HO305; clear HO308; clear BK299; clear HB; have HO305 := n0_; have HO308 := n1_; have BK299 := n2_; have HB := n3_; clear n0_ n1_ n2_ n3_; (try clear hb); (try clear hb2); (try clear hk); (try clear hi)))
            go_meet
            case rel => exact ⟨_, (decide (t312 ≤ t302)), (by first | rfl | (simp; done) | (simp [*]; done)), H', ⟨by first | omega | exact Nat.le_refl _⟩, ⟨by (with_reducible repeat (first | refine blk_drewN ?_ _ | refine blk_drew ?_ | refine blk_alloc ?_ _)); exact BK299.out⟩, ⟨by repeat (first | (with_reducible first | exact HB.out | apply below_alloc | apply pw_below_drewN | apply below_drew1 | refine below_set ?_ GE299.out) | exact HB.out)⟩⟩
          · replace c25 := Bool.eq_false_iff.mpr c25
            subst c25
            have H1 : (chargeparklaw21_FlowDuality.j0 k a1 a2 l3 l4 false t302 true t311 a0_0 l0_1) = some r := by rw [if_neg (show ¬ (false = true) by decide)] at H; exact H
            clear H
            have H := H1
            clear H1
            have H' := Aside0.mk H
            clear H
            go_wp2
            go_meet
            case rel => exact ⟨_, (false), (by first | rfl | (simp; done) | (simp [*]; done)), H', ⟨by first | omega | exact Nat.le_refl _⟩, ⟨by (with_reducible repeat (first | refine blk_drewN ?_ _ | refine blk_drew ?_ | refine blk_alloc ?_ _)); exact BK299.out⟩, ⟨by repeat (first | (with_reducible first | exact HB.out | apply below_alloc | apply pw_below_drewN | apply below_drew1 | refine below_set ?_ GE299.out) | exact HB.out)⟩⟩
        · replace c24 := Bool.eq_false_iff.mpr c24
          subst c24
          have H1 : (chargeparklaw21_FlowDuality.j0 k a1 a2 l3 l4 t300 t302 false t311 a0_0 l0_1) = some r := by rw [if_neg (show ¬ (false = true) by decide)] at H; exact H
          clear H
          have H := H1
          clear H1
          have H' := Aside0.mk H
          clear H
          go_wp2
          go_meet
          case rel => exact ⟨_, (t300), (by first | rfl | (simp; done) | (simp [*]; done)), H', ⟨by first | omega | exact Nat.le_refl _⟩, ⟨by (with_reducible repeat (first | refine blk_drewN ?_ _ | refine blk_drew ?_ | refine blk_alloc ?_ _)); exact BK299.out⟩, ⟨by repeat (first | (with_reducible first | exact HB.out | apply below_alloc | apply pw_below_drewN | apply below_drew1 | refine below_set ?_ GE299.out) | exact HB.out)⟩⟩
      case rest =>
        clear HC13
        try clear c1
        try clear c2
        try clear p2
        try clear c3
        try clear c4
        try clear c5
        try clear c8
        try clear c10
        try clear c12
        try clear c12b0
        try clear c12b1
        try clear c14
        try clear c18
        try clear c19
        try clear c20
        try clear c24
        try clear c25
        try clear hcz16_0
        try clear hcz16_1
        try clear hcz18_0
        try clear hcz18_1
        try clear hcz20_0
        try clear hcz20_1
        try clear hcz22_0
        try clear hcz22_1
        try clear hcz27_0
        try clear hcz27_1
        try clear hfz16_0
        try clear hfz16_1
        try clear hfz18_0
        try clear hfz18_1
        try clear hfz20_0
        try clear hfz20_1
        try clear hfz22_0
        try clear hfz22_1
        try clear hfz27_0
        try clear hfz27_1
        obtain ⟨kq, x11_12, rfl, HA, HJ12, BK299, HB⟩ := hcut
        cases kq with
        | zero => exact absurd HA.out (by simp [chargeparklaw21_FlowDuality.j0])
        | succ kj12 =>
          have H := HA.out
          clear HA
          simp only [chargeparklaw21_FlowDuality.j0] at H
          by_cases c29 : t311 = true
          · subst c29
            have H1 : (if x11_12 = true then ((chargeparkref21_Capacity.f kj12 a0_0 l0_1 l4).bind fun t313 => ((flow_Check.f kj12 a0_0 l0_1 a1 a2 l3 l4).bind fun t314 => (if t313 ≥ t302 then (if t314 = true then (if t310 = true then ((chargeparkref21_Amount.f kj12 a0_0 l0_1 a1 l3).bind fun t315 => (if t315 = t302 then ((chargeparkref21_Capacity.f kj12 a0_0 l0_1 l4).bind fun t316 => (some (t316 == t302))) else (some false))) else (some false)) else (some true)) else (some false)))) else ((flow_Check.f kj12 a0_0 l0_1 a1 a2 l3 l4).bind fun t317 => (some false))) = some r := by rw [if_pos rfl] at H; exact H
            clear H
            have H := H1
            clear H1
            by_cases c30 : x11_12 = true
            · subst c30
              have H1 : ((chargeparkref21_Capacity.f kj12 a0_0 l0_1 l4).bind fun t313 => ((flow_Check.f kj12 a0_0 l0_1 a1 a2 l3 l4).bind fun t314 => (if t313 ≥ t302 then (if t314 = true then (if t310 = true then ((chargeparkref21_Amount.f kj12 a0_0 l0_1 a1 l3).bind fun t315 => (if t315 = t302 then ((chargeparkref21_Capacity.f kj12 a0_0 l0_1 l4).bind fun t316 => (some (t316 == t302))) else (some false))) else (some false)) else (some true)) else (some false)))) = some r := by rw [if_pos rfl] at H; exact H
              clear H
              have H := H1
              clear H1
              replace H := Option.bind_eq_some_iff.mp H
              obtain ⟨t313, A310, H⟩ := H
              replace H : ((flow_Check.f kj12 a0_0 l0_1 a1 a2 l3 l4).bind fun t314 => (if t313 ≥ t302 then (if t314 = true then (if t310 = true then ((chargeparkref21_Amount.f kj12 a0_0 l0_1 a1 l3).bind fun t315 => (if t315 = t302 then ((chargeparkref21_Capacity.f kj12 a0_0 l0_1 l4).bind fun t316 => (some (t316 == t302))) else (some false))) else (some false)) else (some true)) else (some false))) = some r := H
              have A31 := Aside0.mk A310
              clear A310
              replace H := Option.bind_eq_some_iff.mp H
              obtain ⟨t314, A320, H⟩ := H
              replace H : (if t313 ≥ t302 then (if t314 = true then (if t310 = true then ((chargeparkref21_Amount.f kj12 a0_0 l0_1 a1 l3).bind fun t315 => (if t315 = t302 then ((chargeparkref21_Capacity.f kj12 a0_0 l0_1 l4).bind fun t316 => (some (t316 == t302))) else (some false))) else (some false)) else (some true)) else (some false)) = some r := H
              have A32 := Aside0.mk A320
              clear A320
              by_cases c33 : t313 ≥ t302
              · rw [if_pos c33] at H
                have c33b0 : decide (t302 ≤ t313) = true := decide_eq_true c33
                clear c33
                by_cases c34 : t314 = true
                · subst c34
                  have H1 : (if t310 = true then ((chargeparkref21_Amount.f kj12 a0_0 l0_1 a1 l3).bind fun t315 => (if t315 = t302 then ((chargeparkref21_Capacity.f kj12 a0_0 l0_1 l4).bind fun t316 => (some (t316 == t302))) else (some false))) else (some false)) = some r := by rw [if_pos rfl] at H; exact H
                  clear H
                  have H := H1
                  clear H1
                  by_cases c35 : t310 = true
                  · subst c35
                    have H1 : ((chargeparkref21_Amount.f kj12 a0_0 l0_1 a1 l3).bind fun t315 => (if t315 = t302 then ((chargeparkref21_Capacity.f kj12 a0_0 l0_1 l4).bind fun t316 => (some (t316 == t302))) else (some false))) = some r := by rw [if_pos rfl] at H; exact H
                    clear H
                    have H := H1
                    clear H1
                    replace H := Option.bind_eq_some_iff.mp H
                    obtain ⟨t315, A360, H⟩ := H
                    replace H : (if t315 = t302 then ((chargeparkref21_Capacity.f kj12 a0_0 l0_1 l4).bind fun t316 => (some (t316 == t302))) else (some false)) = some r := H
                    have A36 := Aside0.mk A360
                    clear A360
                    by_cases c37 : t315 = t302
                    · rw [if_pos c37] at H
                      have c37b0 : (t315 == t302) = true := beq_iff_eq.mpr c37
                      have c37b1 : (t315 != t302) = false := bne_eq_false_iff_eq.mpr c37
                      clear c37
                      replace H := Option.bind_eq_some_iff.mp H
                      obtain ⟨t316, A380, H⟩ := H
                      replace H : (some (t316 == t302)) = some r := H
                      have A38 := Aside0.mk A380
                      (try obtain rfl : t313 = t316 := Option.some.inj (A31.out.symm.trans A38.out))
                      clear A380
                      obtain rfl := Option.some.inj H
                      have hcz39_0 : wc.cell? ⟨gb299, 0, none⟩ = some (.int .i64 a0_0) := (blk_cell BK299.out 0).trans rfl
                      have hcz39_1 : wc.cell? ⟨gb299, 1, none⟩ = some (.slice A0_1 l0_1.length c0_1) := (blk_cell BK299.out 1).trans rfl
                      have hfz39_0 := blk_frozen BK299.out 0
                      have hfz39_1 := blk_frozen BK299.out 1
                      go_wp2_with (first | (go_at_call 22; (with_reducible refine (chargeparkref21_Capacity.calls kj12 a0_0 _ _ l0_1 _ _ l4 t313 _ ?side1 ?side2 ?side3 ?side4 A31.out).mono ?_); (case side1 => repeat (first | exact (Kd.C_below HR0_1.out HB.out) | (with_reducible refine Kd.C_alloc ?_ _) | (with_reducible refine Kd.C_drewN ?_ _) | (with_reducible refine Kd.C_drew ?_))); (case side2 => exact HC0_1.out); (case side3 => repeat (first | exact (Kd.C_below HR4.out HB.out) | (with_reducible refine Kd.C_alloc ?_ _) | (with_reducible refine Kd.C_drewN ?_ _) | (with_reducible refine Kd.C_drew ?_))); (case side4 => exact HC4.out); rintro e w40 ⟨rfl, hb⟩; have n0_ := Aside0.mk (blk_below (g := gb299) (o := .cells #[.int .i64 a0_0, .slice A0_1 l0_1.length c0_1] 24 (0, 0)) (by (with_reducible repeat (first | refine blk_drewN ?_ _ | refine blk_drew ?_ | refine blk_alloc ?_ _)); exact BK299.out) hb); have n1_ := Aside0.mk (below_step (by repeat (first | (with_reducible first | exact HB.out | apply below_alloc | apply pw_below_drewN | apply below_drew1 | refine below_set ?_ GE299.out) | exact HB.out)) hb); clear BK299; clear HB; have BK299 := n0_; have HB := n1_; clear n0_ n1_; (try clear hb); (try clear hb2); (try clear hk); (try clear hi); have hcz41_0 : w40.cell? ⟨gb299, 0, none⟩ = some (.int .i64 a0_0) := (blk_cell BK299.out 0).trans rfl; have hcz41_1 : w40.cell? ⟨gb299, 1, none⟩ = some (.slice A0_1 l0_1.length c0_1) := (blk_cell BK299.out 1).trans rfl; have hfz41_0 := blk_frozen BK299.out 0; have hfz41_1 := blk_frozen BK299.out 1) | ((with_reducible refine gate_callee (f := 17) rfl ?_); refine goesL_ (some 73) rfl rfl Try.func17 (by kernel_rfl) rfl #[.agg #[.int .i64 a0_0, .slice A0_1 l0_1.length c0_1], .int .i64 a1, .int .i64 a2, .slice A3 l3.length c3, .slice A4 l4.length c4] rfl (by (try simp only [List.map_toArray, List.map_cons, List.map_nil]); first | done | rfl | (simp only [List.length_drop, List.length_take]; rfl)) ?_; (with_reducible refine (flow_Check.calls kj12 a0_0 _ _ l0_1 a1 a2 _ _ l3 _ _ l4 true _ ?side1 ?side2 ?side3 ?side4 ?side5 ?side6 A32.out).mono ?_); (case side1 => repeat (first | exact (Kd.C_below HR0_1.out HB.out) | (with_reducible refine Kd.C_alloc ?_ _) | (with_reducible refine Kd.C_drewN ?_ _) | (with_reducible refine Kd.C_drew ?_))); (case side2 => exact HC0_1.out); (case side3 => repeat (first | exact (Kd.C_below HR3.out HB.out) | (with_reducible refine Kd.C_alloc ?_ _) | (with_reducible refine Kd.C_drewN ?_ _) | (with_reducible refine Kd.C_drew ?_))); (case side4 => exact HC3.out); (case side5 => repeat (first | exact (Kd.C_below HR4.out HB.out) | (with_reducible refine Kd.C_alloc ?_ _) | (with_reducible refine Kd.C_drewN ?_ _) | (with_reducible refine Kd.C_drew ?_))); (case side6 => exact HC4.out); rintro e w42 ⟨rfl, hb⟩; refine ⟨_, rfl, ?_⟩; have n0_ := Aside0.mk (blk_below (g := gb299) (o := .cells #[.int .i64 a0_0, .slice A0_1 l0_1.length c0_1] 24 (0, 0)) (by (with_reducible repeat (first | refine blk_drewN ?_ _ | refine blk_drew ?_ | refine blk_alloc ?_ _)); exact BK299.out) hb); have n1_ := Aside0.mk (below_step (by repeat (first | (with_reducible first | exact HB.out | apply below_alloc | apply pw_below_drewN | apply below_drew1 | refine below_set ?_ GE299.out) | exact HB.out)) hb); clear BK299; clear HB; have BK299 := n0_; have HB := n1_; clear n0_ n1_; (try clear hb); (try clear hb2); (try clear hk); (try clear hi); have hcz43_0 : w42.cell? ⟨gb299, 0, none⟩ = some (.int .i64 a0_0) := (blk_cell BK299.out 0).trans rfl; have hcz43_1 : w42.cell? ⟨gb299, 1, none⟩ = some (.slice A0_1 l0_1.length c0_1) := (blk_cell BK299.out 1).trans rfl; have hfz43_0 := blk_frozen BK299.out 0; have hfz43_1 := blk_frozen BK299.out 1) | (go_at_call 21; (with_reducible refine (chargeparkref21_Amount.calls kj12 a0_0 _ _ l0_1 a1 _ _ l3 t315 _ ?side1 ?side2 ?side3 ?side4 A36.out).mono ?_); (case side1 => repeat (first | exact (Kd.C_below HR0_1.out HB.out) | (with_reducible refine Kd.C_alloc ?_ _) | (with_reducible refine Kd.C_drewN ?_ _) | (with_reducible refine Kd.C_drew ?_))); (case side2 => exact HC0_1.out); (case side3 => repeat (first | exact (Kd.C_below HR3.out HB.out) | (with_reducible refine Kd.C_alloc ?_ _) | (with_reducible refine Kd.C_drewN ?_ _) | (with_reducible refine Kd.C_drew ?_))); (case side4 => exact HC3.out); rintro e w44 ⟨rfl, hb⟩; have n0_ := Aside0.mk (blk_below (g := gb299) (o := .cells #[.int .i64 a0_0, .slice A0_1 l0_1.length c0_1] 24 (0, 0)) (by (with_reducible repeat (first | refine blk_drewN ?_ _ | refine blk_drew ?_ | refine blk_alloc ?_ _)); exact BK299.out) hb); have n1_ := Aside0.mk (below_step (by repeat (first | (with_reducible first | exact HB.out | apply below_alloc | apply pw_below_drewN | apply below_drew1 | refine below_set ?_ GE299.out) | exact HB.out)) hb); clear BK299; clear HB; have BK299 := n0_; have HB := n1_; clear n0_ n1_; (try clear hb); (try clear hb2); (try clear hk); (try clear hi); have hcz45_0 : w44.cell? ⟨gb299, 0, none⟩ = some (.int .i64 a0_0) := (blk_cell BK299.out 0).trans rfl; have hcz45_1 : w44.cell? ⟨gb299, 1, none⟩ = some (.slice A0_1 l0_1.length c0_1) := (blk_cell BK299.out 1).trans rfl; have hfz45_0 := blk_frozen BK299.out 0; have hfz45_1 := blk_frozen BK299.out 1) | (go_at_call 22; (with_reducible refine (chargeparkref21_Capacity.calls kj12 a0_0 _ _ l0_1 _ _ l4 t316 _ ?side1 ?side2 ?side3 ?side4 A38.out).mono ?_); (case side1 => repeat (first | exact (Kd.C_below HR0_1.out HB.out) | (with_reducible refine Kd.C_alloc ?_ _) | (with_reducible refine Kd.C_drewN ?_ _) | (with_reducible refine Kd.C_drew ?_))); (case side2 => exact HC0_1.out); (case side3 => repeat (first | exact (Kd.C_below HR4.out HB.out) | (with_reducible refine Kd.C_alloc ?_ _) | (with_reducible refine Kd.C_drewN ?_ _) | (with_reducible refine Kd.C_drew ?_))); (case side4 => exact HC4.out); rintro e w46 ⟨rfl, hb⟩; have n0_ := Aside0.mk (blk_below (g := gb299) (o := .cells #[.int .i64 a0_0, .slice A0_1 l0_1.length c0_1] 24 (0, 0)) (by (with_reducible repeat (first | refine blk_drewN ?_ _ | refine blk_drew ?_ | refine blk_alloc ?_ _)); exact BK299.out) hb); have n1_ := Aside0.mk (below_step (by repeat (first | (with_reducible first | exact HB.out | apply below_alloc | apply pw_below_drewN | apply below_drew1 | refine below_set ?_ GE299.out) | exact HB.out)) hb); clear BK299; clear HB; have BK299 := n0_; have HB := n1_; clear n0_ n1_; (try clear hb); (try clear hb2); (try clear hk); (try clear hi)))
                      go_ret
                      exact ⟨by first | rfl | (simp [errW_none, errW_some] <;> rfl) | (simp [*, errW_none, errW_some] <;> rfl), by repeat (first | (with_reducible first | exact HB.out | apply below_alloc | apply pw_below_drewN | apply below_drew1 | refine below_set ?_ GE299.out) | exact HB.out)⟩
                    · rw [if_neg c37] at H
                      have c37b0 : (t315 == t302) = false := beq_eq_false_iff_ne.mpr c37
                      have c37b1 : (t315 != t302) = true := bne_iff_ne.mpr c37
                      obtain rfl := Option.some.inj H
                      have hcz47_0 : wc.cell? ⟨gb299, 0, none⟩ = some (.int .i64 a0_0) := (blk_cell BK299.out 0).trans rfl
                      have hcz47_1 : wc.cell? ⟨gb299, 1, none⟩ = some (.slice A0_1 l0_1.length c0_1) := (blk_cell BK299.out 1).trans rfl
                      have hfz47_0 := blk_frozen BK299.out 0
                      have hfz47_1 := blk_frozen BK299.out 1
                      go_wp2_with (first | (go_at_call 22; (with_reducible refine (chargeparkref21_Capacity.calls kj12 a0_0 _ _ l0_1 _ _ l4 t313 _ ?side1 ?side2 ?side3 ?side4 A31.out).mono ?_); (case side1 => repeat (first | exact (Kd.C_below HR0_1.out HB.out) | (with_reducible refine Kd.C_alloc ?_ _) | (with_reducible refine Kd.C_drewN ?_ _) | (with_reducible refine Kd.C_drew ?_))); (case side2 => exact HC0_1.out); (case side3 => repeat (first | exact (Kd.C_below HR4.out HB.out) | (with_reducible refine Kd.C_alloc ?_ _) | (with_reducible refine Kd.C_drewN ?_ _) | (with_reducible refine Kd.C_drew ?_))); (case side4 => exact HC4.out); rintro e w48 ⟨rfl, hb⟩; have n0_ := Aside0.mk (blk_below (g := gb299) (o := .cells #[.int .i64 a0_0, .slice A0_1 l0_1.length c0_1] 24 (0, 0)) (by (with_reducible repeat (first | refine blk_drewN ?_ _ | refine blk_drew ?_ | refine blk_alloc ?_ _)); exact BK299.out) hb); have n1_ := Aside0.mk (below_step (by repeat (first | (with_reducible first | exact HB.out | apply below_alloc | apply pw_below_drewN | apply below_drew1 | refine below_set ?_ GE299.out) | exact HB.out)) hb); clear BK299; clear HB; have BK299 := n0_; have HB := n1_; clear n0_ n1_; (try clear hb); (try clear hb2); (try clear hk); (try clear hi); have hcz49_0 : w48.cell? ⟨gb299, 0, none⟩ = some (.int .i64 a0_0) := (blk_cell BK299.out 0).trans rfl; have hcz49_1 : w48.cell? ⟨gb299, 1, none⟩ = some (.slice A0_1 l0_1.length c0_1) := (blk_cell BK299.out 1).trans rfl; have hfz49_0 := blk_frozen BK299.out 0; have hfz49_1 := blk_frozen BK299.out 1) | ((with_reducible refine gate_callee (f := 17) rfl ?_); refine goesL_ (some 73) rfl rfl Try.func17 (by kernel_rfl) rfl #[.agg #[.int .i64 a0_0, .slice A0_1 l0_1.length c0_1], .int .i64 a1, .int .i64 a2, .slice A3 l3.length c3, .slice A4 l4.length c4] rfl (by (try simp only [List.map_toArray, List.map_cons, List.map_nil]); first | done | rfl | (simp only [List.length_drop, List.length_take]; rfl)) ?_; (with_reducible refine (flow_Check.calls kj12 a0_0 _ _ l0_1 a1 a2 _ _ l3 _ _ l4 true _ ?side1 ?side2 ?side3 ?side4 ?side5 ?side6 A32.out).mono ?_); (case side1 => repeat (first | exact (Kd.C_below HR0_1.out HB.out) | (with_reducible refine Kd.C_alloc ?_ _) | (with_reducible refine Kd.C_drewN ?_ _) | (with_reducible refine Kd.C_drew ?_))); (case side2 => exact HC0_1.out); (case side3 => repeat (first | exact (Kd.C_below HR3.out HB.out) | (with_reducible refine Kd.C_alloc ?_ _) | (with_reducible refine Kd.C_drewN ?_ _) | (with_reducible refine Kd.C_drew ?_))); (case side4 => exact HC3.out); (case side5 => repeat (first | exact (Kd.C_below HR4.out HB.out) | (with_reducible refine Kd.C_alloc ?_ _) | (with_reducible refine Kd.C_drewN ?_ _) | (with_reducible refine Kd.C_drew ?_))); (case side6 => exact HC4.out); rintro e w50 ⟨rfl, hb⟩; refine ⟨_, rfl, ?_⟩; have n0_ := Aside0.mk (blk_below (g := gb299) (o := .cells #[.int .i64 a0_0, .slice A0_1 l0_1.length c0_1] 24 (0, 0)) (by (with_reducible repeat (first | refine blk_drewN ?_ _ | refine blk_drew ?_ | refine blk_alloc ?_ _)); exact BK299.out) hb); have n1_ := Aside0.mk (below_step (by repeat (first | (with_reducible first | exact HB.out | apply below_alloc | apply pw_below_drewN | apply below_drew1 | refine below_set ?_ GE299.out) | exact HB.out)) hb); clear BK299; clear HB; have BK299 := n0_; have HB := n1_; clear n0_ n1_; (try clear hb); (try clear hb2); (try clear hk); (try clear hi); have hcz51_0 : w50.cell? ⟨gb299, 0, none⟩ = some (.int .i64 a0_0) := (blk_cell BK299.out 0).trans rfl; have hcz51_1 : w50.cell? ⟨gb299, 1, none⟩ = some (.slice A0_1 l0_1.length c0_1) := (blk_cell BK299.out 1).trans rfl; have hfz51_0 := blk_frozen BK299.out 0; have hfz51_1 := blk_frozen BK299.out 1) | (go_at_call 21; (with_reducible refine (chargeparkref21_Amount.calls kj12 a0_0 _ _ l0_1 a1 _ _ l3 t315 _ ?side1 ?side2 ?side3 ?side4 A36.out).mono ?_); (case side1 => repeat (first | exact (Kd.C_below HR0_1.out HB.out) | (with_reducible refine Kd.C_alloc ?_ _) | (with_reducible refine Kd.C_drewN ?_ _) | (with_reducible refine Kd.C_drew ?_))); (case side2 => exact HC0_1.out); (case side3 => repeat (first | exact (Kd.C_below HR3.out HB.out) | (with_reducible refine Kd.C_alloc ?_ _) | (with_reducible refine Kd.C_drewN ?_ _) | (with_reducible refine Kd.C_drew ?_))); (case side4 => exact HC3.out); rintro e w52 ⟨rfl, hb⟩; have n0_ := Aside0.mk (blk_below (g := gb299) (o := .cells #[.int .i64 a0_0, .slice A0_1 l0_1.length c0_1] 24 (0, 0)) (by (with_reducible repeat (first | refine blk_drewN ?_ _ | refine blk_drew ?_ | refine blk_alloc ?_ _)); exact BK299.out) hb); have n1_ := Aside0.mk (below_step (by repeat (first | (with_reducible first | exact HB.out | apply below_alloc | apply pw_below_drewN | apply below_drew1 | refine below_set ?_ GE299.out) | exact HB.out)) hb); clear BK299; clear HB; have BK299 := n0_; have HB := n1_; clear n0_ n1_; (try clear hb); (try clear hb2); (try clear hk); (try clear hi)))
                      go_ret
                      exact ⟨by first | rfl | (simp [errW_none, errW_some] <;> rfl) | (simp [*, errW_none, errW_some] <;> rfl), by repeat (first | (with_reducible first | exact HB.out | apply below_alloc | apply pw_below_drewN | apply below_drew1 | refine below_set ?_ GE299.out) | exact HB.out)⟩
                  · replace c35 := Bool.eq_false_iff.mpr c35
                    subst c35
                    have H1 : (some false) = some r := by rw [if_neg (show ¬ (false = true) by decide)] at H; exact H
                    clear H
                    have H := H1
                    clear H1
                    obtain rfl := Option.some.inj H
                    have hcz53_0 : wc.cell? ⟨gb299, 0, none⟩ = some (.int .i64 a0_0) := (blk_cell BK299.out 0).trans rfl
                    have hcz53_1 : wc.cell? ⟨gb299, 1, none⟩ = some (.slice A0_1 l0_1.length c0_1) := (blk_cell BK299.out 1).trans rfl
                    have hfz53_0 := blk_frozen BK299.out 0
                    have hfz53_1 := blk_frozen BK299.out 1
                    go_wp2_with (first | (go_at_call 22; (with_reducible refine (chargeparkref21_Capacity.calls kj12 a0_0 _ _ l0_1 _ _ l4 t313 _ ?side1 ?side2 ?side3 ?side4 A31.out).mono ?_); (case side1 => repeat (first | exact (Kd.C_below HR0_1.out HB.out) | (with_reducible refine Kd.C_alloc ?_ _) | (with_reducible refine Kd.C_drewN ?_ _) | (with_reducible refine Kd.C_drew ?_))); (case side2 => exact HC0_1.out); (case side3 => repeat (first | exact (Kd.C_below HR4.out HB.out) | (with_reducible refine Kd.C_alloc ?_ _) | (with_reducible refine Kd.C_drewN ?_ _) | (with_reducible refine Kd.C_drew ?_))); (case side4 => exact HC4.out); rintro e w54 ⟨rfl, hb⟩; have n0_ := Aside0.mk (blk_below (g := gb299) (o := .cells #[.int .i64 a0_0, .slice A0_1 l0_1.length c0_1] 24 (0, 0)) (by (with_reducible repeat (first | refine blk_drewN ?_ _ | refine blk_drew ?_ | refine blk_alloc ?_ _)); exact BK299.out) hb); have n1_ := Aside0.mk (below_step (by repeat (first | (with_reducible first | exact HB.out | apply below_alloc | apply pw_below_drewN | apply below_drew1 | refine below_set ?_ GE299.out) | exact HB.out)) hb); clear BK299; clear HB; have BK299 := n0_; have HB := n1_; clear n0_ n1_; (try clear hb); (try clear hb2); (try clear hk); (try clear hi); have hcz55_0 : w54.cell? ⟨gb299, 0, none⟩ = some (.int .i64 a0_0) := (blk_cell BK299.out 0).trans rfl; have hcz55_1 : w54.cell? ⟨gb299, 1, none⟩ = some (.slice A0_1 l0_1.length c0_1) := (blk_cell BK299.out 1).trans rfl; have hfz55_0 := blk_frozen BK299.out 0; have hfz55_1 := blk_frozen BK299.out 1) | ((with_reducible refine gate_callee (f := 17) rfl ?_); refine goesL_ (some 73) rfl rfl Try.func17 (by kernel_rfl) rfl #[.agg #[.int .i64 a0_0, .slice A0_1 l0_1.length c0_1], .int .i64 a1, .int .i64 a2, .slice A3 l3.length c3, .slice A4 l4.length c4] rfl (by (try simp only [List.map_toArray, List.map_cons, List.map_nil]); first | done | rfl | (simp only [List.length_drop, List.length_take]; rfl)) ?_; (with_reducible refine (flow_Check.calls kj12 a0_0 _ _ l0_1 a1 a2 _ _ l3 _ _ l4 true _ ?side1 ?side2 ?side3 ?side4 ?side5 ?side6 A32.out).mono ?_); (case side1 => repeat (first | exact (Kd.C_below HR0_1.out HB.out) | (with_reducible refine Kd.C_alloc ?_ _) | (with_reducible refine Kd.C_drewN ?_ _) | (with_reducible refine Kd.C_drew ?_))); (case side2 => exact HC0_1.out); (case side3 => repeat (first | exact (Kd.C_below HR3.out HB.out) | (with_reducible refine Kd.C_alloc ?_ _) | (with_reducible refine Kd.C_drewN ?_ _) | (with_reducible refine Kd.C_drew ?_))); (case side4 => exact HC3.out); (case side5 => repeat (first | exact (Kd.C_below HR4.out HB.out) | (with_reducible refine Kd.C_alloc ?_ _) | (with_reducible refine Kd.C_drewN ?_ _) | (with_reducible refine Kd.C_drew ?_))); (case side6 => exact HC4.out); rintro e w56 ⟨rfl, hb⟩; refine ⟨_, rfl, ?_⟩; have n0_ := Aside0.mk (blk_below (g := gb299) (o := .cells #[.int .i64 a0_0, .slice A0_1 l0_1.length c0_1] 24 (0, 0)) (by (with_reducible repeat (first | refine blk_drewN ?_ _ | refine blk_drew ?_ | refine blk_alloc ?_ _)); exact BK299.out) hb); have n1_ := Aside0.mk (below_step (by repeat (first | (with_reducible first | exact HB.out | apply below_alloc | apply pw_below_drewN | apply below_drew1 | refine below_set ?_ GE299.out) | exact HB.out)) hb); clear BK299; clear HB; have BK299 := n0_; have HB := n1_; clear n0_ n1_; (try clear hb); (try clear hb2); (try clear hk); (try clear hi)))
                    go_ret
                    exact ⟨by first | rfl | (simp [errW_none, errW_some] <;> rfl) | (simp [*, errW_none, errW_some] <;> rfl), by repeat (first | (with_reducible first | exact HB.out | apply below_alloc | apply pw_below_drewN | apply below_drew1 | refine below_set ?_ GE299.out) | exact HB.out)⟩
                · replace c34 := Bool.eq_false_iff.mpr c34
                  subst c34
                  have H1 : (some true) = some r := by rw [if_neg (show ¬ (false = true) by decide)] at H; exact H
                  clear H
                  have H := H1
                  clear H1
                  obtain rfl := Option.some.inj H
                  have hcz57_0 : wc.cell? ⟨gb299, 0, none⟩ = some (.int .i64 a0_0) := (blk_cell BK299.out 0).trans rfl
                  have hcz57_1 : wc.cell? ⟨gb299, 1, none⟩ = some (.slice A0_1 l0_1.length c0_1) := (blk_cell BK299.out 1).trans rfl
                  have hfz57_0 := blk_frozen BK299.out 0
                  have hfz57_1 := blk_frozen BK299.out 1
                  go_wp2_with (first | (go_at_call 22; (with_reducible refine (chargeparkref21_Capacity.calls kj12 a0_0 _ _ l0_1 _ _ l4 t313 _ ?side1 ?side2 ?side3 ?side4 A31.out).mono ?_); (case side1 => repeat (first | exact (Kd.C_below HR0_1.out HB.out) | (with_reducible refine Kd.C_alloc ?_ _) | (with_reducible refine Kd.C_drewN ?_ _) | (with_reducible refine Kd.C_drew ?_))); (case side2 => exact HC0_1.out); (case side3 => repeat (first | exact (Kd.C_below HR4.out HB.out) | (with_reducible refine Kd.C_alloc ?_ _) | (with_reducible refine Kd.C_drewN ?_ _) | (with_reducible refine Kd.C_drew ?_))); (case side4 => exact HC4.out); rintro e w58 ⟨rfl, hb⟩; have n0_ := Aside0.mk (blk_below (g := gb299) (o := .cells #[.int .i64 a0_0, .slice A0_1 l0_1.length c0_1] 24 (0, 0)) (by (with_reducible repeat (first | refine blk_drewN ?_ _ | refine blk_drew ?_ | refine blk_alloc ?_ _)); exact BK299.out) hb); have n1_ := Aside0.mk (below_step (by repeat (first | (with_reducible first | exact HB.out | apply below_alloc | apply pw_below_drewN | apply below_drew1 | refine below_set ?_ GE299.out) | exact HB.out)) hb); clear BK299; clear HB; have BK299 := n0_; have HB := n1_; clear n0_ n1_; (try clear hb); (try clear hb2); (try clear hk); (try clear hi); have hcz59_0 : w58.cell? ⟨gb299, 0, none⟩ = some (.int .i64 a0_0) := (blk_cell BK299.out 0).trans rfl; have hcz59_1 : w58.cell? ⟨gb299, 1, none⟩ = some (.slice A0_1 l0_1.length c0_1) := (blk_cell BK299.out 1).trans rfl; have hfz59_0 := blk_frozen BK299.out 0; have hfz59_1 := blk_frozen BK299.out 1) | ((with_reducible refine gate_callee (f := 17) rfl ?_); refine goesL_ (some 73) rfl rfl Try.func17 (by kernel_rfl) rfl #[.agg #[.int .i64 a0_0, .slice A0_1 l0_1.length c0_1], .int .i64 a1, .int .i64 a2, .slice A3 l3.length c3, .slice A4 l4.length c4] rfl (by (try simp only [List.map_toArray, List.map_cons, List.map_nil]); first | done | rfl | (simp only [List.length_drop, List.length_take]; rfl)) ?_; (with_reducible refine (flow_Check.calls kj12 a0_0 _ _ l0_1 a1 a2 _ _ l3 _ _ l4 false _ ?side1 ?side2 ?side3 ?side4 ?side5 ?side6 A32.out).mono ?_); (case side1 => repeat (first | exact (Kd.C_below HR0_1.out HB.out) | (with_reducible refine Kd.C_alloc ?_ _) | (with_reducible refine Kd.C_drewN ?_ _) | (with_reducible refine Kd.C_drew ?_))); (case side2 => exact HC0_1.out); (case side3 => repeat (first | exact (Kd.C_below HR3.out HB.out) | (with_reducible refine Kd.C_alloc ?_ _) | (with_reducible refine Kd.C_drewN ?_ _) | (with_reducible refine Kd.C_drew ?_))); (case side4 => exact HC3.out); (case side5 => repeat (first | exact (Kd.C_below HR4.out HB.out) | (with_reducible refine Kd.C_alloc ?_ _) | (with_reducible refine Kd.C_drewN ?_ _) | (with_reducible refine Kd.C_drew ?_))); (case side6 => exact HC4.out); rintro e w60 ⟨rfl, hb⟩; refine ⟨_, rfl, ?_⟩; have n0_ := Aside0.mk (blk_below (g := gb299) (o := .cells #[.int .i64 a0_0, .slice A0_1 l0_1.length c0_1] 24 (0, 0)) (by (with_reducible repeat (first | refine blk_drewN ?_ _ | refine blk_drew ?_ | refine blk_alloc ?_ _)); exact BK299.out) hb); have n1_ := Aside0.mk (below_step (by repeat (first | (with_reducible first | exact HB.out | apply below_alloc | apply pw_below_drewN | apply below_drew1 | refine below_set ?_ GE299.out) | exact HB.out)) hb); clear BK299; clear HB; have BK299 := n0_; have HB := n1_; clear n0_ n1_; (try clear hb); (try clear hb2); (try clear hk); (try clear hi)))
                  go_ret
                  exact ⟨by first | rfl | (simp [errW_none, errW_some] <;> rfl) | (simp [*, errW_none, errW_some] <;> rfl), by repeat (first | (with_reducible first | exact HB.out | apply below_alloc | apply pw_below_drewN | apply below_drew1 | refine below_set ?_ GE299.out) | exact HB.out)⟩
              · rw [if_neg c33] at H
                have c33b0 : decide (t302 ≤ t313) = false := decide_eq_false c33
                clear c33
                obtain rfl := Option.some.inj H
                have hcz61_0 : wc.cell? ⟨gb299, 0, none⟩ = some (.int .i64 a0_0) := (blk_cell BK299.out 0).trans rfl
                have hcz61_1 : wc.cell? ⟨gb299, 1, none⟩ = some (.slice A0_1 l0_1.length c0_1) := (blk_cell BK299.out 1).trans rfl
                have hfz61_0 := blk_frozen BK299.out 0
                have hfz61_1 := blk_frozen BK299.out 1
                go_wp2_with (first | (go_at_call 22; (with_reducible refine (chargeparkref21_Capacity.calls kj12 a0_0 _ _ l0_1 _ _ l4 t313 _ ?side1 ?side2 ?side3 ?side4 A31.out).mono ?_); (case side1 => repeat (first | exact (Kd.C_below HR0_1.out HB.out) | (with_reducible refine Kd.C_alloc ?_ _) | (with_reducible refine Kd.C_drewN ?_ _) | (with_reducible refine Kd.C_drew ?_))); (case side2 => exact HC0_1.out); (case side3 => repeat (first | exact (Kd.C_below HR4.out HB.out) | (with_reducible refine Kd.C_alloc ?_ _) | (with_reducible refine Kd.C_drewN ?_ _) | (with_reducible refine Kd.C_drew ?_))); (case side4 => exact HC4.out); rintro e w62 ⟨rfl, hb⟩; have n0_ := Aside0.mk (blk_below (g := gb299) (o := .cells #[.int .i64 a0_0, .slice A0_1 l0_1.length c0_1] 24 (0, 0)) (by (with_reducible repeat (first | refine blk_drewN ?_ _ | refine blk_drew ?_ | refine blk_alloc ?_ _)); exact BK299.out) hb); have n1_ := Aside0.mk (below_step (by repeat (first | (with_reducible first | exact HB.out | apply below_alloc | apply pw_below_drewN | apply below_drew1 | refine below_set ?_ GE299.out) | exact HB.out)) hb); clear BK299; clear HB; have BK299 := n0_; have HB := n1_; clear n0_ n1_; (try clear hb); (try clear hb2); (try clear hk); (try clear hi); have hcz63_0 : w62.cell? ⟨gb299, 0, none⟩ = some (.int .i64 a0_0) := (blk_cell BK299.out 0).trans rfl; have hcz63_1 : w62.cell? ⟨gb299, 1, none⟩ = some (.slice A0_1 l0_1.length c0_1) := (blk_cell BK299.out 1).trans rfl; have hfz63_0 := blk_frozen BK299.out 0; have hfz63_1 := blk_frozen BK299.out 1) | ((with_reducible refine gate_callee (f := 17) rfl ?_); refine goesL_ (some 73) rfl rfl Try.func17 (by kernel_rfl) rfl #[.agg #[.int .i64 a0_0, .slice A0_1 l0_1.length c0_1], .int .i64 a1, .int .i64 a2, .slice A3 l3.length c3, .slice A4 l4.length c4] rfl (by (try simp only [List.map_toArray, List.map_cons, List.map_nil]); first | done | rfl | (simp only [List.length_drop, List.length_take]; rfl)) ?_; (with_reducible refine (flow_Check.calls kj12 a0_0 _ _ l0_1 a1 a2 _ _ l3 _ _ l4 t314 _ ?side1 ?side2 ?side3 ?side4 ?side5 ?side6 A32.out).mono ?_); (case side1 => repeat (first | exact (Kd.C_below HR0_1.out HB.out) | (with_reducible refine Kd.C_alloc ?_ _) | (with_reducible refine Kd.C_drewN ?_ _) | (with_reducible refine Kd.C_drew ?_))); (case side2 => exact HC0_1.out); (case side3 => repeat (first | exact (Kd.C_below HR3.out HB.out) | (with_reducible refine Kd.C_alloc ?_ _) | (with_reducible refine Kd.C_drewN ?_ _) | (with_reducible refine Kd.C_drew ?_))); (case side4 => exact HC3.out); (case side5 => repeat (first | exact (Kd.C_below HR4.out HB.out) | (with_reducible refine Kd.C_alloc ?_ _) | (with_reducible refine Kd.C_drewN ?_ _) | (with_reducible refine Kd.C_drew ?_))); (case side6 => exact HC4.out); rintro e w64 ⟨rfl, hb⟩; refine ⟨_, rfl, ?_⟩; have n0_ := Aside0.mk (blk_below (g := gb299) (o := .cells #[.int .i64 a0_0, .slice A0_1 l0_1.length c0_1] 24 (0, 0)) (by (with_reducible repeat (first | refine blk_drewN ?_ _ | refine blk_drew ?_ | refine blk_alloc ?_ _)); exact BK299.out) hb); have n1_ := Aside0.mk (below_step (by repeat (first | (with_reducible first | exact HB.out | apply below_alloc | apply pw_below_drewN | apply below_drew1 | refine below_set ?_ GE299.out) | exact HB.out)) hb); clear BK299; clear HB; have BK299 := n0_; have HB := n1_; clear n0_ n1_; (try clear hb); (try clear hb2); (try clear hk); (try clear hi)))
                go_ret
                exact ⟨by first | rfl | (simp [errW_none, errW_some] <;> rfl) | (simp [*, errW_none, errW_some] <;> rfl), by repeat (first | (with_reducible first | exact HB.out | apply below_alloc | apply pw_below_drewN | apply below_drew1 | refine below_set ?_ GE299.out) | exact HB.out)⟩
            · replace c30 := Bool.eq_false_iff.mpr c30
              subst c30
              have H1 : ((flow_Check.f kj12 a0_0 l0_1 a1 a2 l3 l4).bind fun t317 => (some false)) = some r := by rw [if_neg (show ¬ (false = true) by decide)] at H; exact H
              clear H
              have H := H1
              clear H1
              replace H := Option.bind_eq_some_iff.mp H
              obtain ⟨t317, A650, H⟩ := H
              replace H : (some false) = some r := H
              have A65 := Aside0.mk A650
              clear A650
              obtain rfl := Option.some.inj H
              have hcz66_0 : wc.cell? ⟨gb299, 0, none⟩ = some (.int .i64 a0_0) := (blk_cell BK299.out 0).trans rfl
              have hcz66_1 : wc.cell? ⟨gb299, 1, none⟩ = some (.slice A0_1 l0_1.length c0_1) := (blk_cell BK299.out 1).trans rfl
              have hfz66_0 := blk_frozen BK299.out 0
              have hfz66_1 := blk_frozen BK299.out 1
              go_wp2_with (first | ((with_reducible refine gate_callee (f := 17) rfl ?_); refine goesL_ (some 73) rfl rfl Try.func17 (by kernel_rfl) rfl #[.agg #[.int .i64 a0_0, .slice A0_1 l0_1.length c0_1], .int .i64 a1, .int .i64 a2, .slice A3 l3.length c3, .slice A4 l4.length c4] rfl (by (try simp only [List.map_toArray, List.map_cons, List.map_nil]); first | done | rfl | (simp only [List.length_drop, List.length_take]; rfl)) ?_; (with_reducible refine (flow_Check.calls kj12 a0_0 _ _ l0_1 a1 a2 _ _ l3 _ _ l4 t317 _ ?side1 ?side2 ?side3 ?side4 ?side5 ?side6 A65.out).mono ?_); (case side1 => repeat (first | exact (Kd.C_below HR0_1.out HB.out) | (with_reducible refine Kd.C_alloc ?_ _) | (with_reducible refine Kd.C_drewN ?_ _) | (with_reducible refine Kd.C_drew ?_))); (case side2 => exact HC0_1.out); (case side3 => repeat (first | exact (Kd.C_below HR3.out HB.out) | (with_reducible refine Kd.C_alloc ?_ _) | (with_reducible refine Kd.C_drewN ?_ _) | (with_reducible refine Kd.C_drew ?_))); (case side4 => exact HC3.out); (case side5 => repeat (first | exact (Kd.C_below HR4.out HB.out) | (with_reducible refine Kd.C_alloc ?_ _) | (with_reducible refine Kd.C_drewN ?_ _) | (with_reducible refine Kd.C_drew ?_))); (case side6 => exact HC4.out); rintro e w67 ⟨rfl, hb⟩; refine ⟨_, rfl, ?_⟩; have n0_ := Aside0.mk (blk_below (g := gb299) (o := .cells #[.int .i64 a0_0, .slice A0_1 l0_1.length c0_1] 24 (0, 0)) (by (with_reducible repeat (first | refine blk_drewN ?_ _ | refine blk_drew ?_ | refine blk_alloc ?_ _)); exact BK299.out) hb); have n1_ := Aside0.mk (below_step (by repeat (first | (with_reducible first | exact HB.out | apply below_alloc | apply pw_below_drewN | apply below_drew1 | refine below_set ?_ GE299.out) | exact HB.out)) hb); clear BK299; clear HB; have BK299 := n0_; have HB := n1_; clear n0_ n1_; (try clear hb); (try clear hb2); (try clear hk); (try clear hi)))
              go_ret
              exact ⟨by first | rfl | (simp [errW_none, errW_some] <;> rfl) | (simp [*, errW_none, errW_some] <;> rfl), by repeat (first | (with_reducible first | exact HB.out | apply below_alloc | apply pw_below_drewN | apply below_drew1 | refine below_set ?_ GE299.out) | exact HB.out)⟩
          · replace c29 := Bool.eq_false_iff.mpr c29
            subst c29
            have H1 : ((flow_Check.f kj12 a0_0 l0_1 a1 a2 l3 l4).bind fun t318 => (if x11_12 = true then (if t318 = true then (if t310 = true then (some false) else (some false)) else (some true)) else (some false))) = some r := by rw [if_neg (show ¬ (false = true) by decide)] at H; exact H
            clear H
            have H := H1
            clear H1
            replace H := Option.bind_eq_some_iff.mp H
            obtain ⟨t318, A680, H⟩ := H
            replace H : (if x11_12 = true then (if t318 = true then (if t310 = true then (some false) else (some false)) else (some true)) else (some false)) = some r := H
            have A68 := Aside0.mk A680
            clear A680
            by_cases c69 : x11_12 = true
            · subst c69
              have H1 : (if t318 = true then (if t310 = true then (some false) else (some false)) else (some true)) = some r := by rw [if_pos rfl] at H; exact H
              clear H
              have H := H1
              clear H1
              by_cases c70 : t318 = true
              · subst c70
                have H1 : (if t310 = true then (some false) else (some false)) = some r := by rw [if_pos rfl] at H; exact H
                clear H
                have H := H1
                clear H1
                by_cases c71 : t310 = true
                · subst c71
                  have H1 : (some false) = some r := by rw [if_pos rfl] at H; exact H
                  clear H
                  have H := H1
                  clear H1
                  obtain rfl := Option.some.inj H
                  have hcz72_0 : wc.cell? ⟨gb299, 0, none⟩ = some (.int .i64 a0_0) := (blk_cell BK299.out 0).trans rfl
                  have hcz72_1 : wc.cell? ⟨gb299, 1, none⟩ = some (.slice A0_1 l0_1.length c0_1) := (blk_cell BK299.out 1).trans rfl
                  have hfz72_0 := blk_frozen BK299.out 0
                  have hfz72_1 := blk_frozen BK299.out 1
                  go_wp2_with (first | ((with_reducible refine gate_callee (f := 17) rfl ?_); refine goesL_ (some 73) rfl rfl Try.func17 (by kernel_rfl) rfl #[.agg #[.int .i64 a0_0, .slice A0_1 l0_1.length c0_1], .int .i64 a1, .int .i64 a2, .slice A3 l3.length c3, .slice A4 l4.length c4] rfl (by (try simp only [List.map_toArray, List.map_cons, List.map_nil]); first | done | rfl | (simp only [List.length_drop, List.length_take]; rfl)) ?_; (with_reducible refine (flow_Check.calls kj12 a0_0 _ _ l0_1 a1 a2 _ _ l3 _ _ l4 true _ ?side1 ?side2 ?side3 ?side4 ?side5 ?side6 A68.out).mono ?_); (case side1 => repeat (first | exact (Kd.C_below HR0_1.out HB.out) | (with_reducible refine Kd.C_alloc ?_ _) | (with_reducible refine Kd.C_drewN ?_ _) | (with_reducible refine Kd.C_drew ?_))); (case side2 => exact HC0_1.out); (case side3 => repeat (first | exact (Kd.C_below HR3.out HB.out) | (with_reducible refine Kd.C_alloc ?_ _) | (with_reducible refine Kd.C_drewN ?_ _) | (with_reducible refine Kd.C_drew ?_))); (case side4 => exact HC3.out); (case side5 => repeat (first | exact (Kd.C_below HR4.out HB.out) | (with_reducible refine Kd.C_alloc ?_ _) | (with_reducible refine Kd.C_drewN ?_ _) | (with_reducible refine Kd.C_drew ?_))); (case side6 => exact HC4.out); rintro e w73 ⟨rfl, hb⟩; refine ⟨_, rfl, ?_⟩; have n0_ := Aside0.mk (blk_below (g := gb299) (o := .cells #[.int .i64 a0_0, .slice A0_1 l0_1.length c0_1] 24 (0, 0)) (by (with_reducible repeat (first | refine blk_drewN ?_ _ | refine blk_drew ?_ | refine blk_alloc ?_ _)); exact BK299.out) hb); have n1_ := Aside0.mk (below_step (by repeat (first | (with_reducible first | exact HB.out | apply below_alloc | apply pw_below_drewN | apply below_drew1 | refine below_set ?_ GE299.out) | exact HB.out)) hb); clear BK299; clear HB; have BK299 := n0_; have HB := n1_; clear n0_ n1_; (try clear hb); (try clear hb2); (try clear hk); (try clear hi)))
                  go_ret
                  exact ⟨by first | rfl | (simp [errW_none, errW_some] <;> rfl) | (simp [*, errW_none, errW_some] <;> rfl), by repeat (first | (with_reducible first | exact HB.out | apply below_alloc | apply pw_below_drewN | apply below_drew1 | refine below_set ?_ GE299.out) | exact HB.out)⟩
                · replace c71 := Bool.eq_false_iff.mpr c71
                  subst c71
                  have H1 : (some false) = some r := by rw [if_neg (show ¬ (false = true) by decide)] at H; exact H
                  clear H
                  have H := H1
                  clear H1
                  obtain rfl := Option.some.inj H
                  have hcz74_0 : wc.cell? ⟨gb299, 0, none⟩ = some (.int .i64 a0_0) := (blk_cell BK299.out 0).trans rfl
                  have hcz74_1 : wc.cell? ⟨gb299, 1, none⟩ = some (.slice A0_1 l0_1.length c0_1) := (blk_cell BK299.out 1).trans rfl
                  have hfz74_0 := blk_frozen BK299.out 0
                  have hfz74_1 := blk_frozen BK299.out 1
                  go_wp2_with (first | ((with_reducible refine gate_callee (f := 17) rfl ?_); refine goesL_ (some 73) rfl rfl Try.func17 (by kernel_rfl) rfl #[.agg #[.int .i64 a0_0, .slice A0_1 l0_1.length c0_1], .int .i64 a1, .int .i64 a2, .slice A3 l3.length c3, .slice A4 l4.length c4] rfl (by (try simp only [List.map_toArray, List.map_cons, List.map_nil]); first | done | rfl | (simp only [List.length_drop, List.length_take]; rfl)) ?_; (with_reducible refine (flow_Check.calls kj12 a0_0 _ _ l0_1 a1 a2 _ _ l3 _ _ l4 true _ ?side1 ?side2 ?side3 ?side4 ?side5 ?side6 A68.out).mono ?_); (case side1 => repeat (first | exact (Kd.C_below HR0_1.out HB.out) | (with_reducible refine Kd.C_alloc ?_ _) | (with_reducible refine Kd.C_drewN ?_ _) | (with_reducible refine Kd.C_drew ?_))); (case side2 => exact HC0_1.out); (case side3 => repeat (first | exact (Kd.C_below HR3.out HB.out) | (with_reducible refine Kd.C_alloc ?_ _) | (with_reducible refine Kd.C_drewN ?_ _) | (with_reducible refine Kd.C_drew ?_))); (case side4 => exact HC3.out); (case side5 => repeat (first | exact (Kd.C_below HR4.out HB.out) | (with_reducible refine Kd.C_alloc ?_ _) | (with_reducible refine Kd.C_drewN ?_ _) | (with_reducible refine Kd.C_drew ?_))); (case side6 => exact HC4.out); rintro e w75 ⟨rfl, hb⟩; refine ⟨_, rfl, ?_⟩; have n0_ := Aside0.mk (blk_below (g := gb299) (o := .cells #[.int .i64 a0_0, .slice A0_1 l0_1.length c0_1] 24 (0, 0)) (by (with_reducible repeat (first | refine blk_drewN ?_ _ | refine blk_drew ?_ | refine blk_alloc ?_ _)); exact BK299.out) hb); have n1_ := Aside0.mk (below_step (by repeat (first | (with_reducible first | exact HB.out | apply below_alloc | apply pw_below_drewN | apply below_drew1 | refine below_set ?_ GE299.out) | exact HB.out)) hb); clear BK299; clear HB; have BK299 := n0_; have HB := n1_; clear n0_ n1_; (try clear hb); (try clear hb2); (try clear hk); (try clear hi)))
                  go_ret
                  exact ⟨by first | rfl | (simp [errW_none, errW_some] <;> rfl) | (simp [*, errW_none, errW_some] <;> rfl), by repeat (first | (with_reducible first | exact HB.out | apply below_alloc | apply pw_below_drewN | apply below_drew1 | refine below_set ?_ GE299.out) | exact HB.out)⟩
              · replace c70 := Bool.eq_false_iff.mpr c70
                subst c70
                have H1 : (some true) = some r := by rw [if_neg (show ¬ (false = true) by decide)] at H; exact H
                clear H
                have H := H1
                clear H1
                obtain rfl := Option.some.inj H
                have hcz76_0 : wc.cell? ⟨gb299, 0, none⟩ = some (.int .i64 a0_0) := (blk_cell BK299.out 0).trans rfl
                have hcz76_1 : wc.cell? ⟨gb299, 1, none⟩ = some (.slice A0_1 l0_1.length c0_1) := (blk_cell BK299.out 1).trans rfl
                have hfz76_0 := blk_frozen BK299.out 0
                have hfz76_1 := blk_frozen BK299.out 1
                go_wp2_with (first | ((with_reducible refine gate_callee (f := 17) rfl ?_); refine goesL_ (some 73) rfl rfl Try.func17 (by kernel_rfl) rfl #[.agg #[.int .i64 a0_0, .slice A0_1 l0_1.length c0_1], .int .i64 a1, .int .i64 a2, .slice A3 l3.length c3, .slice A4 l4.length c4] rfl (by (try simp only [List.map_toArray, List.map_cons, List.map_nil]); first | done | rfl | (simp only [List.length_drop, List.length_take]; rfl)) ?_; (with_reducible refine (flow_Check.calls kj12 a0_0 _ _ l0_1 a1 a2 _ _ l3 _ _ l4 false _ ?side1 ?side2 ?side3 ?side4 ?side5 ?side6 A68.out).mono ?_); (case side1 => repeat (first | exact (Kd.C_below HR0_1.out HB.out) | (with_reducible refine Kd.C_alloc ?_ _) | (with_reducible refine Kd.C_drewN ?_ _) | (with_reducible refine Kd.C_drew ?_))); (case side2 => exact HC0_1.out); (case side3 => repeat (first | exact (Kd.C_below HR3.out HB.out) | (with_reducible refine Kd.C_alloc ?_ _) | (with_reducible refine Kd.C_drewN ?_ _) | (with_reducible refine Kd.C_drew ?_))); (case side4 => exact HC3.out); (case side5 => repeat (first | exact (Kd.C_below HR4.out HB.out) | (with_reducible refine Kd.C_alloc ?_ _) | (with_reducible refine Kd.C_drewN ?_ _) | (with_reducible refine Kd.C_drew ?_))); (case side6 => exact HC4.out); rintro e w77 ⟨rfl, hb⟩; refine ⟨_, rfl, ?_⟩; have n0_ := Aside0.mk (blk_below (g := gb299) (o := .cells #[.int .i64 a0_0, .slice A0_1 l0_1.length c0_1] 24 (0, 0)) (by (with_reducible repeat (first | refine blk_drewN ?_ _ | refine blk_drew ?_ | refine blk_alloc ?_ _)); exact BK299.out) hb); have n1_ := Aside0.mk (below_step (by repeat (first | (with_reducible first | exact HB.out | apply below_alloc | apply pw_below_drewN | apply below_drew1 | refine below_set ?_ GE299.out) | exact HB.out)) hb); clear BK299; clear HB; have BK299 := n0_; have HB := n1_; clear n0_ n1_; (try clear hb); (try clear hb2); (try clear hk); (try clear hi)))
                go_ret
                exact ⟨by first | rfl | (simp [errW_none, errW_some] <;> rfl) | (simp [*, errW_none, errW_some] <;> rfl), by repeat (first | (with_reducible first | exact HB.out | apply below_alloc | apply pw_below_drewN | apply below_drew1 | refine below_set ?_ GE299.out) | exact HB.out)⟩
            · replace c69 := Bool.eq_false_iff.mpr c69
              subst c69
              have H1 : (some false) = some r := by rw [if_neg (show ¬ (false = true) by decide)] at H; exact H
              clear H
              have H := H1
              clear H1
              obtain rfl := Option.some.inj H
              have hcz78_0 : wc.cell? ⟨gb299, 0, none⟩ = some (.int .i64 a0_0) := (blk_cell BK299.out 0).trans rfl
              have hcz78_1 : wc.cell? ⟨gb299, 1, none⟩ = some (.slice A0_1 l0_1.length c0_1) := (blk_cell BK299.out 1).trans rfl
              have hfz78_0 := blk_frozen BK299.out 0
              have hfz78_1 := blk_frozen BK299.out 1
              go_wp2_with (first | ((with_reducible refine gate_callee (f := 17) rfl ?_); refine goesL_ (some 73) rfl rfl Try.func17 (by kernel_rfl) rfl #[.agg #[.int .i64 a0_0, .slice A0_1 l0_1.length c0_1], .int .i64 a1, .int .i64 a2, .slice A3 l3.length c3, .slice A4 l4.length c4] rfl (by (try simp only [List.map_toArray, List.map_cons, List.map_nil]); first | done | rfl | (simp only [List.length_drop, List.length_take]; rfl)) ?_; (with_reducible refine (flow_Check.calls kj12 a0_0 _ _ l0_1 a1 a2 _ _ l3 _ _ l4 t318 _ ?side1 ?side2 ?side3 ?side4 ?side5 ?side6 A68.out).mono ?_); (case side1 => repeat (first | exact (Kd.C_below HR0_1.out HB.out) | (with_reducible refine Kd.C_alloc ?_ _) | (with_reducible refine Kd.C_drewN ?_ _) | (with_reducible refine Kd.C_drew ?_))); (case side2 => exact HC0_1.out); (case side3 => repeat (first | exact (Kd.C_below HR3.out HB.out) | (with_reducible refine Kd.C_alloc ?_ _) | (with_reducible refine Kd.C_drewN ?_ _) | (with_reducible refine Kd.C_drew ?_))); (case side4 => exact HC3.out); (case side5 => repeat (first | exact (Kd.C_below HR4.out HB.out) | (with_reducible refine Kd.C_alloc ?_ _) | (with_reducible refine Kd.C_drewN ?_ _) | (with_reducible refine Kd.C_drew ?_))); (case side6 => exact HC4.out); rintro e w79 ⟨rfl, hb⟩; refine ⟨_, rfl, ?_⟩; have n0_ := Aside0.mk (blk_below (g := gb299) (o := .cells #[.int .i64 a0_0, .slice A0_1 l0_1.length c0_1] 24 (0, 0)) (by (with_reducible repeat (first | refine blk_drewN ?_ _ | refine blk_drew ?_ | refine blk_alloc ?_ _)); exact BK299.out) hb); have n1_ := Aside0.mk (below_step (by repeat (first | (with_reducible first | exact HB.out | apply below_alloc | apply pw_below_drewN | apply below_drew1 | refine below_set ?_ GE299.out) | exact HB.out)) hb); clear BK299; clear HB; have BK299 := n0_; have HB := n1_; clear n0_ n1_; (try clear hb); (try clear hb2); (try clear hk); (try clear hi)))
              go_ret
              exact ⟨by first | rfl | (simp [errW_none, errW_some] <;> rfl) | (simp [*, errW_none, errW_some] <;> rfl), by repeat (first | (with_reducible first | exact HB.out | apply below_alloc | apply pw_below_drewN | apply below_drew1 | refine below_set ?_ GE299.out) | exact HB.out)⟩
    · rw [if_neg c12] at H
      have c12b0 : (t309 == 0) = false := beq_eq_false_iff_ne.mpr c12
      have c12b1 : (t309 != 0) = true := bne_iff_ne.mpr c12
      obtain rfl := Option.some.inj H
      go_enter Try.func5, Try.ntmps5
      go_wp2_with (first | ((with_reducible refine gate_dst (N := 5) rfl ?_); refine box_event ?hg (N := 5) ?hd (cs := #[.int .i64 a0_0, .slice A0_1 l0_1.length c0_1]) (t := 24) ?hr ?_; (case hd => rfl); (case hg => rfl); (case hr => first | (go_simp; done) | (go_simp; rfl)); intro gb299 hg w80 hbox hb; have n0_ := Aside0.mk (below_step (by repeat (first | (with_reducible first | exact HB.out | apply below_alloc | apply pw_below_drewN | apply below_drew1) | exact HB.out)) hb); have n1_ := Aside0.mk (hbox); have n2_ := Aside0.mk ((by rw [hg]; exact (below_size (by repeat (first | (with_reducible first | exact HB.out | apply below_alloc | apply pw_below_drewN | apply below_drew1) | exact HB.out))) : w.heap.size ≤ gb299)); have n3_ := Aside0.mk ((by rw [hg]; exact (below_size (by repeat (first | (with_reducible first | exact HB.out | apply below_alloc | apply pw_below_drewN | apply below_drew1) | exact HB.out))) : w.heap.size ≤ gb299)); clear HB; have HB := n0_; have BK299 := n1_; have GW299 := n2_; have GE299 := n3_; clear n0_ n1_ n2_ n3_; clear hb hbox hg) | ((with_reducible refine gate_callee (f := 10) rfl ?_); refine goesL_ (some 20) rfl rfl Try.func10 (by kernel_rfl) rfl #[] rfl (by (try simp only [List.map_toArray, List.map_cons, List.map_nil]); first | done | rfl | (simp only [List.length_drop, List.length_take]; rfl)) ?_; (with_reducible refine (chargeparklaw21_head.calls k  t300 _ A6.out).mono ?_); rintro e w81 ⟨rfl, hb⟩; refine ⟨_, rfl, ?_⟩; have n0_ := Aside0.mk (blk_below (g := gb299) (o := .cells #[.int .i64 a0_0, .slice A0_1 l0_1.length c0_1] 24 (0, 0)) (by (with_reducible repeat (first | refine blk_drewN ?_ _ | refine blk_drew ?_ | refine blk_alloc ?_ _)); exact BK299.out) hb); have n1_ := Aside0.mk (below_step (by repeat (first | (with_reducible first | exact HB.out | apply below_alloc | apply pw_below_drewN | apply below_drew1 | refine below_set ?_ GE299.out) | exact HB.out)) hb); clear BK299; clear HB; have BK299 := n0_; have HB := n1_; clear n0_ n1_; (try clear hb); (try clear hb2); (try clear hk); (try clear hi); have hcz82_0 : w81.cell? ⟨gb299, 0, none⟩ = some (.int .i64 a0_0) := (blk_cell BK299.out 0).trans rfl; have hcz82_1 : w81.cell? ⟨gb299, 1, none⟩ = some (.slice A0_1 l0_1.length c0_1) := (blk_cell BK299.out 1).trans rfl; have hfz82_0 := blk_frozen BK299.out 0; have hfz82_1 := blk_frozen BK299.out 1) | ((with_reducible refine gate_callee (f := 18) rfl ?_); refine goesL_ (some 24) rfl rfl Try.func18 (by kernel_rfl) rfl #[.agg #[.int .i64 a0_0, .slice A0_1 l0_1.length c0_1], .int .i64 a1, .int .i64 a2] rfl (by (try simp only [List.map_toArray, List.map_cons, List.map_nil]); first | done | rfl | (simp only [List.length_drop, List.length_take]; rfl)) ?_; (with_reducible refine (chargeparkref21_Ends.calls k a0_0 _ _ l0_1 a1 a2 true _ ?side1 ?side2 A7.out).mono ?_); (case side1 => repeat (first | exact (Kd.C_below HR0_1.out HB.out) | (with_reducible refine Kd.C_alloc ?_ _) | (with_reducible refine Kd.C_drewN ?_ _) | (with_reducible refine Kd.C_drew ?_))); (case side2 => exact HC0_1.out); rintro e w83 ⟨rfl, hb⟩; refine ⟨_, rfl, ?_⟩; have n0_ := Aside0.mk (blk_below (g := gb299) (o := .cells #[.int .i64 a0_0, .slice A0_1 l0_1.length c0_1] 24 (0, 0)) (by (with_reducible repeat (first | refine blk_drewN ?_ _ | refine blk_drew ?_ | refine blk_alloc ?_ _)); exact BK299.out) hb); have n1_ := Aside0.mk (below_step (by repeat (first | (with_reducible first | exact HB.out | apply below_alloc | apply pw_below_drewN | apply below_drew1 | refine below_set ?_ GE299.out) | exact HB.out)) hb); clear BK299; clear HB; have BK299 := n0_; have HB := n1_; clear n0_ n1_; (try clear hb); (try clear hb2); (try clear hk); (try clear hi); have hcz84_0 : w83.cell? ⟨gb299, 0, none⟩ = some (.int .i64 a0_0) := (blk_cell BK299.out 0).trans rfl; have hcz84_1 : w83.cell? ⟨gb299, 1, none⟩ = some (.slice A0_1 l0_1.length c0_1) := (blk_cell BK299.out 1).trans rfl; have hfz84_0 := blk_frozen BK299.out 0; have hfz84_1 := blk_frozen BK299.out 1) | ((with_reducible refine gate_callee (f := 14) rfl ?_); refine goesL_ (some 32) rfl rfl Try.func14 (by kernel_rfl) rfl #[.agg #[.int .i64 a0_0, .slice A0_1 l0_1.length c0_1], .int .i64 a1, .int .i64 a2] rfl (by (try simp only [List.map_toArray, List.map_cons, List.map_nil]); first | done | rfl | (simp only [List.length_drop, List.length_take]; rfl)) ?_; (with_reducible refine (flow_Most.calls a0_0 _ _ l0_1 a1 a2 t302 t303 t306 t309 _ ?side1 ?side2 A9.out).mono ?_); (case side1 => repeat (first | exact (Kd.C_below HR0_1.out HB.out) | (with_reducible refine Kd.C_alloc ?_ _) | (with_reducible refine Kd.C_drewN ?_ _) | (with_reducible refine Kd.C_drew ?_))); (case side2 => exact HC0_1.out); rintro e w85 ⟨v304, v307, rfl, ho0, ho1, hb⟩; refine ⟨_, rfl, ?_⟩; have n0_ := Aside0.mk (Kd.R_lower ho0 (below_size (by repeat (first | (with_reducible first | exact HB.out | apply below_alloc | apply pw_below_drewN | apply below_drew1 | refine below_set ?_ GE299.out) | exact HB.out)))); have n1_ := Aside0.mk (Kd.R_lower ho1 (below_size (by repeat (first | (with_reducible first | exact HB.out | apply below_alloc | apply pw_below_drewN | apply below_drew1 | refine below_set ?_ GE299.out) | exact HB.out)))); have n2_ := Aside0.mk (blk_below (g := gb299) (o := .cells #[.int .i64 a0_0, .slice A0_1 l0_1.length c0_1] 24 (0, 0)) (by (with_reducible repeat (first | refine blk_drewN ?_ _ | refine blk_drew ?_ | refine blk_alloc ?_ _)); exact BK299.out) hb); have n3_ := Aside0.mk (below_step (by repeat (first | (with_reducible first | exact HB.out | apply below_alloc | apply pw_below_drewN | apply below_drew1 | refine below_set ?_ GE299.out) | exact HB.out)) hb); clear BK299; clear HB; have HO305 := n0_; have HO308 := n1_; have BK299 := n2_; have HB := n3_; clear n0_ n1_ n2_ n3_; (try clear hb); (try clear hb2); (try clear hk); (try clear hi); (try clear ho0); (try clear ho1); have hcz86_0 : w85.cell? ⟨gb299, 0, none⟩ = some (.int .i64 a0_0) := (blk_cell BK299.out 0).trans rfl; have hcz86_1 : w85.cell? ⟨gb299, 1, none⟩ = some (.slice A0_1 l0_1.length c0_1) := (blk_cell BK299.out 1).trans rfl; have hfz86_0 := blk_frozen BK299.out 0; have hfz86_1 := blk_frozen BK299.out 1) | ((with_reducible refine gate_callee (f := 19) rfl ?_); refine goesL_ (some 41) rfl rfl Try.func19 (by kernel_rfl) rfl #[.agg #[.int .i64 a0_0, .slice A0_1 l0_1.length c0_1], .int .i64 a1, .int .i64 a2, .slice A3 l3.length c3] rfl (by (try simp only [List.map_toArray, List.map_cons, List.map_nil]); first | done | rfl | (simp only [List.length_drop, List.length_take]; rfl)) ?_; (with_reducible refine (chargeparkref21_Flow.calls k a0_0 _ _ l0_1 a1 a2 _ _ l3 t310 _ ?side1 ?side2 ?side3 ?side4 A10.out).mono ?_); (case side1 => repeat (first | exact (Kd.C_below HR0_1.out HB.out) | (with_reducible refine Kd.C_alloc ?_ _) | (with_reducible refine Kd.C_drewN ?_ _) | (with_reducible refine Kd.C_drew ?_))); (case side2 => exact HC0_1.out); (case side3 => repeat (first | exact (Kd.C_below HR3.out HB.out) | (with_reducible refine Kd.C_alloc ?_ _) | (with_reducible refine Kd.C_drewN ?_ _) | (with_reducible refine Kd.C_drew ?_))); (case side4 => exact HC3.out); rintro e w87 ⟨rfl, hb⟩; refine ⟨_, rfl, ?_⟩; have n0_ := Aside0.mk (Kd.R_below (by (with_reducible repeat (first | apply Kd.R_alloc | apply Kd.R_drewN | apply Kd.R_drew)); exact HO305.out) hb); have n1_ := Aside0.mk (Kd.R_below (by (with_reducible repeat (first | apply Kd.R_alloc | apply Kd.R_drewN | apply Kd.R_drew)); exact HO308.out) hb); have n2_ := Aside0.mk (blk_below (g := gb299) (o := .cells #[.int .i64 a0_0, .slice A0_1 l0_1.length c0_1] 24 (0, 0)) (by (with_reducible repeat (first | refine blk_drewN ?_ _ | refine blk_drew ?_ | refine blk_alloc ?_ _)); exact BK299.out) hb); have n3_ := Aside0.mk (below_step (by repeat (first | (with_reducible first | exact HB.out | apply below_alloc | apply pw_below_drewN | apply below_drew1 | refine below_set ?_ GE299.out) | exact HB.out)) hb); clear HO305; clear HO308; clear BK299; clear HB; have HO305 := n0_; have HO308 := n1_; have BK299 := n2_; have HB := n3_; clear n0_ n1_ n2_ n3_; (try clear hb); (try clear hb2); (try clear hk); (try clear hi); have hcz88_0 : w87.cell? ⟨gb299, 0, none⟩ = some (.int .i64 a0_0) := (blk_cell BK299.out 0).trans rfl; have hcz88_1 : w87.cell? ⟨gb299, 1, none⟩ = some (.slice A0_1 l0_1.length c0_1) := (blk_cell BK299.out 1).trans rfl; have hfz88_0 := blk_frozen BK299.out 0; have hfz88_1 := blk_frozen BK299.out 1) | ((with_reducible refine gate_callee (f := 20) rfl ?_); refine goesL_ (some 46) rfl rfl Try.func20 (by kernel_rfl) rfl #[.agg #[.int .i64 a0_0, .slice A0_1 l0_1.length c0_1], .int .i64 a1, .int .i64 a2, .slice A4 l4.length c4] rfl (by (try simp only [List.map_toArray, List.map_cons, List.map_nil]); first | done | rfl | (simp only [List.length_drop, List.length_take]; rfl)) ?_; (with_reducible refine (chargeparkref21_Cut.calls a0_0 _ _ l0_1 a1 a2 _ _ l4 t311 _ ?side1 ?side2 ?side3 ?side4 A11.out).mono ?_); (case side1 => repeat (first | exact (Kd.C_below HR0_1.out HB.out) | (with_reducible refine Kd.C_alloc ?_ _) | (with_reducible refine Kd.C_drewN ?_ _) | (with_reducible refine Kd.C_drew ?_))); (case side2 => exact HC0_1.out); (case side3 => repeat (first | exact (Kd.C_below HR4.out HB.out) | (with_reducible refine Kd.C_alloc ?_ _) | (with_reducible refine Kd.C_drewN ?_ _) | (with_reducible refine Kd.C_drew ?_))); (case side4 => exact HC4.out); rintro e w89 ⟨rfl, hb⟩; refine ⟨_, rfl, ?_⟩; have n0_ := Aside0.mk (Kd.R_below (by (with_reducible repeat (first | apply Kd.R_alloc | apply Kd.R_drewN | apply Kd.R_drew)); exact HO305.out) hb); have n1_ := Aside0.mk (Kd.R_below (by (with_reducible repeat (first | apply Kd.R_alloc | apply Kd.R_drewN | apply Kd.R_drew)); exact HO308.out) hb); have n2_ := Aside0.mk (blk_below (g := gb299) (o := .cells #[.int .i64 a0_0, .slice A0_1 l0_1.length c0_1] 24 (0, 0)) (by (with_reducible repeat (first | refine blk_drewN ?_ _ | refine blk_drew ?_ | refine blk_alloc ?_ _)); exact BK299.out) hb); have n3_ := Aside0.mk (below_step (by repeat (first | (with_reducible first | exact HB.out | apply below_alloc | apply pw_below_drewN | apply below_drew1 | refine below_set ?_ GE299.out) | exact HB.out)) hb); clear HO305; clear HO308; clear BK299; clear HB; have HO305 := n0_; have HO308 := n1_; have BK299 := n2_; have HB := n3_; clear n0_ n1_ n2_ n3_; (try clear hb); (try clear hb2); (try clear hk); (try clear hi)))
      go_ret
      exact ⟨by first | rfl | (simp [errW_none, errW_some] <;> rfl) | (simp [*, errW_none, errW_some] <;> rfl), by repeat (first | (with_reducible first | exact HB.out | apply below_alloc | apply pw_below_drewN | apply below_drew1 | refine below_set ?_ GE299.out) | exact HB.out)⟩
  · replace c8 := Bool.eq_false_iff.mpr c8
    subst c8
    have H1 : (some t300) = some r := by rw [if_neg (show ¬ (false = true) by decide)] at H; exact H
    clear H
    have H := H1
    clear H1
    obtain rfl := Option.some.inj H
    go_enter Try.func5, Try.ntmps5
    go_wp2_with (first | ((with_reducible refine gate_dst (N := 5) rfl ?_); refine box_event ?hg (N := 5) ?hd (cs := #[.int .i64 a0_0, .slice A0_1 l0_1.length c0_1]) (t := 24) ?hr ?_; (case hd => rfl); (case hg => rfl); (case hr => first | (go_simp; done) | (go_simp; rfl)); intro gb299 hg w90 hbox hb; have n0_ := Aside0.mk (below_step (by repeat (first | (with_reducible first | exact HB.out | apply below_alloc | apply pw_below_drewN | apply below_drew1) | exact HB.out)) hb); have n1_ := Aside0.mk (hbox); have n2_ := Aside0.mk ((by rw [hg]; exact (below_size (by repeat (first | (with_reducible first | exact HB.out | apply below_alloc | apply pw_below_drewN | apply below_drew1) | exact HB.out))) : w.heap.size ≤ gb299)); have n3_ := Aside0.mk ((by rw [hg]; exact (below_size (by repeat (first | (with_reducible first | exact HB.out | apply below_alloc | apply pw_below_drewN | apply below_drew1) | exact HB.out))) : w.heap.size ≤ gb299)); clear HB; have HB := n0_; have BK299 := n1_; have GW299 := n2_; have GE299 := n3_; clear n0_ n1_ n2_ n3_; clear hb hbox hg) | ((with_reducible refine gate_callee (f := 10) rfl ?_); refine goesL_ (some 20) rfl rfl Try.func10 (by kernel_rfl) rfl #[] rfl (by (try simp only [List.map_toArray, List.map_cons, List.map_nil]); first | done | rfl | (simp only [List.length_drop, List.length_take]; rfl)) ?_; (with_reducible refine (chargeparklaw21_head.calls k  t300 _ A6.out).mono ?_); rintro e w91 ⟨rfl, hb⟩; refine ⟨_, rfl, ?_⟩; have n0_ := Aside0.mk (blk_below (g := gb299) (o := .cells #[.int .i64 a0_0, .slice A0_1 l0_1.length c0_1] 24 (0, 0)) (by (with_reducible repeat (first | refine blk_drewN ?_ _ | refine blk_drew ?_ | refine blk_alloc ?_ _)); exact BK299.out) hb); have n1_ := Aside0.mk (below_step (by repeat (first | (with_reducible first | exact HB.out | apply below_alloc | apply pw_below_drewN | apply below_drew1 | refine below_set ?_ GE299.out) | exact HB.out)) hb); clear BK299; clear HB; have BK299 := n0_; have HB := n1_; clear n0_ n1_; (try clear hb); (try clear hb2); (try clear hk); (try clear hi); have hcz92_0 : w91.cell? ⟨gb299, 0, none⟩ = some (.int .i64 a0_0) := (blk_cell BK299.out 0).trans rfl; have hcz92_1 : w91.cell? ⟨gb299, 1, none⟩ = some (.slice A0_1 l0_1.length c0_1) := (blk_cell BK299.out 1).trans rfl; have hfz92_0 := blk_frozen BK299.out 0; have hfz92_1 := blk_frozen BK299.out 1) | ((with_reducible refine gate_callee (f := 18) rfl ?_); refine goesL_ (some 24) rfl rfl Try.func18 (by kernel_rfl) rfl #[.agg #[.int .i64 a0_0, .slice A0_1 l0_1.length c0_1], .int .i64 a1, .int .i64 a2] rfl (by (try simp only [List.map_toArray, List.map_cons, List.map_nil]); first | done | rfl | (simp only [List.length_drop, List.length_take]; rfl)) ?_; (with_reducible refine (chargeparkref21_Ends.calls k a0_0 _ _ l0_1 a1 a2 false _ ?side1 ?side2 A7.out).mono ?_); (case side1 => repeat (first | exact (Kd.C_below HR0_1.out HB.out) | (with_reducible refine Kd.C_alloc ?_ _) | (with_reducible refine Kd.C_drewN ?_ _) | (with_reducible refine Kd.C_drew ?_))); (case side2 => exact HC0_1.out); rintro e w93 ⟨rfl, hb⟩; refine ⟨_, rfl, ?_⟩; have n0_ := Aside0.mk (blk_below (g := gb299) (o := .cells #[.int .i64 a0_0, .slice A0_1 l0_1.length c0_1] 24 (0, 0)) (by (with_reducible repeat (first | refine blk_drewN ?_ _ | refine blk_drew ?_ | refine blk_alloc ?_ _)); exact BK299.out) hb); have n1_ := Aside0.mk (below_step (by repeat (first | (with_reducible first | exact HB.out | apply below_alloc | apply pw_below_drewN | apply below_drew1 | refine below_set ?_ GE299.out) | exact HB.out)) hb); clear BK299; clear HB; have BK299 := n0_; have HB := n1_; clear n0_ n1_; (try clear hb); (try clear hb2); (try clear hk); (try clear hi)))
    go_ret
    exact ⟨by first | rfl | (simp [errW_none, errW_some] <;> rfl) | (simp [*, errW_none, errW_some] <;> rfl), by repeat (first | (with_reducible first | exact HB.out | apply below_alloc | apply pw_below_drewN | apply below_drew1 | refine below_set ?_ GE299.out) | exact HB.out)⟩

end Go.Proofs.Ytfjbbmgnfpeogaa.Pr
