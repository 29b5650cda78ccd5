-- Written by a program of this session over the kit's print.
import Derived.Test.YtfjbbmgnfpeogaaPr0
import Derived.Test.YtfjbbmgnfpeogaaPr2
import Derived.Test.YtfjbbmgnfpeogaaPr4
import Derived.Test.YtfjbbmgnfpeogaaPr5
import Derived.Test.YtfjbbmgnfpeogaaPr6
import Derived.Test.YtfjbbmgnfpeogaaPr7
import Derived.Test.YtfjbbmgnfpeogaaMost
namespace Go.Proofs.Ytfjbbmgnfpeogaa.Pr
open Go.RowKit Go.Proofs.YtfjbbmgnfpeogaaW.PrintWords Go.Proofs.YtfjbbmgnfpeogaaW.PrintLast Go.Proofs.YtfjbbmgnfpeogaaW.PrintMore
attribute [local go_sem] max2_int min2_int max_two min_two max_three min_three max_four min_four   -- for this text's walks alone
set_option linter.unusedVariables false
set_option linter.unusedSimpArgs false

/-! ### chargeparklaw21_FlowProof: function 4 -/
def chargeparklaw21_FlowProof.j0 : Nat → Int → Int → Bool → Int → List Int → List Bool → Bool → Int → List (S39) → Option (Bool)
  | 0, _, _, _, _, _, _, _, _, _ => none
  | k + 1, x1, x2, x7, x9, x10, x11, x51, x284000, x284001 => if x51 = true then (some false) else (if x7 = true then ((chargeparkref21_Amount.f k x284000 x284001 x1 x10).bind fun t296 => (if x9 = t296 then ((chargeparkref21_Capacity.f k x284000 x284001 x11).bind fun t297 => (if x9 = t297 then ((flow_Check.f k x284000 x284001 x1 x2 x10 x11).bind fun t298 => (some t298)) else (some false))) else (some false))) else (some false))
def chargeparklaw21_FlowProof.f (k : Nat) (a0_0 : Int) (l0_1 : List (S39)) (a1 : Int) (a2 : Int) : Option (Bool) := (chargeparklaw21_head.f k).bind fun t284 => ((chargeparkref21_Ends.f k a0_0 l0_1 a1 a2).bind fun t285 => (if t285 = true then ((flow_Most.f a0_0 l0_1 a1 a2).bind fun bt286 => ((chargeparkref21_Flow.f k a0_0 l0_1 a1 a2 bt286.2.1).bind fun t294 => ((chargeparkref21_Cut.f a0_0 l0_1 a1 a2 bt286.2.2.1).bind fun t295 => (if bt286.2.2.2 = 0 then (if t294 = true then (chargeparklaw21_FlowProof.j0 k a1 a2 t284 bt286.1 bt286.2.1 bt286.2.2.1 (!t295) a0_0 l0_1) else (chargeparklaw21_FlowProof.j0 k a1 a2 t284 bt286.1 bt286.2.1 bt286.2.2.1 true a0_0 l0_1)) else (chargeparklaw21_FlowProof.j0 k a1 a2 t284 bt286.1 bt286.2.1 bt286.2.2.1 true a0_0 l0_1))))) else (some t284)))
theorem chargeparklaw21_FlowProof.mono_l : ∀ k, (∀ y0 y1 y2 y3 y4 y5 y6 y7 y8, LeO (chargeparklaw21_FlowProof.j0 k y0 y1 y2 y3 y4 y5 y6 y7 y8) (chargeparklaw21_FlowProof.j0 (k + 1) y0 y1 y2 y3 y4 y5 y6 y7 y8))
  | 0 => fun _ _ _ _ _ _ _ _ _ r h => by simp [chargeparklaw21_FlowProof.j0] at h
  | k + 1 => by
    have ih0 := chargeparklaw21_FlowProof.mono_l k
    · intro y0 y1 y2 y3 y4 y5 y6 y7 y8
      unfold chargeparklaw21_FlowProof.j0
      repeat' first
      | (with_reducible exact ih0 _ _ _ _ _ _ _ _ _)
      | (with_reducible exact chargeparklaw21_head.mono _)
      | (with_reducible exact chargeparkref21_Amount.mono _ _ _ _ _)
      | (with_reducible exact chargeparkref21_Capacity.mono _ _ _ _)
      | (with_reducible exact chargeparkref21_Ends.mono _ _ _ _ _)
      | (with_reducible exact chargeparkref21_Flow.mono _ _ _ _ _ _)
      | (with_reducible exact flow_Check.mono _ _ _ _ _ _ _)
      | (with_reducible exact LeO.refl _)
      | (with_reducible exact LeO.none _)
      | (with_reducible refine LeO.ite ?_ ?_)
      | (with_reducible refine LeO.bind ?_ (fun _ => ?_))
      | exact ih0 _ _ _ _ _ _ _ _ _
      | exact chargeparklaw21_head.mono _
      | exact chargeparkref21_Amount.mono _ _ _ _ _
      | exact chargeparkref21_Capacity.mono _ _ _ _
      | exact chargeparkref21_Ends.mono _ _ _ _ _
      | exact chargeparkref21_Flow.mono _ _ _ _ _ _
      | exact flow_Check.mono _ _ _ _ _ _ _
      | exact LeO.none _
      | refine LeO.ite ?_ ?_
      | refine LeO.bind ?_ (fun _ => ?_)
theorem chargeparklaw21_FlowProof.mono : ∀ a0 a1 a2 a3 k, LeO (chargeparklaw21_FlowProof.f k a0 a1 a2 a3) (chargeparklaw21_FlowProof.f (k + 1) a0 a1 a2 a3) := by
  intro a0 a1 a2 a3 k
  have ih0 := chargeparklaw21_FlowProof.mono_l k
  unfold chargeparklaw21_FlowProof.f
  repeat' first
      | (with_reducible exact ih0 _ _ _ _ _ _ _ _ _)
      | (with_reducible exact chargeparklaw21_head.mono _)
      | (with_reducible exact chargeparkref21_Amount.mono _ _ _ _ _)
      | (with_reducible exact chargeparkref21_Capacity.mono _ _ _ _)
      | (with_reducible exact chargeparkref21_Ends.mono _ _ _ _ _)
      | (with_reducible exact chargeparkref21_Flow.mono _ _ _ _ _ _)
      | (with_reducible exact flow_Check.mono _ _ _ _ _ _ _)
      | (with_reducible exact LeO.refl _)
      | (with_reducible exact LeO.none _)
      | (with_reducible refine LeO.ite ?_ ?_)
      | (with_reducible refine LeO.bind ?_ (fun _ => ?_))
      | exact ih0 _ _ _ _ _ _ _ _ _
      | exact chargeparklaw21_head.mono _
      | exact chargeparkref21_Amount.mono _ _ _ _ _
      | exact chargeparkref21_Capacity.mono _ _ _ _
      | exact chargeparkref21_Ends.mono _ _ _ _ _
      | exact chargeparkref21_Flow.mono _ _ _ _ _ _
      | exact flow_Check.mono _ _ _ _ _ _ _
      | exact LeO.none _
      | refine LeO.ite ?_ ?_
      | refine LeO.bind ?_ (fun _ => ?_)
set_option maxHeartbeats 8000000 in
set_option maxRecDepth 100000 in
theorem chargeparklaw21_FlowProof.calls (k : Nat) (a0_0 : Int) (A0_1 : Option Addr) (c0_1 : Nat) (l0_1 : List (S39)) (a1 : Int) (a2 : Int) (r : Bool) (w : World) (hr0_1 : Kd.C k39 w A0_1 l0_1.length l0_1) (hc0_1 : l0_1.length ≤ c0_1) (h : chargeparklaw21_FlowProof.f k a0_0 l0_1 a1 a2 = some r) :
    Calls Try.prog 4 #[.agg #[.int .i64 a0_0, .slice A0_1 l0_1.length c0_1], .int .i64 a1, .int .i64 a2] w fun e w' => e = .returned (.bool r) ∧ Below w.heap.size w w' := by
  have hu24 := Try.underlying24
  have HR0_1 := Aside0.mk hr0_1
  have HC0_1 := Aside0.mk hc0_1
  clear hr0_1 hc0_1
  have HB := Aside0.mk (Below.refl w.heap.size w)
  have H : ((chargeparklaw21_head.f k).bind fun t284 => ((chargeparkref21_Ends.f k a0_0 l0_1 a1 a2).bind fun t285 => (if t285 = true then ((flow_Most.f a0_0 l0_1 a1 a2).bind fun bt286 => ((chargeparkref21_Flow.f k a0_0 l0_1 a1 a2 bt286.2.1).bind fun t294 => ((chargeparkref21_Cut.f a0_0 l0_1 a1 a2 bt286.2.2.1).bind fun t295 => (if bt286.2.2.2 = 0 then (if t294 = true then (chargeparklaw21_FlowProof.j0 k a1 a2 t284 bt286.1 bt286.2.1 bt286.2.2.1 (!t295) a0_0 l0_1) else (chargeparklaw21_FlowProof.j0 k a1 a2 t284 bt286.1 bt286.2.1 bt286.2.2.1 true a0_0 l0_1)) else (chargeparklaw21_FlowProof.j0 k a1 a2 t284 bt286.1 bt286.2.1 bt286.2.2.1 true a0_0 l0_1))))) else (some t284)))) = some r := h
  clear h
  replace H := Option.bind_eq_some_iff.mp H
  obtain ⟨t284, A40, H⟩ := H
  replace H : ((chargeparkref21_Ends.f k a0_0 l0_1 a1 a2).bind fun t285 => (if t285 = true then ((flow_Most.f a0_0 l0_1 a1 a2).bind fun bt286 => ((chargeparkref21_Flow.f k a0_0 l0_1 a1 a2 bt286.2.1).bind fun t294 => ((chargeparkref21_Cut.f a0_0 l0_1 a1 a2 bt286.2.2.1).bind fun t295 => (if bt286.2.2.2 = 0 then (if t294 = true then (chargeparklaw21_FlowProof.j0 k a1 a2 t284 bt286.1 bt286.2.1 bt286.2.2.1 (!t295) a0_0 l0_1) else (chargeparklaw21_FlowProof.j0 k a1 a2 t284 bt286.1 bt286.2.1 bt286.2.2.1 true a0_0 l0_1)) else (chargeparklaw21_FlowProof.j0 k a1 a2 t284 bt286.1 bt286.2.1 bt286.2.2.1 true a0_0 l0_1))))) else (some t284))) = some r := H
  have A4 := Aside0.mk A40
  clear A40
  replace H := Option.bind_eq_some_iff.mp H
  obtain ⟨t285, A50, H⟩ := H
  replace H : (if t285 = true then ((flow_Most.f a0_0 l0_1 a1 a2).bind fun bt286 => ((chargeparkref21_Flow.f k a0_0 l0_1 a1 a2 bt286.2.1).bind fun t294 => ((chargeparkref21_Cut.f a0_0 l0_1 a1 a2 bt286.2.2.1).bind fun t295 => (if bt286.2.2.2 = 0 then (if t294 = true then (chargeparklaw21_FlowProof.j0 k a1 a2 t284 bt286.1 bt286.2.1 bt286.2.2.1 (!t295) a0_0 l0_1) else (chargeparklaw21_FlowProof.j0 k a1 a2 t284 bt286.1 bt286.2.1 bt286.2.2.1 true a0_0 l0_1)) else (chargeparklaw21_FlowProof.j0 k a1 a2 t284 bt286.1 bt286.2.1 bt286.2.2.1 true a0_0 l0_1))))) else (some t284)) = some r := H
  have A5 := Aside0.mk A50
  clear A50
  by_cases c6 : t285 = true
  · subst c6
    have H1 : ((flow_Most.f a0_0 l0_1 a1 a2).bind fun bt286 => ((chargeparkref21_Flow.f k a0_0 l0_1 a1 a2 bt286.2.1).bind fun t294 => ((chargeparkref21_Cut.f a0_0 l0_1 a1 a2 bt286.2.2.1).bind fun t295 => (if bt286.2.2.2 = 0 then (if t294 = true then (chargeparklaw21_FlowProof.j0 k a1 a2 t284 bt286.1 bt286.2.1 bt286.2.2.1 (!t295) a0_0 l0_1) else (chargeparklaw21_FlowProof.j0 k a1 a2 t284 bt286.1 bt286.2.1 bt286.2.2.1 true a0_0 l0_1)) else (chargeparklaw21_FlowProof.j0 k a1 a2 t284 bt286.1 bt286.2.1 bt286.2.2.1 true a0_0 l0_1))))) = some r := by rw [if_pos rfl] at H; exact H
    clear H
    have H := H1
    clear H1
    replace H := Option.bind_eq_some_iff.mp H
    obtain ⟨⟨t286, t287, t290, t293⟩, A70, H⟩ := H
    replace H : ((chargeparkref21_Flow.f k a0_0 l0_1 a1 a2 t287).bind fun t294 => ((chargeparkref21_Cut.f a0_0 l0_1 a1 a2 t290).bind fun t295 => (if t293 = 0 then (if t294 = true then (chargeparklaw21_FlowProof.j0 k a1 a2 t284 t286 t287 t290 (!t295) a0_0 l0_1) else (chargeparklaw21_FlowProof.j0 k a1 a2 t284 t286 t287 t290 true a0_0 l0_1)) else (chargeparklaw21_FlowProof.j0 k a1 a2 t284 t286 t287 t290 true a0_0 l0_1)))) = some r := H
    have A7 := Aside0.mk A70
    clear A70
    replace H := Option.bind_eq_some_iff.mp H
    obtain ⟨t294, A80, H⟩ := H
    replace H : ((chargeparkref21_Cut.f a0_0 l0_1 a1 a2 t290).bind fun t295 => (if t293 = 0 then (if t294 = true then (chargeparklaw21_FlowProof.j0 k a1 a2 t284 t286 t287 t290 (!t295) a0_0 l0_1) else (chargeparklaw21_FlowProof.j0 k a1 a2 t284 t286 t287 t290 true a0_0 l0_1)) else (chargeparklaw21_FlowProof.j0 k a1 a2 t284 t286 t287 t290 true a0_0 l0_1))) = some r := H
    have A8 := Aside0.mk A80
    clear A80
    replace H := Option.bind_eq_some_iff.mp H
    obtain ⟨t295, A90, H⟩ := H
    replace H : (if t293 = 0 then (if t294 = true then (chargeparklaw21_FlowProof.j0 k a1 a2 t284 t286 t287 t290 (!t295) a0_0 l0_1) else (chargeparklaw21_FlowProof.j0 k a1 a2 t284 t286 t287 t290 true a0_0 l0_1)) else (chargeparklaw21_FlowProof.j0 k a1 a2 t284 t286 t287 t290 true a0_0 l0_1)) = some r := H
    have A9 := Aside0.mk A90
    clear A90
    have HC10 := Aside0.mk H
    clear H
    go_enter Try.func4, Try.ntmps4
    go_upto_region 8 with (first | ((with_reducible refine gate_dst (N := 3) rfl ?_); refine box_event ?hg (N := 3) ?hd (cs := #[.int .i64 a0_0, .slice A0_1 l0_1.length c0_1]) (t := 24) ?hr ?_; (case hd => rfl); (case hg => rfl); (case hr => first | (go_simp; done) | (go_simp; rfl)); intro gb283 hg w11 hbox hb; have n0_ := Aside0.mk (below_step (by repeat (first | (with_reducible first | exact HB.out | apply below_alloc | apply pw_below_drewN | apply below_drew1) | exact HB.out)) hb); have n1_ := Aside0.mk (hbox); have n2_ := Aside0.mk ((by rw [hg]; exact (below_size (by repeat (first | (with_reducible first | exact HB.out | apply below_alloc | apply pw_below_drewN | apply below_drew1) | exact HB.out))) : w.heap.size ≤ gb283)); have n3_ := Aside0.mk ((by rw [hg]; exact (below_size (by repeat (first | (with_reducible first | exact HB.out | apply below_alloc | apply pw_below_drewN | apply below_drew1) | exact HB.out))) : w.heap.size ≤ gb283)); clear HB; have HB := n0_; have BK283 := n1_; have GW283 := n2_; have GE283 := n3_; clear n0_ n1_ n2_ n3_; clear hb hbox hg) | ((with_reducible refine gate_callee (f := 10) rfl ?_); refine goesL_ (some 15) rfl rfl Try.func10 (by kernel_rfl) rfl #[] rfl (by (try simp only [List.map_toArray, List.map_cons, List.map_nil]); first | done | rfl | (simp only [List.length_drop, List.length_take]; rfl)) ?_; (with_reducible refine (chargeparklaw21_head.calls k  t284 _ A4.out).mono ?_); rintro e w12 ⟨rfl, hb⟩; refine ⟨_, rfl, ?_⟩; have n0_ := Aside0.mk (blk_below (g := gb283) (o := .cells #[.int .i64 a0_0, .slice A0_1 l0_1.length c0_1] 24 (0, 0)) (by (with_reducible repeat (first | refine blk_drewN ?_ _ | refine blk_drew ?_ | refine blk_alloc ?_ _)); exact BK283.out) hb); have n1_ := Aside0.mk (below_step (by repeat (first | (with_reducible first | exact HB.out | apply below_alloc | apply pw_below_drewN | apply below_drew1 | refine below_set ?_ GE283.out) | exact HB.out)) hb); clear BK283; clear HB; have BK283 := n0_; have HB := n1_; clear n0_ n1_; (try clear hb); (try clear hb2); (try clear hk); (try clear hi); have hcz13_0 : w12.cell? ⟨gb283, 0, none⟩ = some (.int .i64 a0_0) := (blk_cell BK283.out 0).trans rfl; have hcz13_1 : w12.cell? ⟨gb283, 1, none⟩ = some (.slice A0_1 l0_1.length c0_1) := (blk_cell BK283.out 1).trans rfl; have hfz13_0 := blk_frozen BK283.out 0; have hfz13_1 := blk_frozen BK283.out 1) | ((with_reducible refine gate_callee (f := 18) rfl ?_); refine goesL_ (some 19) rfl rfl Try.func18 (by kernel_rfl) rfl #[.agg #[.int .i64 a0_0, .slice A0_1 l0_1.length c0_1], .int .i64 a1, .int .i64 a2] rfl (by (try simp only [List.map_toArray, List.map_cons, List.map_nil]); first | done | rfl | (simp only [List.length_drop, List.length_take]; rfl)) ?_; (with_reducible refine (chargeparkref21_Ends.calls k a0_0 _ _ l0_1 a1 a2 true _ ?side1 ?side2 A5.out).mono ?_); (case side1 => repeat (first | exact (Kd.C_below HR0_1.out HB.out) | (with_reducible refine Kd.C_alloc ?_ _) | (with_reducible refine Kd.C_drewN ?_ _) | (with_reducible refine Kd.C_drew ?_))); (case side2 => exact HC0_1.out); rintro e w14 ⟨rfl, hb⟩; refine ⟨_, rfl, ?_⟩; have n0_ := Aside0.mk (blk_below (g := gb283) (o := .cells #[.int .i64 a0_0, .slice A0_1 l0_1.length c0_1] 24 (0, 0)) (by (with_reducible repeat (first | refine blk_drewN ?_ _ | refine blk_drew ?_ | refine blk_alloc ?_ _)); exact BK283.out) hb); have n1_ := Aside0.mk (below_step (by repeat (first | (with_reducible first | exact HB.out | apply below_alloc | apply pw_below_drewN | apply below_drew1 | refine below_set ?_ GE283.out) | exact HB.out)) hb); clear BK283; clear HB; have BK283 := n0_; have HB := n1_; clear n0_ n1_; (try clear hb); (try clear hb2); (try clear hk); (try clear hi); have hcz15_0 : w14.cell? ⟨gb283, 0, none⟩ = some (.int .i64 a0_0) := (blk_cell BK283.out 0).trans rfl; have hcz15_1 : w14.cell? ⟨gb283, 1, none⟩ = some (.slice A0_1 l0_1.length c0_1) := (blk_cell BK283.out 1).trans rfl; have hfz15_0 := blk_frozen BK283.out 0; have hfz15_1 := blk_frozen BK283.out 1) | ((with_reducible refine gate_callee (f := 14) rfl ?_); refine goesL_ (some 27) rfl rfl Try.func14 (by kernel_rfl) rfl #[.agg #[.int .i64 a0_0, .slice A0_1 l0_1.length c0_1], .int .i64 a1, .int .i64 a2] rfl (by (try simp only [List.map_toArray, List.map_cons, List.map_nil]); first | done | rfl | (simp only [List.length_drop, List.length_take]; rfl)) ?_; (with_reducible refine (flow_Most.calls a0_0 _ _ l0_1 a1 a2 t286 t287 t290 t293 _ ?side1 ?side2 A7.out).mono ?_); (case side1 => repeat (first | exact (Kd.C_below HR0_1.out HB.out) | (with_reducible refine Kd.C_alloc ?_ _) | (with_reducible refine Kd.C_drewN ?_ _) | (with_reducible refine Kd.C_drew ?_))); (case side2 => exact HC0_1.out); rintro e w16 ⟨v288, v291, rfl, ho0, ho1, hb⟩; refine ⟨_, rfl, ?_⟩; have n0_ := Aside0.mk (Kd.R_lower ho0 (below_size (by repeat (first | (with_reducible first | exact HB.out | apply below_alloc | apply pw_below_drewN | apply below_drew1 | refine below_set ?_ GE283.out) | exact HB.out)))); have n1_ := Aside0.mk (Kd.R_lower ho1 (below_size (by repeat (first | (with_reducible first | exact HB.out | apply below_alloc | apply pw_below_drewN | apply below_drew1 | refine below_set ?_ GE283.out) | exact HB.out)))); have n2_ := Aside0.mk (blk_below (g := gb283) (o := .cells #[.int .i64 a0_0, .slice A0_1 l0_1.length c0_1] 24 (0, 0)) (by (with_reducible repeat (first | refine blk_drewN ?_ _ | refine blk_drew ?_ | refine blk_alloc ?_ _)); exact BK283.out) hb); have n3_ := Aside0.mk (below_step (by repeat (first | (with_reducible first | exact HB.out | apply below_alloc | apply pw_below_drewN | apply below_drew1 | refine below_set ?_ GE283.out) | exact HB.out)) hb); clear BK283; clear HB; have HO289 := n0_; have HO292 := n1_; have BK283 := n2_; have HB := n3_; clear n0_ n1_ n2_ n3_; (try clear hb); (try clear hb2); (try clear hk); (try clear hi); (try clear ho0); (try clear ho1); have hcz17_0 : w16.cell? ⟨gb283, 0, none⟩ = some (.int .i64 a0_0) := (blk_cell BK283.out 0).trans rfl; have hcz17_1 : w16.cell? ⟨gb283, 1, none⟩ = some (.slice A0_1 l0_1.length c0_1) := (blk_cell BK283.out 1).trans rfl; have hfz17_0 := blk_frozen BK283.out 0; have hfz17_1 := blk_frozen BK283.out 1; obtain ⟨Ao18, co18, eo18⟩ := Kd.R_slice HO289.out; subst eo18) | ((with_reducible refine gate_callee (f := 19) rfl ?_); refine goesL_ (some 36) rfl rfl Try.func19 (by kernel_rfl) rfl #[.agg #[.int .i64 a0_0, .slice A0_1 l0_1.length c0_1], .int .i64 a1, .int .i64 a2, .slice Ao18 t287.length co18] rfl (by (try simp only [List.map_toArray, List.map_cons, List.map_nil]); first | done | rfl | (simp only [List.length_drop, List.length_take]; rfl)) ?_; (with_reducible refine (chargeparkref21_Flow.calls k a0_0 _ _ l0_1 a1 a2 _ _ t287 t294 _ ?side1 ?side2 ?side3 ?side4 A8.out).mono ?_); (case side1 => repeat (first | exact (Kd.C_below HR0_1.out HB.out) | (with_reducible refine Kd.C_alloc ?_ _) | (with_reducible refine Kd.C_drewN ?_ _) | (with_reducible refine Kd.C_drew ?_))); (case side2 => exact HC0_1.out); (case side3 => repeat (first | exact (Kd.R_reads' HO289.out).2.2 | (with_reducible refine Kd.C_alloc ?_ _) | (with_reducible refine Kd.C_drewN ?_ _) | (with_reducible refine Kd.C_drew ?_))); (case side4 => exact (Kd.R_reads' HO289.out).2.1); rintro e w19 ⟨rfl, hb⟩; refine ⟨_, rfl, ?_⟩; have n0_ := Aside0.mk (Kd.R_below (by (with_reducible repeat (first | apply Kd.R_alloc | apply Kd.R_drewN | apply Kd.R_drew)); exact HO289.out) hb); have n1_ := Aside0.mk (Kd.R_below (by (with_reducible repeat (first | apply Kd.R_alloc | apply Kd.R_drewN | apply Kd.R_drew)); exact HO292.out) hb); have n2_ := Aside0.mk (blk_below (g := gb283) (o := .cells #[.int .i64 a0_0, .slice A0_1 l0_1.length c0_1] 24 (0, 0)) (by (with_reducible repeat (first | refine blk_drewN ?_ _ | refine blk_drew ?_ | refine blk_alloc ?_ _)); exact BK283.out) hb); have n3_ := Aside0.mk (below_step (by repeat (first | (with_reducible first | exact HB.out | apply below_alloc | apply pw_below_drewN | apply below_drew1 | refine below_set ?_ GE283.out) | exact HB.out)) hb); clear HO289; clear HO292; clear BK283; clear HB; have HO289 := n0_; have HO292 := n1_; have BK283 := n2_; have HB := n3_; clear n0_ n1_ n2_ n3_; (try clear hb); (try clear hb2); (try clear hk); (try clear hi); have hcz20_0 : w19.cell? ⟨gb283, 0, none⟩ = some (.int .i64 a0_0) := (blk_cell BK283.out 0).trans rfl; have hcz20_1 : w19.cell? ⟨gb283, 1, none⟩ = some (.slice A0_1 l0_1.length c0_1) := (blk_cell BK283.out 1).trans rfl; have hfz20_0 := blk_frozen BK283.out 0; have hfz20_1 := blk_frozen BK283.out 1; obtain ⟨Ao21, co21, eo21⟩ := Kd.R_slice HO292.out; subst eo21) | ((with_reducible refine gate_callee (f := 20) rfl ?_); refine goesL_ (some 41) rfl rfl Try.func20 (by kernel_rfl) rfl #[.agg #[.int .i64 a0_0, .slice A0_1 l0_1.length c0_1], .int .i64 a1, .int .i64 a2, .slice Ao21 t290.length co21] rfl (by (try simp only [List.map_toArray, List.map_cons, List.map_nil]); first | done | rfl | (simp only [List.length_drop, List.length_take]; rfl)) ?_; (with_reducible refine (chargeparkref21_Cut.calls a0_0 _ _ l0_1 a1 a2 _ _ t290 t295 _ ?side1 ?side2 ?side3 ?side4 A9.out).mono ?_); (case side1 => repeat (first | exact (Kd.C_below HR0_1.out HB.out) | (with_reducible refine Kd.C_alloc ?_ _) | (with_reducible refine Kd.C_drewN ?_ _) | (with_reducible refine Kd.C_drew ?_))); (case side2 => exact HC0_1.out); (case side3 => repeat (first | exact (Kd.R_reads' HO292.out).2.2 | (with_reducible refine Kd.C_alloc ?_ _) | (with_reducible refine Kd.C_drewN ?_ _) | (with_reducible refine Kd.C_drew ?_))); (case side4 => exact (Kd.R_reads' HO292.out).2.1); rintro e w22 ⟨rfl, hb⟩; refine ⟨_, rfl, ?_⟩; have n0_ := Aside0.mk (Kd.R_below (by (with_reducible repeat (first | apply Kd.R_alloc | apply Kd.R_drewN | apply Kd.R_drew)); exact HO289.out) hb); have n1_ := Aside0.mk (Kd.R_below (by (with_reducible repeat (first | apply Kd.R_alloc | apply Kd.R_drewN | apply Kd.R_drew)); exact HO292.out) hb); have n2_ := Aside0.mk (blk_below (g := gb283) (o := .cells #[.int .i64 a0_0, .slice A0_1 l0_1.length c0_1] 24 (0, 0)) (by (with_reducible repeat (first | refine blk_drewN ?_ _ | refine blk_drew ?_ | refine blk_alloc ?_ _)); exact BK283.out) hb); have n3_ := Aside0.mk (below_step (by repeat (first | (with_reducible first | exact HB.out | apply below_alloc | apply pw_below_drewN | apply below_drew1 | refine below_set ?_ GE283.out) | exact HB.out)) hb); clear HO289; clear HO292; clear BK283; clear HB; have HO289 := n0_; have HO292 := n1_; have BK283 := n2_; have HB := n3_; clear n0_ n1_ n2_ n3_; (try clear hb); (try clear hb2); (try clear hk); (try clear hi)))
    (try simp only [Act.put, List.setIfInBounds_toArray, List.set_cons_zero, List.set_cons_succ])
    go_cut [51] (fun v51 wc => ∃ (kq : Nat) (x51_9 : Bool), v51 = .bool x51_9 ∧ Aside0 (chargeparklaw21_FlowProof.j0 kq a1 a2 t284 t286 t287 t290 x51_9 a0_0 l0_1 = some r) ∧ Aside0 (kq ≤ k) ∧ Aside0 (Kd.R (Kd.int .i64) 3 wc w.heap.size (fun _ => True) (.slice Ao18 t287.length co18) t287) ∧ Aside0 (Kd.R Kd.bool 4 wc w.heap.size (fun _ => True) (.slice Ao21 t290.length co21) t290) ∧ Aside0 (wc.heap[gb283]? = some (.cells #[.int .i64 a0_0, (.slice A0_1 l0_1.length c0_1)] 24 (0, 0))) ∧ Aside0 (Below w.heap.size w wc))
    case first =>
      have H := HC10.out
      clear HC10
      by_cases c23 : t293 = 0
      · rw [if_pos c23] at H
        have c23b0 : (t293 == 0) = true := beq_iff_eq.mpr c23
        have c23b1 : (t293 != 0) = false := bne_eq_false_iff_eq.mpr c23
        clear c23
        (first | rw [c23b0] | (simp only [i64_w, i32_w]; rw [c23b0]) | skip)
        by_cases c24 : t294 = true
        · subst c24
          have H1 : (chargeparklaw21_FlowProof.j0 k a1 a2 t284 t286 t287 t290 (!t295) a0_0 l0_1) = some r := by rw [if_pos rfl] at H; exact H
          clear H
          have H := H1
          clear H1
          have H' := Aside0.mk H
          clear H
          go_wp2
          go_meet
          case rel => exact ⟨_, (!t295), (by first | rfl | (simp; done) | (simp [*]; done)), H', ⟨by first | omega | exact Nat.le_refl _⟩, ⟨by (with_reducible repeat (first | apply Kd.R_alloc | apply Kd.R_drewN | apply Kd.R_drew)); exact HO289.out⟩, ⟨by (with_reducible repeat (first | apply Kd.R_alloc | apply Kd.R_drewN | apply Kd.R_drew)); exact HO292.out⟩, ⟨by (with_reducible repeat (first | refine blk_drewN ?_ _ | refine blk_drew ?_ | refine blk_alloc ?_ _)); exact BK283.out⟩, ⟨by repeat (first | (with_reducible first | exact HB.out | apply below_alloc | apply pw_below_drewN | apply below_drew1 | refine below_set ?_ GE283.out) | exact HB.out)⟩⟩
        · replace c24 := Bool.eq_false_iff.mpr c24
          subst c24
          have H1 : (chargeparklaw21_FlowProof.j0 k a1 a2 t284 t286 t287 t290 true a0_0 l0_1) = some r := by rw [if_neg (show ¬ (false = true) by decide)] at H; exact H
          clear H
          have H := H1
          clear H1
          have H' := Aside0.mk H
          clear H
          go_wp2
          go_meet
          case rel => exact ⟨_, (true), (by first | rfl | (simp; done) | (simp [*]; done)), H', ⟨by first | omega | exact Nat.le_refl _⟩, ⟨by (with_reducible repeat (first | apply Kd.R_alloc | apply Kd.R_drewN | apply Kd.R_drew)); exact HO289.out⟩, ⟨by (with_reducible repeat (first | apply Kd.R_alloc | apply Kd.R_drewN | apply Kd.R_drew)); exact HO292.out⟩, ⟨by (with_reducible repeat (first | refine blk_drewN ?_ _ | refine blk_drew ?_ | refine blk_alloc ?_ _)); exact BK283.out⟩, ⟨by repeat (first | (with_reducible first | exact HB.out | apply below_alloc | apply pw_below_drewN | apply below_drew1 | refine below_set ?_ GE283.out) | exact HB.out)⟩⟩
      · rw [if_neg c23] at H
        have c23b0 : (t293 == 0) = false := beq_eq_false_iff_ne.mpr c23
        have c23b1 : (t293 != 0) = true := bne_iff_ne.mpr c23
        (first | rw [c23b0] | (simp only [i64_w, i32_w]; rw [c23b0]) | skip)
        have H' := Aside0.mk H
        clear H
        go_wp2
        go_meet
        case rel => exact ⟨_, (true), (by first | rfl | (simp; done) | (simp [*]; done)), H', ⟨by first | omega | exact Nat.le_refl _⟩, ⟨by (with_reducible repeat (first | apply Kd.R_alloc | apply Kd.R_drewN | apply Kd.R_drew)); exact HO289.out⟩, ⟨by (with_reducible repeat (first | apply Kd.R_alloc | apply Kd.R_drewN | apply Kd.R_drew)); exact HO292.out⟩, ⟨by (with_reducible repeat (first | refine blk_drewN ?_ _ | refine blk_drew ?_ | refine blk_alloc ?_ _)); exact BK283.out⟩, ⟨by repeat (first | (with_reducible first | exact HB.out | apply below_alloc | apply pw_below_drewN | apply below_drew1 | refine below_set ?_ GE283.out) | exact HB.out)⟩⟩
    case rest =>
      clear HC10
      try clear c1
      try clear c2
      try clear p2
      try clear c4
      try clear c6
      try clear c10
      try clear c14
      try clear c18
      try clear c19
      try clear c20
      try clear c23
      try clear c23b0
      try clear c23b1
      try clear c24
      try clear hcz13_0
      try clear hcz13_1
      try clear hcz15_0
      try clear hcz15_1
      try clear hcz17_0
      try clear hcz17_1
      try clear hcz20_0
      try clear hcz20_1
      try clear hfz13_0
      try clear hfz13_1
      try clear hfz15_0
      try clear hfz15_1
      try clear hfz17_0
      try clear hfz17_1
      try clear hfz20_0
      try clear hfz20_1
      obtain ⟨kq, x51_9, rfl, HA, HJ9, HO_10, HO_11, BK283, HB⟩ := hcut
      cases kq with
      | zero => exact absurd HA.out (by simp [chargeparklaw21_FlowProof.j0])
      | succ kj9 =>
        have H := HA.out
        clear HA
        simp only [chargeparklaw21_FlowProof.j0] at H
        by_cases c25 : x51_9 = true
        · subst c25
          have H1 : (some false) = some r := by rw [if_pos rfl] at H; exact H
          clear H
          have H := H1
          clear H1
          obtain rfl := Option.some.inj H
          go_wp2
          go_ret
          exact ⟨by first | rfl | (simp [errW_none, errW_some] <;> rfl) | (simp [*, errW_none, errW_some] <;> rfl), by repeat (first | (with_reducible first | exact HB.out | apply below_alloc | apply pw_below_drewN | apply below_drew1 | refine below_set ?_ GE283.out) | exact HB.out)⟩
        · replace c25 := Bool.eq_false_iff.mpr c25
          subst c25
          have H1 : (if t284 = true then ((chargeparkref21_Amount.f kj9 a0_0 l0_1 a1 t287).bind fun t296 => (if t286 = t296 then ((chargeparkref21_Capacity.f kj9 a0_0 l0_1 t290).bind fun t297 => (if t286 = t297 then ((flow_Check.f kj9 a0_0 l0_1 a1 a2 t287 t290).bind fun t298 => (some t298)) else (some false))) else (some false))) else (some false)) = some r := by rw [if_neg (show ¬ (false = true) by decide)] at H; exact H
          clear H
          have H := H1
          clear H1
          by_cases c26 : t284 = true
          · subst c26
            have H1 : ((chargeparkref21_Amount.f kj9 a0_0 l0_1 a1 t287).bind fun t296 => (if t286 = t296 then ((chargeparkref21_Capacity.f kj9 a0_0 l0_1 t290).bind fun t297 => (if t286 = t297 then ((flow_Check.f kj9 a0_0 l0_1 a1 a2 t287 t290).bind fun t298 => (some t298)) else (some false))) else (some false))) = some r := by rw [if_pos rfl] at H; exact H
            clear H
            have H := H1
            clear H1
            replace H := Option.bind_eq_some_iff.mp H
            obtain ⟨t296, A270, H⟩ := H
            replace H : (if t286 = t296 then ((chargeparkref21_Capacity.f kj9 a0_0 l0_1 t290).bind fun t297 => (if t286 = t297 then ((flow_Check.f kj9 a0_0 l0_1 a1 a2 t287 t290).bind fun t298 => (some t298)) else (some false))) else (some false)) = some r := H
            have A27 := Aside0.mk A270
            clear A270
            by_cases c28 : t286 = t296
            · rw [if_pos c28] at H
              have c28b0 : (t286 == t296) = true := beq_iff_eq.mpr c28
              have c28b1 : (t286 != t296) = false := bne_eq_false_iff_eq.mpr c28
              clear c28
              replace H := Option.bind_eq_some_iff.mp H
              obtain ⟨t297, A290, H⟩ := H
              replace H : (if t286 = t297 then ((flow_Check.f kj9 a0_0 l0_1 a1 a2 t287 t290).bind fun t298 => (some t298)) else (some false)) = some r := H
              have A29 := Aside0.mk A290
              clear A290
              by_cases c30 : t286 = t297
              · rw [if_pos c30] at H
                have c30b0 : (t286 == t297) = true := beq_iff_eq.mpr c30
                have c30b1 : (t286 != t297) = false := bne_eq_false_iff_eq.mpr c30
                clear c30
                replace H := Option.bind_eq_some_iff.mp H
                obtain ⟨t298, A310, H⟩ := H
                replace H : (some t298) = some r := H
                have A31 := Aside0.mk A310
                clear A310
                obtain rfl := Option.some.inj H
                have hcz32_0 : wc.cell? ⟨gb283, 0, none⟩ = some (.int .i64 a0_0) := (blk_cell BK283.out 0).trans rfl
                have hcz32_1 : wc.cell? ⟨gb283, 1, none⟩ = some (.slice A0_1 l0_1.length c0_1) := (blk_cell BK283.out 1).trans rfl
                have hfz32_0 := blk_frozen BK283.out 0
                have hfz32_1 := blk_frozen BK283.out 1
                go_wp2_with (first | (go_at_call 21; (with_reducible refine (chargeparkref21_Amount.calls kj9 a0_0 _ _ l0_1 a1 _ _ t287 t296 _ ?side1 ?side2 ?side3 ?side4 A27.out).mono ?_); (case side1 => repeat (first | exact (Kd.C_below HR0_1.out HB.out) | (with_reducible refine Kd.C_alloc ?_ _) | (with_reducible refine Kd.C_drewN ?_ _) | (with_reducible refine Kd.C_drew ?_))); (case side2 => exact HC0_1.out); (case side3 => repeat (first | exact (Kd.R_reads' HO_10.out).2.2 | (with_reducible refine Kd.C_alloc ?_ _) | (with_reducible refine Kd.C_drewN ?_ _) | (with_reducible refine Kd.C_drew ?_))); (case side4 => exact (Kd.R_reads' HO_10.out).2.1); rintro e w33 ⟨rfl, hb⟩; have n0_ := Aside0.mk (Kd.R_below (by (with_reducible repeat (first | apply Kd.R_alloc | apply Kd.R_drewN | apply Kd.R_drew)); exact HO_10.out) hb); have n1_ := Aside0.mk (Kd.R_below (by (with_reducible repeat (first | apply Kd.R_alloc | apply Kd.R_drewN | apply Kd.R_drew)); exact HO_11.out) hb); have n2_ := Aside0.mk (blk_below (g := gb283) (o := .cells #[.int .i64 a0_0, .slice A0_1 l0_1.length c0_1] 24 (0, 0)) (by (with_reducible repeat (first | refine blk_drewN ?_ _ | refine blk_drew ?_ | refine blk_alloc ?_ _)); exact BK283.out) hb); have n3_ := Aside0.mk (below_step (by repeat (first | (with_reducible first | exact HB.out | apply below_alloc | apply pw_below_drewN | apply below_drew1 | refine below_set ?_ GE283.out) | exact HB.out)) hb); clear HO_10; clear HO_11; clear BK283; clear HB; have HO_10 := n0_; have HO_11 := n1_; have BK283 := n2_; have HB := n3_; clear n0_ n1_ n2_ n3_; (try clear hb); (try clear hb2); (try clear hk); (try clear hi); have hcz34_0 : w33.cell? ⟨gb283, 0, none⟩ = some (.int .i64 a0_0) := (blk_cell BK283.out 0).trans rfl; have hcz34_1 : w33.cell? ⟨gb283, 1, none⟩ = some (.slice A0_1 l0_1.length c0_1) := (blk_cell BK283.out 1).trans rfl; have hfz34_0 := blk_frozen BK283.out 0; have hfz34_1 := blk_frozen BK283.out 1) | (go_at_call 22; (with_reducible refine (chargeparkref21_Capacity.calls kj9 a0_0 _ _ l0_1 _ _ t290 t297 _ ?side1 ?side2 ?side3 ?side4 A29.out).mono ?_); (case side1 => repeat (first | exact (Kd.C_below HR0_1.out HB.out) | (with_reducible refine Kd.C_alloc ?_ _) | (with_reducible refine Kd.C_drewN ?_ _) | (with_reducible refine Kd.C_drew ?_))); (case side2 => exact HC0_1.out); (case side3 => repeat (first | exact (Kd.R_reads' HO_11.out).2.2 | (with_reducible refine Kd.C_alloc ?_ _) | (with_reducible refine Kd.C_drewN ?_ _) | (with_reducible refine Kd.C_drew ?_))); (case side4 => exact (Kd.R_reads' HO_11.out).2.1); rintro e w35 ⟨rfl, hb⟩; have n0_ := Aside0.mk (Kd.R_below (by (with_reducible repeat (first | apply Kd.R_alloc | apply Kd.R_drewN | apply Kd.R_drew)); exact HO_10.out) hb); have n1_ := Aside0.mk (Kd.R_below (by (with_reducible repeat (first | apply Kd.R_alloc | apply Kd.R_drewN | apply Kd.R_drew)); exact HO_11.out) hb); have n2_ := Aside0.mk (blk_below (g := gb283) (o := .cells #[.int .i64 a0_0, .slice A0_1 l0_1.length c0_1] 24 (0, 0)) (by (with_reducible repeat (first | refine blk_drewN ?_ _ | refine blk_drew ?_ | refine blk_alloc ?_ _)); exact BK283.out) hb); have n3_ := Aside0.mk (below_step (by repeat (first | (with_reducible first | exact HB.out | apply below_alloc | apply pw_below_drewN | apply below_drew1 | refine below_set ?_ GE283.out) | exact HB.out)) hb); clear HO_10; clear HO_11; clear BK283; clear HB; have HO_10 := n0_; have HO_11 := n1_; have BK283 := n2_; have HB := n3_; clear n0_ n1_ n2_ n3_; (try clear hb); (try clear hb2); (try clear hk); (try clear hi); have hcz36_0 : w35.cell? ⟨gb283, 0, none⟩ = some (.int .i64 a0_0) := (blk_cell BK283.out 0).trans rfl; have hcz36_1 : w35.cell? ⟨gb283, 1, none⟩ = some (.slice A0_1 l0_1.length c0_1) := (blk_cell BK283.out 1).trans rfl; have hfz36_0 := blk_frozen BK283.out 0; have hfz36_1 := blk_frozen BK283.out 1) | (go_at_call 17; (with_reducible refine (flow_Check.calls kj9 a0_0 _ _ l0_1 a1 a2 _ _ t287 _ _ t290 t298 _ ?side1 ?side2 ?side3 ?side4 ?side5 ?side6 A31.out).mono ?_); (case side1 => repeat (first | exact (Kd.C_below HR0_1.out HB.out) | (with_reducible refine Kd.C_alloc ?_ _) | (with_reducible refine Kd.C_drewN ?_ _) | (with_reducible refine Kd.C_drew ?_))); (case side2 => exact HC0_1.out); (case side3 => repeat (first | exact (Kd.R_reads' HO_10.out).2.2 | (with_reducible refine Kd.C_alloc ?_ _) | (with_reducible refine Kd.C_drewN ?_ _) | (with_reducible refine Kd.C_drew ?_))); (case side4 => exact (Kd.R_reads' HO_10.out).2.1); (case side5 => repeat (first | exact (Kd.R_reads' HO_11.out).2.2 | (with_reducible refine Kd.C_alloc ?_ _) | (with_reducible refine Kd.C_drewN ?_ _) | (with_reducible refine Kd.C_drew ?_))); (case side6 => exact (Kd.R_reads' HO_11.out).2.1); rintro e w37 ⟨rfl, hb⟩; have n0_ := Aside0.mk (Kd.R_below (by (with_reducible repeat (first | apply Kd.R_alloc | apply Kd.R_drewN | apply Kd.R_drew)); exact HO_10.out) hb); have n1_ := Aside0.mk (Kd.R_below (by (with_reducible repeat (first | apply Kd.R_alloc | apply Kd.R_drewN | apply Kd.R_drew)); exact HO_11.out) hb); have n2_ := Aside0.mk (blk_below (g := gb283) (o := .cells #[.int .i64 a0_0, .slice A0_1 l0_1.length c0_1] 24 (0, 0)) (by (with_reducible repeat (first | refine blk_drewN ?_ _ | refine blk_drew ?_ | refine blk_alloc ?_ _)); exact BK283.out) hb); have n3_ := Aside0.mk (below_step (by repeat (first | (with_reducible first | exact HB.out | apply below_alloc | apply pw_below_drewN | apply below_drew1 | refine below_set ?_ GE283.out) | exact HB.out)) hb); clear HO_10; clear HO_11; clear BK283; clear HB; have HO_10 := n0_; have HO_11 := n1_; have BK283 := n2_; have HB := n3_; clear n0_ n1_ n2_ n3_; (try clear hb); (try clear hb2); (try clear hk); (try clear hi)))
                go_ret
                exact ⟨by first | rfl | (simp [errW_none, errW_some] <;> rfl) | (simp [*, errW_none, errW_some] <;> rfl), by repeat (first | (with_reducible first | exact HB.out | apply below_alloc | apply pw_below_drewN | apply below_drew1 | refine below_set ?_ GE283.out) | exact HB.out)⟩
              · rw [if_neg c30] at H
                have c30b0 : (t286 == t297) = false := beq_eq_false_iff_ne.mpr c30
                have c30b1 : (t286 != t297) = true := bne_iff_ne.mpr c30
                obtain rfl := Option.some.inj H
                have hcz38_0 : wc.cell? ⟨gb283, 0, none⟩ = some (.int .i64 a0_0) := (blk_cell BK283.out 0).trans rfl
                have hcz38_1 : wc.cell? ⟨gb283, 1, none⟩ = some (.slice A0_1 l0_1.length c0_1) := (blk_cell BK283.out 1).trans rfl
                have hfz38_0 := blk_frozen BK283.out 0
                have hfz38_1 := blk_frozen BK283.out 1
                go_wp2_with (first | (go_at_call 21; (with_reducible refine (chargeparkref21_Amount.calls kj9 a0_0 _ _ l0_1 a1 _ _ t287 t296 _ ?side1 ?side2 ?side3 ?side4 A27.out).mono ?_); (case side1 => repeat (first | exact (Kd.C_below HR0_1.out HB.out) | (with_reducible refine Kd.C_alloc ?_ _) | (with_reducible refine Kd.C_drewN ?_ _) | (with_reducible refine Kd.C_drew ?_))); (case side2 => exact HC0_1.out); (case side3 => repeat (first | exact (Kd.R_reads' HO_10.out).2.2 | (with_reducible refine Kd.C_alloc ?_ _) | (with_reducible refine Kd.C_drewN ?_ _) | (with_reducible refine Kd.C_drew ?_))); (case side4 => exact (Kd.R_reads' HO_10.out).2.1); rintro e w39 ⟨rfl, hb⟩; have n0_ := Aside0.mk (Kd.R_below (by (with_reducible repeat (first | apply Kd.R_alloc | apply Kd.R_drewN | apply Kd.R_drew)); exact HO_10.out) hb); have n1_ := Aside0.mk (Kd.R_below (by (with_reducible repeat (first | apply Kd.R_alloc | apply Kd.R_drewN | apply Kd.R_drew)); exact HO_11.out) hb); have n2_ := Aside0.mk (blk_below (g := gb283) (o := .cells #[.int .i64 a0_0, .slice A0_1 l0_1.length c0_1] 24 (0, 0)) (by (with_reducible repeat (first | refine blk_drewN ?_ _ | refine blk_drew ?_ | refine blk_alloc ?_ _)); exact BK283.out) hb); have n3_ := Aside0.mk (below_step (by repeat (first | (with_reducible first | exact HB.out | apply below_alloc | apply pw_below_drewN | apply below_drew1 | refine below_set ?_ GE283.out) | exact HB.out)) hb); clear HO_10; clear HO_11; clear BK283; clear HB; have HO_10 := n0_; have HO_11 := n1_; have BK283 := n2_; have HB := n3_; clear n0_ n1_ n2_ n3_; (try clear hb); (try clear hb2); (try clear hk); (try clear hi); have hcz40_0 : w39.cell? ⟨gb283, 0, none⟩ = some (.int .i64 a0_0) := (blk_cell BK283.out 0).trans rfl; have hcz40_1 : w39.cell? ⟨gb283, 1, none⟩ = some (.slice A0_1 l0_1.length c0_1) := (blk_cell BK283.out 1).trans rfl; have hfz40_0 := blk_frozen BK283.out 0; have hfz40_1 := blk_frozen BK283.out 1) | (go_at_call 22; (with_reducible refine (chargeparkref21_Capacity.calls kj9 a0_0 _ _ l0_1 _ _ t290 t297 _ ?side1 ?side2 ?side3 ?side4 A29.out).mono ?_); (case side1 => repeat (first | exact (Kd.C_below HR0_1.out HB.out) | (with_reducible refine Kd.C_alloc ?_ _) | (with_reducible refine Kd.C_drewN ?_ _) | (with_reducible refine Kd.C_drew ?_))); (case side2 => exact HC0_1.out); (case side3 => repeat (first | exact (Kd.R_reads' HO_11.out).2.2 | (with_reducible refine Kd.C_alloc ?_ _) | (with_reducible refine Kd.C_drewN ?_ _) | (with_reducible refine Kd.C_drew ?_))); (case side4 => exact (Kd.R_reads' HO_11.out).2.1); rintro e w41 ⟨rfl, hb⟩; have n0_ := Aside0.mk (Kd.R_below (by (with_reducible repeat (first | apply Kd.R_alloc | apply Kd.R_drewN | apply Kd.R_drew)); exact HO_10.out) hb); have n1_ := Aside0.mk (Kd.R_below (by (with_reducible repeat (first | apply Kd.R_alloc | apply Kd.R_drewN | apply Kd.R_drew)); exact HO_11.out) hb); have n2_ := Aside0.mk (blk_below (g := gb283) (o := .cells #[.int .i64 a0_0, .slice A0_1 l0_1.length c0_1] 24 (0, 0)) (by (with_reducible repeat (first | refine blk_drewN ?_ _ | refine blk_drew ?_ | refine blk_alloc ?_ _)); exact BK283.out) hb); have n3_ := Aside0.mk (below_step (by repeat (first | (with_reducible first | exact HB.out | apply below_alloc | apply pw_below_drewN | apply below_drew1 | refine below_set ?_ GE283.out) | exact HB.out)) hb); clear HO_10; clear HO_11; clear BK283; clear HB; have HO_10 := n0_; have HO_11 := n1_; have BK283 := n2_; have HB := n3_; clear n0_ n1_ n2_ n3_; (try clear hb); (try clear hb2); (try clear hk); (try clear hi)))
                go_ret
                exact ⟨by first | rfl | (simp [errW_none, errW_some] <;> rfl) | (simp [*, errW_none, errW_some] <;> rfl), by repeat (first | (with_reducible first | exact HB.out | apply below_alloc | apply pw_below_drewN | apply below_drew1 | refine below_set ?_ GE283.out) | exact HB.out)⟩
            · rw [if_neg c28] at H
              have c28b0 : (t286 == t296) = false := beq_eq_false_iff_ne.mpr c28
              have c28b1 : (t286 != t296) = true := bne_iff_ne.mpr c28
              obtain rfl := Option.some.inj H
              have hcz42_0 : wc.cell? ⟨gb283, 0, none⟩ = some (.int .i64 a0_0) := (blk_cell BK283.out 0).trans rfl
              have hcz42_1 : wc.cell? ⟨gb283, 1, none⟩ = some (.slice A0_1 l0_1.length c0_1) := (blk_cell BK283.out 1).trans rfl
              have hfz42_0 := blk_frozen BK283.out 0
              have hfz42_1 := blk_frozen BK283.out 1
              go_wp2_with (first | (go_at_call 21; (with_reducible refine (chargeparkref21_Amount.calls kj9 a0_0 _ _ l0_1 a1 _ _ t287 t296 _ ?side1 ?side2 ?side3 ?side4 A27.out).mono ?_); (case side1 => repeat (first | exact (Kd.C_below HR0_1.out HB.out) | (with_reducible refine Kd.C_alloc ?_ _) | (with_reducible refine Kd.C_drewN ?_ _) | (with_reducible refine Kd.C_drew ?_))); (case side2 => exact HC0_1.out); (case side3 => repeat (first | exact (Kd.R_reads' HO_10.out).2.2 | (with_reducible refine Kd.C_alloc ?_ _) | (with_reducible refine Kd.C_drewN ?_ _) | (with_reducible refine Kd.C_drew ?_))); (case side4 => exact (Kd.R_reads' HO_10.out).2.1); rintro e w43 ⟨rfl, hb⟩; have n0_ := Aside0.mk (Kd.R_below (by (with_reducible repeat (first | apply Kd.R_alloc | apply Kd.R_drewN | apply Kd.R_drew)); exact HO_10.out) hb); have n1_ := Aside0.mk (Kd.R_below (by (with_reducible repeat (first | apply Kd.R_alloc | apply Kd.R_drewN | apply Kd.R_drew)); exact HO_11.out) hb); have n2_ := Aside0.mk (blk_below (g := gb283) (o := .cells #[.int .i64 a0_0, .slice A0_1 l0_1.length c0_1] 24 (0, 0)) (by (with_reducible repeat (first | refine blk_drewN ?_ _ | refine blk_drew ?_ | refine blk_alloc ?_ _)); exact BK283.out) hb); have n3_ := Aside0.mk (below_step (by repeat (first | (with_reducible first | exact HB.out | apply below_alloc | apply pw_below_drewN | apply below_drew1 | refine below_set ?_ GE283.out) | exact HB.out)) hb); clear HO_10; clear HO_11; clear BK283; clear HB; have HO_10 := n0_; have HO_11 := n1_; have BK283 := n2_; have HB := n3_; clear n0_ n1_ n2_ n3_; (try clear hb); (try clear hb2); (try clear hk); (try clear hi)))
              go_ret
              exact ⟨by first | rfl | (simp [errW_none, errW_some] <;> rfl) | (simp [*, errW_none, errW_some] <;> rfl), by repeat (first | (with_reducible first | exact HB.out | apply below_alloc | apply pw_below_drewN | apply below_drew1 | refine below_set ?_ GE283.out) | exact HB.out)⟩
          · replace c26 := Bool.eq_false_iff.mpr c26
            subst c26
            have H1 : (some false) = some r := by rw [if_neg (show ¬ (false = true) by decide)] at H; exact H
            clear H
            have H := H1
            clear H1
            obtain rfl := Option.some.inj H
            go_wp2
            go_ret
            exact ⟨by first | rfl | (simp [errW_none, errW_some] <;> rfl) | (simp [*, errW_none, errW_some] <;> rfl), by repeat (first | (with_reducible first | exact HB.out | apply below_alloc | apply pw_below_drewN | apply below_drew1 | refine below_set ?_ GE283.out) | exact HB.out)⟩
  · replace c6 := Bool.eq_false_iff.mpr c6
    subst c6
    have H1 : (some t284) = some r := by rw [if_neg (show ¬ (false = true) by decide)] at H; exact H
    clear H
    have H := H1
    clear H1
    obtain rfl := Option.some.inj H
    go_enter Try.func4, Try.ntmps4
    go_wp2_with (first | ((with_reducible refine gate_dst (N := 3) rfl ?_); refine box_event ?hg (N := 3) ?hd (cs := #[.int .i64 a0_0, .slice A0_1 l0_1.length c0_1]) (t := 24) ?hr ?_; (case hd => rfl); (case hg => rfl); (case hr => first | (go_simp; done) | (go_simp; rfl)); intro gb283 hg w44 hbox hb; have n0_ := Aside0.mk (below_step (by repeat (first | (with_reducible first | exact HB.out | apply below_alloc | apply pw_below_drewN | apply below_drew1) | exact HB.out)) hb); have n1_ := Aside0.mk (hbox); have n2_ := Aside0.mk ((by rw [hg]; exact (below_size (by repeat (first | (with_reducible first | exact HB.out | apply below_alloc | apply pw_below_drewN | apply below_drew1) | exact HB.out))) : w.heap.size ≤ gb283)); have n3_ := Aside0.mk ((by rw [hg]; exact (below_size (by repeat (first | (with_reducible first | exact HB.out | apply below_alloc | apply pw_below_drewN | apply below_drew1) | exact HB.out))) : w.heap.size ≤ gb283)); clear HB; have HB := n0_; have BK283 := n1_; have GW283 := n2_; have GE283 := n3_; clear n0_ n1_ n2_ n3_; clear hb hbox hg) | ((with_reducible refine gate_callee (f := 10) rfl ?_); refine goesL_ (some 15) rfl rfl Try.func10 (by kernel_rfl) rfl #[] rfl (by (try simp only [List.map_toArray, List.map_cons, List.map_nil]); first | done | rfl | (simp only [List.length_drop, List.length_take]; rfl)) ?_; (with_reducible refine (chargeparklaw21_head.calls k  t284 _ A4.out).mono ?_); rintro e w45 ⟨rfl, hb⟩; refine ⟨_, rfl, ?_⟩; have n0_ := Aside0.mk (blk_below (g := gb283) (o := .cells #[.int .i64 a0_0, .slice A0_1 l0_1.length c0_1] 24 (0, 0)) (by (with_reducible repeat (first | refine blk_drewN ?_ _ | refine blk_drew ?_ | refine blk_alloc ?_ _)); exact BK283.out) hb); have n1_ := Aside0.mk (below_step (by repeat (first | (with_reducible first | exact HB.out | apply below_alloc | apply pw_below_drewN | apply below_drew1 | refine below_set ?_ GE283.out) | exact HB.out)) hb); clear BK283; clear HB; have BK283 := n0_; have HB := n1_; clear n0_ n1_; (try clear hb); (try clear hb2); (try clear hk); (try clear hi); have hcz46_0 : w45.cell? ⟨gb283, 0, none⟩ = some (.int .i64 a0_0) := (blk_cell BK283.out 0).trans rfl; have hcz46_1 : w45.cell? ⟨gb283, 1, none⟩ = some (.slice A0_1 l0_1.length c0_1) := (blk_cell BK283.out 1).trans rfl; have hfz46_0 := blk_frozen BK283.out 0; have hfz46_1 := blk_frozen BK283.out 1) | ((with_reducible refine gate_callee (f := 18) rfl ?_); refine goesL_ (some 19) rfl rfl Try.func18 (by kernel_rfl) rfl #[.agg #[.int .i64 a0_0, .slice A0_1 l0_1.length c0_1], .int .i64 a1, .int .i64 a2] rfl (by (try simp only [List.map_toArray, List.map_cons, List.map_nil]); first | done | rfl | (simp only [List.length_drop, List.length_take]; rfl)) ?_; (with_reducible refine (chargeparkref21_Ends.calls k a0_0 _ _ l0_1 a1 a2 false _ ?side1 ?side2 A5.out).mono ?_); (case side1 => repeat (first | exact (Kd.C_below HR0_1.out HB.out) | (with_reducible refine Kd.C_alloc ?_ _) | (with_reducible refine Kd.C_drewN ?_ _) | (with_reducible refine Kd.C_drew ?_))); (case side2 => exact HC0_1.out); rintro e w47 ⟨rfl, hb⟩; refine ⟨_, rfl, ?_⟩; have n0_ := Aside0.mk (blk_below (g := gb283) (o := .cells #[.int .i64 a0_0, .slice A0_1 l0_1.length c0_1] 24 (0, 0)) (by (with_reducible repeat (first | refine blk_drewN ?_ _ | refine blk_drew ?_ | refine blk_alloc ?_ _)); exact BK283.out) hb); have n1_ := Aside0.mk (below_step (by repeat (first | (with_reducible first | exact HB.out | apply below_alloc | apply pw_below_drewN | apply below_drew1 | refine below_set ?_ GE283.out) | exact HB.out)) hb); clear BK283; clear HB; have BK283 := n0_; have HB := n1_; clear n0_ n1_; (try clear hb); (try clear hb2); (try clear hk); (try clear hi)))
    go_ret
    exact ⟨by first | rfl | (simp [errW_none, errW_some] <;> rfl) | (simp [*, errW_none, errW_some] <;> rfl), by repeat (first | (with_reducible first | exact HB.out | apply below_alloc | apply pw_below_drewN | apply below_drew1 | refine below_set ?_ GE283.out) | exact HB.out)⟩

end Go.Proofs.Ytfjbbmgnfpeogaa.Pr
