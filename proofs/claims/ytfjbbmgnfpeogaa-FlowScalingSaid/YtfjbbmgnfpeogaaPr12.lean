-- Written by a program of this session over the kit's print.
import Derived.Test.YtfjbbmgnfpeogaaPr0
import Derived.Test.YtfjbbmgnfpeogaaPr4
import Derived.Test.YtfjbbmgnfpeogaaPr5
import Derived.Test.YtfjbbmgnfpeogaaMost
namespace Go.Proofs.Ytfjbbmgnfpeogaa.Pr
open Go.RowKit Go.Proofs.YtfjbbmgnfpeogaaW.PrintWords Go.Proofs.YtfjbbmgnfpeogaaW.PrintLast Go.Proofs.YtfjbbmgnfpeogaaW.PrintMore
attribute [local go_sem] max2_int min2_int max_two min_two max_three min_three max_four min_four   -- for this text's walks alone
set_option linter.unusedVariables false
set_option linter.unusedSimpArgs false

/-! ### chargeparklaw21_FlowScaling: function 8 -/
mutual
def chargeparklaw21_FlowScaling.j0 : Nat → Int → Int → Int → Bool → Bool → Int → List (S39) → Option (Bool)
  | 0, _, _, _, _, _, _, _ => none
  | k + 1, x1, x2, x3, x9, x32, x358000, x358001 => if x32 = true then (some x9) else (chargeparklaw21_FlowScaling.l0 k x1 x2 x3 x9 ([] : List (S39)) 0 x358000 x358001)
def chargeparklaw21_FlowScaling.l0 : Nat → Int → Int → Int → Bool → List (S39) → Int → Int → List (S39) → Option (Bool)
  | 0, _, _, _, _, _, _, _, _ => none
  | k + 1, x1, x2, x3, x9, x10, x11, x358000, x358001 => if x11 < (x358001.length : Int) then (if 0 ≤ x11 then (if ((rd_T39 x358001 x11).f2) > 1000000 then (some x9) else (if ((rd_T39 x358001 x11).f2) < 0 then (some x9) else (if x10.length < 5864062014805 then (chargeparklaw21_FlowScaling.l0 k x1 x2 x3 x9 (x10 ++ [(⟨(rd_T39 x358001 x11).f0, (rd_T39 x358001 x11).f1, wrap64 (x3 * ((rd_T39 x358001 x11).f2))⟩ : S39)]) (wrap64 (x11 + 1)) x358000 x358001) else (none)))) else (none)) else ((flow_Most.f x358000 x358001 x1 x2).bind fun bt365 => ((flow_Most.f x358000 x10 x1 x2).bind fun bt373 => (if x9 = true then (if bt365.2.2.2 = 0 then (if bt373.2.2.2 = 0 then (some (bt373.1 == (wrap64 (x3 * bt365.1)))) else (some true)) else (some true)) else (some false))))
end
def chargeparklaw21_FlowScaling.f (k : Nat) (a0_0 : Int) (l0_1 : List (S39)) (a1 : Int) (a2 : Int) (a3 : Int) : Option (Bool) := (chargeparklaw21_head.f k).bind fun t358 => (if a3 < 0 then (chargeparklaw21_FlowScaling.j0 k a1 a2 a3 t358 true a0_0 l0_1) else (if a3 > 1000 then (chargeparklaw21_FlowScaling.j0 k a1 a2 a3 t358 true a0_0 l0_1) else ((chargeparklaw21_few.f a0_0 l0_1).bind fun t359 => (chargeparklaw21_FlowScaling.j0 k a1 a2 a3 t358 (!t359) a0_0 l0_1))))
theorem chargeparklaw21_FlowScaling.mono_l : ∀ k, (∀ y0 y1 y2 y3 y4 y5 y6, LeO (chargeparklaw21_FlowScaling.j0 k y0 y1 y2 y3 y4 y5 y6) (chargeparklaw21_FlowScaling.j0 (k + 1) y0 y1 y2 y3 y4 y5 y6)) ∧ (∀ y0 y1 y2 y3 y4 y5 y6 y7, LeO (chargeparklaw21_FlowScaling.l0 k y0 y1 y2 y3 y4 y5 y6 y7) (chargeparklaw21_FlowScaling.l0 (k + 1) y0 y1 y2 y3 y4 y5 y6 y7))
  | 0 => ⟨fun _ _ _ _ _ _ _ r h => by simp [chargeparklaw21_FlowScaling.j0] at h, fun _ _ _ _ _ _ _ _ r h => by simp [chargeparklaw21_FlowScaling.l0] at h⟩
  | k + 1 => by
    obtain ⟨ih0, ih1⟩ := chargeparklaw21_FlowScaling.mono_l k
    refine ⟨?_, ?_⟩
    · intro y0 y1 y2 y3 y4 y5 y6
      unfold chargeparklaw21_FlowScaling.j0
      repeat' first
      | (with_reducible exact ih0 _ _ _ _ _ _ _)
      | (with_reducible exact ih1 _ _ _ _ _ _ _ _)
      | (with_reducible exact chargeparklaw21_head.mono _)
      | (with_reducible exact LeO.refl _)
      | (with_reducible exact LeO.none _)
      | (with_reducible refine LeO.ite ?_ ?_)
      | (with_reducible refine LeO.bind ?_ (fun _ => ?_))
      | exact ih0 _ _ _ _ _ _ _
      | exact ih1 _ _ _ _ _ _ _ _
      | exact chargeparklaw21_head.mono _
      | exact LeO.none _
      | refine LeO.ite ?_ ?_
      | refine LeO.bind ?_ (fun _ => ?_)
    · intro y0 y1 y2 y3 y4 y5 y6 y7
      unfold chargeparklaw21_FlowScaling.l0
      repeat' first
      | (with_reducible exact ih0 _ _ _ _ _ _ _)
      | (with_reducible exact ih1 _ _ _ _ _ _ _ _)
      | (with_reducible exact chargeparklaw21_head.mono _)
      | (with_reducible exact LeO.refl _)
      | (with_reducible exact LeO.none _)
      | (with_reducible refine LeO.ite ?_ ?_)
      | (with_reducible refine LeO.bind ?_ (fun _ => ?_))
      | exact ih0 _ _ _ _ _ _ _
      | exact ih1 _ _ _ _ _ _ _ _
      | exact chargeparklaw21_head.mono _
      | exact LeO.none _
      | refine LeO.ite ?_ ?_
      | refine LeO.bind ?_ (fun _ => ?_)
theorem chargeparklaw21_FlowScaling.mono : ∀ a0 a1 a2 a3 a4 k, LeO (chargeparklaw21_FlowScaling.f k a0 a1 a2 a3 a4) (chargeparklaw21_FlowScaling.f (k + 1) a0 a1 a2 a3 a4) := by
  intro a0 a1 a2 a3 a4 k
  obtain ⟨ih0, ih1⟩ := chargeparklaw21_FlowScaling.mono_l k
  unfold chargeparklaw21_FlowScaling.f
  repeat' first
      | (with_reducible exact ih0 _ _ _ _ _ _ _)
      | (with_reducible exact ih1 _ _ _ _ _ _ _ _)
      | (with_reducible exact chargeparklaw21_head.mono _)
      | (with_reducible exact LeO.refl _)
      | (with_reducible exact LeO.none _)
      | (with_reducible refine LeO.ite ?_ ?_)
      | (with_reducible refine LeO.bind ?_ (fun _ => ?_))
      | exact ih0 _ _ _ _ _ _ _
      | exact ih1 _ _ _ _ _ _ _ _
      | exact chargeparklaw21_head.mono _
      | exact LeO.none _
      | refine LeO.ite ?_ ?_
      | refine LeO.bind ?_ (fun _ => ?_)
set_option maxHeartbeats 8000000 in
set_option maxRecDepth 100000 in
theorem chargeparklaw21_FlowScaling.calls (k : Nat) (a0_0 : Int) (A0_1 : Option Addr) (c0_1 : Nat) (l0_1 : List (S39)) (a1 : Int) (a2 : Int) (a3 : Int) (r : Bool) (w : World) (hr0_1 : Kd.C k39 w A0_1 l0_1.length l0_1) (hc0_1 : l0_1.length ≤ c0_1) (h : chargeparklaw21_FlowScaling.f k a0_0 l0_1 a1 a2 a3 = some r) :
    Calls Try.prog 8 #[.agg #[.int .i64 a0_0, .slice A0_1 l0_1.length c0_1], .int .i64 a1, .int .i64 a2, .int .i64 a3] w fun e w' => e = .returned (.bool r) ∧ Below w.heap.size w w' := by
  have hu24 := Try.underlying24
  have hu39 := Try.underlying39
  have HR0_1 := Aside0.mk hr0_1
  have HC0_1 := Aside0.mk hc0_1
  clear hr0_1 hc0_1
  have HB := Aside0.mk (Below.refl w.heap.size w)
  have H : ((chargeparklaw21_head.f k).bind fun t358 => (if a3 < 0 then (chargeparklaw21_FlowScaling.j0 k a1 a2 a3 t358 true a0_0 l0_1) else (if a3 > 1000 then (chargeparklaw21_FlowScaling.j0 k a1 a2 a3 t358 true a0_0 l0_1) else ((chargeparklaw21_few.f a0_0 l0_1).bind fun t359 => (chargeparklaw21_FlowScaling.j0 k a1 a2 a3 t358 (!t359) a0_0 l0_1))))) = some r := h
  clear h
  replace H := Option.bind_eq_some_iff.mp H
  obtain ⟨t358, A50, H⟩ := H
  replace H : (if a3 < 0 then (chargeparklaw21_FlowScaling.j0 k a1 a2 a3 t358 true a0_0 l0_1) else (if a3 > 1000 then (chargeparklaw21_FlowScaling.j0 k a1 a2 a3 t358 true a0_0 l0_1) else ((chargeparklaw21_few.f a0_0 l0_1).bind fun t359 => (chargeparklaw21_FlowScaling.j0 k a1 a2 a3 t358 (!t359) a0_0 l0_1)))) = some r := H
  have A5 := Aside0.mk A50
  clear A50
  have HC6 := Aside0.mk H
  clear H
  go_enter Try.func8, Try.ntmps8
  go_upto_region 2 with (first | ((with_reducible refine gate_dst (N := 4) rfl ?_); refine box_event ?hg (N := 4) ?hd (cs := #[.int .i64 a0_0, .slice A0_1 l0_1.length c0_1]) (t := 24) ?hr ?_; (case hd => rfl); (case hg => rfl); (case hr => first | (go_simp; done) | (go_simp; rfl)); intro gb357 hg w7 hbox hb; have n0_ := Aside0.mk (below_step (by repeat (first | (with_reducible first | exact HB.out | apply below_alloc | apply pw_below_drewN | apply below_drew1) | exact HB.out)) hb); have n1_ := Aside0.mk (hbox); have n2_ := Aside0.mk ((by rw [hg]; exact (below_size (by repeat (first | (with_reducible first | exact HB.out | apply below_alloc | apply pw_below_drewN | apply below_drew1) | exact HB.out))) : w.heap.size ≤ gb357)); have n3_ := Aside0.mk ((by rw [hg]; exact (below_size (by repeat (first | (with_reducible first | exact HB.out | apply below_alloc | apply pw_below_drewN | apply below_drew1) | exact HB.out))) : w.heap.size ≤ gb357)); clear HB; have HB := n0_; have BK357 := n1_; have GW357 := n2_; have GE357 := n3_; clear n0_ n1_ n2_ n3_; clear hb hbox hg) | ((with_reducible refine gate_callee (f := 10) rfl ?_); refine goesL_ (some 21) rfl rfl Try.func10 (by kernel_rfl) rfl #[] rfl (by (try simp only [List.map_toArray, List.map_cons, List.map_nil]); first | done | rfl | (simp only [List.length_drop, List.length_take]; rfl)) ?_; (with_reducible refine (chargeparklaw21_head.calls k  t358 _ A5.out).mono ?_); rintro e w8 ⟨rfl, hb⟩; refine ⟨_, rfl, ?_⟩; have n0_ := Aside0.mk (blk_below (g := gb357) (o := .cells #[.int .i64 a0_0, .slice A0_1 l0_1.length c0_1] 24 (0, 0)) (by (with_reducible repeat (first | refine blk_drewN ?_ _ | refine blk_drew ?_ | refine blk_alloc ?_ _)); exact BK357.out) hb); have n1_ := Aside0.mk (below_step (by repeat (first | (with_reducible first | exact HB.out | apply below_alloc | apply pw_below_drewN | apply below_drew1 | refine below_set ?_ GE357.out) | exact HB.out)) hb); clear BK357; clear HB; have BK357 := n0_; have HB := n1_; clear n0_ n1_; (try clear hb); (try clear hb2); (try clear hk); (try clear hi)))
  (try simp only [Act.put, List.setIfInBounds_toArray, List.set_cons_zero, List.set_cons_succ])
  go_cut [32] (fun v32 wc => ∃ (kq : Nat) (x32_5 : Bool), v32 = .bool x32_5 ∧ Aside0 (chargeparklaw21_FlowScaling.j0 kq a1 a2 a3 t358 x32_5 a0_0 l0_1 = some r) ∧ Aside0 (kq ≤ k) ∧ Aside0 (wc.heap[gb357]? = some (.cells #[.int .i64 a0_0, (.slice A0_1 l0_1.length c0_1)] 24 (0, 0))) ∧ Aside0 (Below w.heap.size w wc))
  case first =>
    have H := HC6.out
    clear HC6
    by_cases c9 : a3 < 0
    · rw [if_pos c9] at H
      have c9b0 : decide (a3 < 0) = true := decide_eq_true c9
      clear c9
      (first | rw [c9b0] | (simp only [i64_w, i32_w]; rw [c9b0]) | skip)
      have H' := Aside0.mk H
      clear H
      go_wp2
      go_meet
      case rel => exact ⟨_, (true), (by first | rfl | (simp; done) | (simp [*]; done)), H', ⟨by first | omega | exact Nat.le_refl _⟩, ⟨by (with_reducible repeat (first | refine blk_drewN ?_ _ | refine blk_drew ?_ | refine blk_alloc ?_ _)); exact BK357.out⟩, ⟨by repeat (first | (with_reducible first | exact HB.out | apply below_alloc | apply pw_below_drewN | apply below_drew1 | refine below_set ?_ GE357.out) | exact HB.out)⟩⟩
    · rw [if_neg c9] at H
      have c9b0 : decide (a3 < 0) = false := decide_eq_false c9
      clear c9
      (first | rw [c9b0] | (simp only [i64_w, i32_w]; rw [c9b0]) | skip)
      by_cases c10 : a3 > 1000
      · rw [if_pos c10] at H
        have c10b0 : decide (1000 < a3) = true := decide_eq_true c10
        clear c10
        have H' := Aside0.mk H
        clear H
        go_wp2
        go_meet
        case rel => exact ⟨_, (true), (by first | rfl | (simp; done) | (simp [*]; done)), H', ⟨by first | omega | exact Nat.le_refl _⟩, ⟨by (with_reducible repeat (first | refine blk_drewN ?_ _ | refine blk_drew ?_ | refine blk_alloc ?_ _)); exact BK357.out⟩, ⟨by repeat (first | (with_reducible first | exact HB.out | apply below_alloc | apply pw_below_drewN | apply below_drew1 | refine below_set ?_ GE357.out) | exact HB.out)⟩⟩
      · rw [if_neg c10] at H
        have c10b0 : decide (1000 < a3) = false := decide_eq_false c10
        clear c10
        replace H := Option.bind_eq_some_iff.mp H
        obtain ⟨t359, A110, H⟩ := H
        replace H : (chargeparklaw21_FlowScaling.j0 k a1 a2 a3 t358 (!t359) a0_0 l0_1) = some r := H
        have A11 := Aside0.mk A110
        clear A110
        have H' := Aside0.mk H
        clear H
        have hcz12_0 : w8.cell? ⟨gb357, 0, none⟩ = some (.int .i64 a0_0) := (blk_cell BK357.out 0).trans rfl
        have hcz12_1 : w8.cell? ⟨gb357, 1, none⟩ = some (.slice A0_1 l0_1.length c0_1) := (blk_cell BK357.out 1).trans rfl
        have hfz12_0 := blk_frozen BK357.out 0
        have hfz12_1 := blk_frozen BK357.out 1
        go_wp2_with (first | (go_at_call 11; (with_reducible refine (chargeparklaw21_few.calls a0_0 _ _ l0_1 t359 _ ?side1 ?side2 A11.out).mono ?_); (case side1 => repeat (first | exact (Kd.C_below HR0_1.out HB.out) | (with_reducible refine Kd.C_alloc ?_ _) | (with_reducible refine Kd.C_drewN ?_ _) | (with_reducible refine Kd.C_drew ?_))); (case side2 => exact HC0_1.out); rintro e w13 ⟨rfl, hb⟩; have n0_ := Aside0.mk (blk_below (g := gb357) (o := .cells #[.int .i64 a0_0, .slice A0_1 l0_1.length c0_1] 24 (0, 0)) (by (with_reducible repeat (first | refine blk_drewN ?_ _ | refine blk_drew ?_ | refine blk_alloc ?_ _)); exact BK357.out) hb); have n1_ := Aside0.mk (below_step (by repeat (first | (with_reducible first | exact HB.out | apply below_alloc | apply pw_below_drewN | apply below_drew1 | refine below_set ?_ GE357.out) | exact HB.out)) hb); clear BK357; clear HB; have BK357 := n0_; have HB := n1_; clear n0_ n1_; (try clear hb); (try clear hb2); (try clear hk); (try clear hi)))
        go_meet
        case rel => exact ⟨_, (!t359), (by first | rfl | (simp; done) | (simp [*]; done)), H', ⟨by first | omega | exact Nat.le_refl _⟩, ⟨by (with_reducible repeat (first | refine blk_drewN ?_ _ | refine blk_drew ?_ | refine blk_alloc ?_ _)); exact BK357.out⟩, ⟨by repeat (first | (with_reducible first | exact HB.out | apply below_alloc | apply pw_below_drewN | apply below_drew1 | refine below_set ?_ GE357.out) | exact HB.out)⟩⟩
  case rest =>
    clear HC6
    try clear c1
    try clear p2
    try clear c8
    try clear c9
    try clear c9b0
    try clear c10
    try clear c10b0
    try clear hcz12_0
    try clear hcz12_1
    try clear hfz12_0
    try clear hfz12_1
    obtain ⟨kq, x32_5, rfl, HA, HJ5, BK357, HB⟩ := hcut
    cases kq with
    | zero => exact absurd HA.out (by simp [chargeparklaw21_FlowScaling.j0])
    | succ kj5 =>
      have H := HA.out
      clear HA
      simp only [chargeparklaw21_FlowScaling.j0] at H
      by_cases c14 : x32_5 = true
      · subst c14
        have H1 : (some t358) = some r := by rw [if_pos rfl] at H; exact H
        clear H
        have H := H1
        clear H1
        obtain rfl := Option.some.inj H
        go_wp2
        go_ret
        exact ⟨by first | rfl | (simp [errW_none, errW_some] <;> rfl) | (simp [*, errW_none, errW_some] <;> rfl), by repeat (first | (with_reducible first | exact HB.out | apply below_alloc | apply pw_below_drewN | apply below_drew1 | refine below_set ?_ GE357.out) | exact HB.out)⟩
      · replace c14 := Bool.eq_false_iff.mpr c14
        subst c14
        have H1 : (chargeparklaw21_FlowScaling.l0 kj5 a1 a2 a3 t358 ([] : List (S39)) 0 a0_0 l0_1) = some r := by rw [if_neg (show ¬ (false = true) by decide)] at H; exact H
        clear H
        have H := H1
        clear H1
        have H' := Aside0.mk H
        clear H
        go_wp2
        go_loopg [10, 11] kj5 (fun kq v10 v11 w' => ∃ (x10_2 : List (S39)) (x11_2 : Int), v11 = .int .i64 x11_2 ∧ Aside0 (chargeparklaw21_FlowScaling.l0 kq a1 a2 a3 t358 x10_2 x11_2 a0_0 l0_1 = some r) ∧ Aside0 (kq ≤ kj5) ∧ Aside0 (Kd.R k39 39 w' w.heap.size (fun _ => True) v10 x10_2) ∧ Aside0 (w'.heap[gb357]? = some (.cells #[.int .i64 a0_0, (.slice A0_1 l0_1.length c0_1)] 24 (0, 0))) ∧ Aside0 (Below w.heap.size w w'))
        case atStart => exact ⟨(([] : List (S39))), (0), (by first | rfl | (simp; done) | (simp [*]; done)), H', ⟨Nat.le_refl _⟩, ⟨by first | exact Kd.R_nil _ _ _ _ _ | exact Kd.N_nil _ _ _ _ _ | exact Kd.V_nil _ _ _ _ _ | exact Kd.Q_nil _ _ _ _ _ | exact Kd.S_nil _ _ _ _ _⟩, ⟨by (with_reducible repeat (first | refine blk_drewN ?_ _ | refine blk_drew ?_ | refine blk_alloc ?_ _)); exact BK357.out⟩, ⟨by repeat (first | (with_reducible first | exact HB.out | apply below_alloc | apply pw_below_drewN | apply below_drew1 | refine below_set ?_ GE357.out) | exact HB.out)⟩⟩
        case round =>
          clear H'
          try clear c1
          try clear p2
          try clear c8
          try clear c9
          try clear c9b0
          try clear c10
          try clear c10b0
          try clear c14
          try clear hcz12_0
          try clear hcz12_1
          try clear hfz12_0
          try clear hfz12_1
          try clear p2
          obtain ⟨x10_2, x11_2, rfl, HA, HK2, HO_10, BK357, HB⟩ := hrel
          cases gk with
          | zero => exact absurd HA.out (by simp [chargeparklaw21_FlowScaling.l0])
          | succ k2 =>
            have H := HA.out
            clear HA
            simp only [chargeparklaw21_FlowScaling.l0] at H
            by_cases c15 : x11_2 < (l0_1.length : Int)
            · rw [if_pos c15] at H
              have c15b0 : decide (x11_2 < (l0_1.length : Int)) = true := decide_eq_true c15
              clear c15
              by_cases c16 : 0 ≤ x11_2
              · rw [if_pos c16] at H
                have c16b0 : decide (0 ≤ x11_2) = true := decide_eq_true c16
                clear c16
                by_cases c17 : ((rd_T39 l0_1 x11_2).f2) > 1000000
                · rw [if_pos c17] at H
                  have c17b0 : decide (1000000 < ((rd_T39 l0_1 x11_2).f2)) = true := decide_eq_true c17
                  clear c17
                  obtain rfl := Option.some.inj H
                  have hcz18_0 : wr.cell? ⟨gb357, 0, none⟩ = some (.int .i64 a0_0) := (blk_cell BK357.out 0).trans rfl
                  have hcz18_1 : wr.cell? ⟨gb357, 1, none⟩ = some (.slice A0_1 l0_1.length c0_1) := (blk_cell BK357.out 1).trans rfl
                  have hfz18_0 := blk_frozen BK357.out 0
                  have hfz18_1 := blk_frozen BK357.out 1
                  have p360 : 0 ≤ (x11_2 : Int) := of_decide_eq_true (by first | (with_reducible assumption) | assumption)
                  have q360 : x11_2 < (l0_1.length : Int) := of_decide_eq_true (by first | (with_reducible assumption) | assumption)
                  obtain ⟨ad360, e360, hx360_0, hx360_1, hx360_2⟩ := at_T39 HR0_1.out x11_2 p360 q360
                  cases e360
                  replace hx360_0 := (HB.out.cell (World.block_lt_of_cell? w _ hx360_0)).trans hx360_0
                  replace hx360_1 := (HB.out.cell (World.block_lt_of_cell? w _ hx360_1)).trans hx360_1
                  replace hx360_2 := (HB.out.cell (World.block_lt_of_cell? w _ hx360_2)).trans hx360_2
                  replace p360 := eq_true p360
                  replace q360 := eq_true q360
                  go_wp2_with (first | ((with_reducible refine gate_dst (N := 12) rfl ?_); refine box_event ?hg (N := 12) ?hd (cs := #[.int .i64 0, .int .i64 0, .int .i64 0]) (t := 39) ?hr ?_; (case hd => rfl); (case hg => rfl); (case hr => first | (go_simp; done) | (go_simp; rfl)); intro gb361 hg w19 hbox hb; have n0_ := Aside0.mk (Kd.R_below (Kd.R_elderB (by (with_reducible repeat (first | apply Kd.R_alloc | apply Kd.R_drewN | apply Kd.R_drew)); exact HO_10.out) gb361 (Nat.le_of_eq hg.symm)) hb); have n1_ := Aside0.mk (blk_below (g := gb357) (o := .cells #[.int .i64 a0_0, .slice (some ad360) l0_1.length c0_1] 24 (0, 0)) (by (with_reducible repeat (first | refine blk_drewN ?_ _ | refine blk_drew ?_ | refine blk_alloc ?_ _)); exact BK357.out) hb); have n2_ := Aside0.mk (below_step (by repeat (first | (with_reducible first | exact HB.out | apply below_alloc | apply pw_below_drewN | apply below_drew1 | refine below_set ?_ GE357.out) | exact HB.out)) hb); have n3_ := Aside0.mk (hbox); have n4_ := Aside0.mk ((by rw [hg]; exact (below_size (by repeat (first | (with_reducible first | exact HB.out | apply below_alloc | apply pw_below_drewN | apply below_drew1 | refine below_set ?_ GE357.out) | exact HB.out))) : w.heap.size ≤ gb361)); have n5_ := Aside0.mk ((by rw [hg]; exact (below_size (by repeat (first | (with_reducible first | exact HB.out | apply below_alloc | apply pw_below_drewN | apply below_drew1 | refine below_set ?_ GE357.out) | exact HB.out))) : w.heap.size ≤ gb361)); have n6_ := Aside0.mk ((by rw [hg]; exact Nat.ne_of_lt (blk_lt (g := gb357) (o := .cells #[.int .i64 a0_0, .slice (some ad360) l0_1.length c0_1] 24 (0, 0)) (by (with_reducible repeat (first | refine blk_drewN ?_ _ | refine blk_drew ?_ | refine blk_alloc ?_ _)); exact BK357.out)) : gb357 ≠ gb361)); have n7_ := Aside0.mk ((by rw [hg]; exact Nat.ne_of_gt (blk_lt (g := gb357) (o := .cells #[.int .i64 a0_0, .slice (some ad360) l0_1.length c0_1] 24 (0, 0)) (by (with_reducible repeat (first | refine blk_drewN ?_ _ | refine blk_drew ?_ | refine blk_alloc ?_ _)); exact BK357.out)) : gb361 ≠ gb357)); clear HO_10; clear BK357; clear HB; have HO_10 := n0_; have BK357 := n1_; have HB := n2_; have BK361 := n3_; have GW361 := n4_; have GE361 := n5_; have NB357_361 := n6_; have NB361_357 := n7_; clear n0_ n1_ n2_ n3_ n4_ n5_ n6_ n7_; clear hb hbox hg; have hnb20 := NB361_357.out; have hnc20 := NB357_361.out; have hcz21_0 : w19.cell? ⟨gb361, 0, none⟩ = some (.int .i64 0) := (blk_cell BK361.out 0).trans rfl; have hcz21_1 : w19.cell? ⟨gb361, 1, none⟩ = some (.int .i64 0) := (blk_cell BK361.out 1).trans rfl; have hcz21_2 : w19.cell? ⟨gb361, 2, none⟩ = some (.int .i64 0) := (blk_cell BK361.out 2).trans rfl; have hfz21_0 := blk_frozen BK361.out 0; have hfz21_1 := blk_frozen BK361.out 1; have hfz21_2 := blk_frozen BK361.out 2))
                  go_ret
                  exact ⟨by first | rfl | (simp [errW_none, errW_some] <;> rfl) | (simp [*, errW_none, errW_some] <;> rfl), by repeat (first | (with_reducible first | exact HB.out | apply below_alloc | apply pw_below_drewN | apply below_drew1 | refine below_set ?_ GE357.out | refine below_set ?_ GE361.out) | exact HB.out)⟩
                · rw [if_neg c17] at H
                  have c17b0 : decide (1000000 < ((rd_T39 l0_1 x11_2).f2)) = false := decide_eq_false c17
                  clear c17
                  by_cases c22 : ((rd_T39 l0_1 x11_2).f2) < 0
                  · rw [if_pos c22] at H
                    have c22b0 : decide (((rd_T39 l0_1 x11_2).f2) < 0) = true := decide_eq_true c22
                    clear c22
                    obtain rfl := Option.some.inj H
                    have hcz23_0 : wr.cell? ⟨gb357, 0, none⟩ = some (.int .i64 a0_0) := (blk_cell BK357.out 0).trans rfl
                    have hcz23_1 : wr.cell? ⟨gb357, 1, none⟩ = some (.slice A0_1 l0_1.length c0_1) := (blk_cell BK357.out 1).trans rfl
                    have hfz23_0 := blk_frozen BK357.out 0
                    have hfz23_1 := blk_frozen BK357.out 1
                    have p360 : 0 ≤ (x11_2 : Int) := of_decide_eq_true (by first | (with_reducible assumption) | assumption)
                    have q360 : x11_2 < (l0_1.length : Int) := of_decide_eq_true (by first | (with_reducible assumption) | assumption)
                    obtain ⟨ad360, e360, hx360_0, hx360_1, hx360_2⟩ := at_T39 HR0_1.out x11_2 p360 q360
                    cases e360
                    replace hx360_0 := (HB.out.cell (World.block_lt_of_cell? w _ hx360_0)).trans hx360_0
                    replace hx360_1 := (HB.out.cell (World.block_lt_of_cell? w _ hx360_1)).trans hx360_1
                    replace hx360_2 := (HB.out.cell (World.block_lt_of_cell? w _ hx360_2)).trans hx360_2
                    replace p360 := eq_true p360
                    replace q360 := eq_true q360
                    go_wp2_with (first | ((with_reducible refine gate_dst (N := 12) rfl ?_); refine box_event ?hg (N := 12) ?hd (cs := #[.int .i64 0, .int .i64 0, .int .i64 0]) (t := 39) ?hr ?_; (case hd => rfl); (case hg => rfl); (case hr => first | (go_simp; done) | (go_simp; rfl)); intro gb361 hg w24 hbox hb; have n0_ := Aside0.mk (Kd.R_below (Kd.R_elderB (by (with_reducible repeat (first | apply Kd.R_alloc | apply Kd.R_drewN | apply Kd.R_drew)); exact HO_10.out) gb361 (Nat.le_of_eq hg.symm)) hb); have n1_ := Aside0.mk (blk_below (g := gb357) (o := .cells #[.int .i64 a0_0, .slice (some ad360) l0_1.length c0_1] 24 (0, 0)) (by (with_reducible repeat (first | refine blk_drewN ?_ _ | refine blk_drew ?_ | refine blk_alloc ?_ _)); exact BK357.out) hb); have n2_ := Aside0.mk (below_step (by repeat (first | (with_reducible first | exact HB.out | apply below_alloc | apply pw_below_drewN | apply below_drew1 | refine below_set ?_ GE357.out) | exact HB.out)) hb); have n3_ := Aside0.mk (hbox); have n4_ := Aside0.mk ((by rw [hg]; exact (below_size (by repeat (first | (with_reducible first | exact HB.out | apply below_alloc | apply pw_below_drewN | apply below_drew1 | refine below_set ?_ GE357.out) | exact HB.out))) : w.heap.size ≤ gb361)); have n5_ := Aside0.mk ((by rw [hg]; exact (below_size (by repeat (first | (with_reducible first | exact HB.out | apply below_alloc | apply pw_below_drewN | apply below_drew1 | refine below_set ?_ GE357.out) | exact HB.out))) : w.heap.size ≤ gb361)); have n6_ := Aside0.mk ((by rw [hg]; exact Nat.ne_of_lt (blk_lt (g := gb357) (o := .cells #[.int .i64 a0_0, .slice (some ad360) l0_1.length c0_1] 24 (0, 0)) (by (with_reducible repeat (first | refine blk_drewN ?_ _ | refine blk_drew ?_ | refine blk_alloc ?_ _)); exact BK357.out)) : gb357 ≠ gb361)); have n7_ := Aside0.mk ((by rw [hg]; exact Nat.ne_of_gt (blk_lt (g := gb357) (o := .cells #[.int .i64 a0_0, .slice (some ad360) l0_1.length c0_1] 24 (0, 0)) (by (with_reducible repeat (first | refine blk_drewN ?_ _ | refine blk_drew ?_ | refine blk_alloc ?_ _)); exact BK357.out)) : gb361 ≠ gb357)); clear HO_10; clear BK357; clear HB; have HO_10 := n0_; have BK357 := n1_; have HB := n2_; have BK361 := n3_; have GW361 := n4_; have GE361 := n5_; have NB357_361 := n6_; have NB361_357 := n7_; clear n0_ n1_ n2_ n3_ n4_ n5_ n6_ n7_; clear hb hbox hg; have hnb25 := NB361_357.out; have hnc25 := NB357_361.out; have hcz26_0 : w24.cell? ⟨gb361, 0, none⟩ = some (.int .i64 0) := (blk_cell BK361.out 0).trans rfl; have hcz26_1 : w24.cell? ⟨gb361, 1, none⟩ = some (.int .i64 0) := (blk_cell BK361.out 1).trans rfl; have hcz26_2 : w24.cell? ⟨gb361, 2, none⟩ = some (.int .i64 0) := (blk_cell BK361.out 2).trans rfl; have hfz26_0 := blk_frozen BK361.out 0; have hfz26_1 := blk_frozen BK361.out 1; have hfz26_2 := blk_frozen BK361.out 2))
                    go_ret
                    exact ⟨by first | rfl | (simp [errW_none, errW_some] <;> rfl) | (simp [*, errW_none, errW_some] <;> rfl), by repeat (first | (with_reducible first | exact HB.out | apply below_alloc | apply pw_below_drewN | apply below_drew1 | refine below_set ?_ GE357.out | refine below_set ?_ GE361.out) | exact HB.out)⟩
                  · rw [if_neg c22] at H
                    have c22b0 : decide (((rd_T39 l0_1 x11_2).f2) < 0) = false := decide_eq_false c22
                    clear c22
                    by_cases c27 : x10_2.length < 5864062014805
                    · rw [if_pos c27] at H
                      have LMc27 := Aside0.mk c27
                      clear c27
                      obtain ⟨y362, hy362⟩ : ∃ y_ : List (S39), y_ = (x10_2 ++ [(⟨(rd_T39 l0_1 x11_2).f0, (rd_T39 l0_1 x11_2).f1, wrap64 (a3 * ((rd_T39 l0_1 x11_2).f2))⟩ : S39)]) := ⟨_, rfl⟩
                      replace H : (chargeparklaw21_FlowScaling.l0 k2 a1 a2 a3 t358 y362 (wrap64 (x11_2 + 1)) a0_0 l0_1) = some r := by first | (rw [hy362]; with_reducible exact H) | (have H2_ := (Option.bind_some _ _).symm.trans H; rw [hy362]; with_reducible exact H2_) | (have H2_ := (Option.bind_some _ _).symm.trans H; with_reducible exact H2_) | with_reducible exact H | (rw [hy362]; exact H) | exact H
                      have Ny362 := Aside0.mk hy362
                      clear hy362
                      have H' := Aside0.mk H
                      clear H
                      have hcz28_0 : wr.cell? ⟨gb357, 0, none⟩ = some (.int .i64 a0_0) := (blk_cell BK357.out 0).trans rfl
                      have hcz28_1 : wr.cell? ⟨gb357, 1, none⟩ = some (.slice A0_1 l0_1.length c0_1) := (blk_cell BK357.out 1).trans rfl
                      have hfz28_0 := blk_frozen BK357.out 0
                      have hfz28_1 := blk_frozen BK357.out 1
                      have p360 : 0 ≤ (x11_2 : Int) := of_decide_eq_true (by first | (with_reducible assumption) | assumption)
                      have q360 : x11_2 < (l0_1.length : Int) := of_decide_eq_true (by first | (with_reducible assumption) | assumption)
                      obtain ⟨ad360, e360, hx360_0, hx360_1, hx360_2⟩ := at_T39 HR0_1.out x11_2 p360 q360
                      cases e360
                      replace hx360_0 := (HB.out.cell (World.block_lt_of_cell? w _ hx360_0)).trans hx360_0
                      replace hx360_1 := (HB.out.cell (World.block_lt_of_cell? w _ hx360_1)).trans hx360_1
                      replace hx360_2 := (HB.out.cell (World.block_lt_of_cell? w _ hx360_2)).trans hx360_2
                      replace p360 := eq_true p360
                      replace q360 := eq_true q360
                      go_wp2_with (first | ((with_reducible refine gate_dst (N := 12) rfl ?_); refine box_event ?hg (N := 12) ?hd (cs := #[.int .i64 0, .int .i64 0, .int .i64 0]) (t := 39) ?hr ?_; (case hd => rfl); (case hg => rfl); (case hr => first | (go_simp; done) | (go_simp; rfl)); intro gb361 hg w29 hbox hb; have n0_ := Aside0.mk (Kd.R_below (Kd.R_elderB (by (with_reducible repeat (first | apply Kd.R_alloc | apply Kd.R_drewN | apply Kd.R_drew)); exact HO_10.out) gb361 (Nat.le_of_eq hg.symm)) hb); have n1_ := Aside0.mk (blk_below (g := gb357) (o := .cells #[.int .i64 a0_0, .slice (some ad360) l0_1.length c0_1] 24 (0, 0)) (by (with_reducible repeat (first | refine blk_drewN ?_ _ | refine blk_drew ?_ | refine blk_alloc ?_ _)); exact BK357.out) hb); have n2_ := Aside0.mk (below_step (by repeat (first | (with_reducible first | exact HB.out | apply below_alloc | apply pw_below_drewN | apply below_drew1 | refine below_set ?_ GE357.out) | exact HB.out)) hb); have n3_ := Aside0.mk (hbox); have n4_ := Aside0.mk ((by rw [hg]; exact (below_size (by repeat (first | (with_reducible first | exact HB.out | apply below_alloc | apply pw_below_drewN | apply below_drew1 | refine below_set ?_ GE357.out) | exact HB.out))) : w.heap.size ≤ gb361)); have n5_ := Aside0.mk ((by rw [hg]; exact (below_size (by repeat (first | (with_reducible first | exact HB.out | apply below_alloc | apply pw_below_drewN | apply below_drew1 | refine below_set ?_ GE357.out) | exact HB.out))) : w.heap.size ≤ gb361)); have n6_ := Aside0.mk ((by rw [hg]; exact Nat.ne_of_lt (blk_lt (g := gb357) (o := .cells #[.int .i64 a0_0, .slice (some ad360) l0_1.length c0_1] 24 (0, 0)) (by (with_reducible repeat (first | refine blk_drewN ?_ _ | refine blk_drew ?_ | refine blk_alloc ?_ _)); exact BK357.out)) : gb357 ≠ gb361)); have n7_ := Aside0.mk ((by rw [hg]; exact Nat.ne_of_gt (blk_lt (g := gb357) (o := .cells #[.int .i64 a0_0, .slice (some ad360) l0_1.length c0_1] 24 (0, 0)) (by (with_reducible repeat (first | refine blk_drewN ?_ _ | refine blk_drew ?_ | refine blk_alloc ?_ _)); exact BK357.out)) : gb361 ≠ gb357)); clear HO_10; clear BK357; clear HB; have HO_10 := n0_; have BK357 := n1_; have HB := n2_; have BK361 := n3_; have GW361 := n4_; have GE361 := n5_; have NB357_361 := n6_; have NB361_357 := n7_; clear n0_ n1_ n2_ n3_ n4_ n5_ n6_ n7_; clear hb hbox hg; have hnb30 := NB361_357.out; have hnc30 := NB357_361.out; have hcz31_0 : w29.cell? ⟨gb361, 0, none⟩ = some (.int .i64 0) := (blk_cell BK361.out 0).trans rfl; have hcz31_1 : w29.cell? ⟨gb361, 1, none⟩ = some (.int .i64 0) := (blk_cell BK361.out 1).trans rfl; have hcz31_2 : w29.cell? ⟨gb361, 2, none⟩ = some (.int .i64 0) := (blk_cell BK361.out 2).trans rfl; have hfz31_0 := blk_frozen BK361.out 0; have hfz31_1 := blk_frozen BK361.out 1; have hfz31_2 := blk_frozen BK361.out 2) | ((with_reducible refine gate_builtin (b := .append) (xs := #[.tmp 55, .tmp 65]) rfl ?_); at_builtin; refine Kd.R_append k39 (w0 := w) w.heap.size rfl (.tmp 55) (.tmp 65) 22 39 (.agg #[(.int .i64 0), (.int .i64 0), (.int .i64 0)]) 24 rfl Try.underlying22 info39 rfl (by decide) (by omega) u10 x10_2 (⟨(rd_T39 l0_1 x11_2).f0, (rd_T39 l0_1 x11_2).f1, wrap64 (a3 * ((rd_T39 l0_1 x11_2).f2))⟩ : S39) [.int .i64 ((rd_T39 l0_1 x11_2).f0), .int .i64 ((rd_T39 l0_1 x11_2).f1), .int .i64 (wrap64 (a3 * ((rd_T39 l0_1 x11_2).f2)))] (fun k_ => k_ ≠ gb361) (fun _ => False) rfl (by first | (go_simp; done) | (go_simp; rfl)) ?aP (fun _ hk => hk.elim) ?aF ?aO ?aB ?aS ?aL ?_; (case aP => exact k39_mkM _ _ _ (⟨(rd_T39 l0_1 x11_2).f0, (rd_T39 l0_1 x11_2).f1, wrap64 (a3 * ((rd_T39 l0_1 x11_2).f2))⟩ : S39)); (case aB => exact (by repeat (first | (with_reducible first | exact HB.out | apply below_alloc | apply pw_below_drewN | apply below_drew1 | refine below_set ?_ GE357.out | refine below_set ?_ GE361.out) | exact HB.out))); (case aF => exact (fun k_ hk => Kd.freshB (g := gb361) (o := .cells #[.int .i64 ((rd_T39 l0_1 x11_2).f0), .int .i64 ((rd_T39 l0_1 x11_2).f1), .int .i64 ((rd_T39 l0_1 x11_2).f2)] 39 (0, 0)) (by (with_reducible repeat (first | refine blk_drewN ?_ _ | refine blk_drew ?_ | refine blk_alloc ?_ _)); refine blk_put (cs := #[.int .i64 ((rd_T39 l0_1 x11_2).f0), .int .i64 ((rd_T39 l0_1 x11_2).f1), .int .i64 0]) ?_ 2 _ rfl; (with_reducible repeat (first | refine blk_drewN ?_ _ | refine blk_drew ?_ | refine blk_alloc ?_ _)); refine blk_put (cs := #[.int .i64 ((rd_T39 l0_1 x11_2).f0), .int .i64 0, .int .i64 0]) ?_ 1 _ rfl; (with_reducible repeat (first | refine blk_drewN ?_ _ | refine blk_drew ?_ | refine blk_alloc ?_ _)); refine blk_put (cs := #[.int .i64 0, .int .i64 0, .int .i64 0]) ?_ 0 _ rfl; (with_reducible repeat (first | refine blk_drewN ?_ _ | refine blk_drew ?_ | refine blk_alloc ?_ _)); exact BK361.out) k_ hk)); (case aO => exact (by (with_reducible repeat (first | apply Kd.R_alloc | apply Kd.R_drewN | apply Kd.R_drew)); exact Kd.R_mono (Kd.R_far (p := ⟨gb361, 2, none⟩) (Kd.R_far (p := ⟨gb361, 1, none⟩) (Kd.R_far (p := ⟨gb361, 0, none⟩) (Kd.R_mono HO_10.out (fun k_ hk => (⟨hk, hk.2⟩ : _ ∧ k_ ≠ gb361))) (fun _ hk => hk.2) (.int .i64 ((rd_T39 l0_1 x11_2).f0))) (fun _ hk => hk.2) (.int .i64 ((rd_T39 l0_1 x11_2).f1))) (fun _ hk => hk.2) (.int .i64 ((rd_T39 l0_1 x11_2).f2))) (fun _ hk => hk.1.2))); (case aS => exact (below_size (by repeat (first | (with_reducible first | exact HB.out | apply below_alloc | apply pw_below_drewN | apply below_drew1 | refine below_set ?_ GE357.out | refine below_set ?_ GE361.out) | exact HB.out)))); (case aL => have := LMc27.out; omega); intro v363 w32 ho hb hg hat; rw [← Ny362.out] at ho; have n0_ := Aside0.mk (blk_grown (g := gb357) (o := .cells #[.int .i64 a0_0, .slice (some ad360) l0_1.length c0_1] 24 (0, 0)) (by (with_reducible repeat (first | refine blk_drewN ?_ _ | refine blk_drew ?_ | refine blk_alloc ?_ _)); refine blk_far ?_ NB357_361.out _; (with_reducible repeat (first | refine blk_drewN ?_ _ | refine blk_drew ?_ | refine blk_alloc ?_ _)); refine blk_far ?_ NB357_361.out _; (with_reducible repeat (first | refine blk_drewN ?_ _ | refine blk_drew ?_ | refine blk_alloc ?_ _)); refine blk_far ?_ NB357_361.out _; (with_reducible repeat (first | refine blk_drewN ?_ _ | refine blk_drew ?_ | refine blk_alloc ?_ _)); exact BK357.out) hg (Kd.R_ne HO_10.out BK357.out (by decide))); have n1_ := Aside0.mk (blk_grown (g := gb361) (o := .cells #[.int .i64 ((rd_T39 l0_1 x11_2).f0), .int .i64 ((rd_T39 l0_1 x11_2).f1), .int .i64 ((rd_T39 l0_1 x11_2).f2)] 39 (0, 0)) (by (with_reducible repeat (first | refine blk_drewN ?_ _ | refine blk_drew ?_ | refine blk_alloc ?_ _)); refine blk_put (cs := #[.int .i64 ((rd_T39 l0_1 x11_2).f0), .int .i64 ((rd_T39 l0_1 x11_2).f1), .int .i64 0]) ?_ 2 _ rfl; (with_reducible repeat (first | refine blk_drewN ?_ _ | refine blk_drew ?_ | refine blk_alloc ?_ _)); refine blk_put (cs := #[.int .i64 ((rd_T39 l0_1 x11_2).f0), .int .i64 0, .int .i64 0]) ?_ 1 _ rfl; (with_reducible repeat (first | refine blk_drewN ?_ _ | refine blk_drew ?_ | refine blk_alloc ?_ _)); refine blk_put (cs := #[.int .i64 0, .int .i64 0, .int .i64 0]) ?_ 0 _ rfl; (with_reducible repeat (first | refine blk_drewN ?_ _ | refine blk_drew ?_ | refine blk_alloc ?_ _)); exact BK361.out) hg (Kd.R_away HO_10.out (fun _ hk => hk.2))); have n2_ := Aside0.mk (hb); have n3_ := Aside0.mk (ho); clear BK357; clear BK361; clear HB; clear HO_10; have BK357 := n0_; have BK361 := n1_; have HB := n2_; have HO364 := n3_; clear n0_ n1_ n2_ n3_; clear ho hb hg hat))
                      go_roundg k2
                      case measure => have := HJ5.out; have := HK2.out; omega
                      case rel => exact ⟨(y362), (wrap64 (x11_2 + 1)), (by first | rfl | (simp; done) | (simp [*]; done)), H', ⟨by have := HJ5.out; have := HK2.out; omega⟩, ⟨by (with_reducible repeat (first | apply Kd.R_alloc | apply Kd.R_drewN | apply Kd.R_drew)); exact Kd.R_mono HO364.out (fun _ hk => trivial)⟩, ⟨by (with_reducible repeat (first | refine blk_drewN ?_ _ | refine blk_drew ?_ | refine blk_alloc ?_ _)); exact BK357.out⟩, ⟨by repeat (first | (with_reducible first | exact HB.out | apply below_alloc | apply pw_below_drewN | apply below_drew1 | refine below_set ?_ GE357.out | refine below_set ?_ GE361.out) | exact HB.out)⟩⟩
                    · rw [if_neg c27] at H
                      exact absurd H (by simp)
              · rw [if_neg c16] at H
                exact absurd H (by simp)
            · rw [if_neg c15] at H
              have c15b0 : decide (x11_2 < (l0_1.length : Int)) = false := decide_eq_false c15
              clear c15
              replace H := Option.bind_eq_some_iff.mp H
              obtain ⟨⟨t365, t366, t369, t372⟩, A330, H⟩ := H
              replace H : ((flow_Most.f a0_0 x10_2 a1 a2).bind fun bt373 => (if t358 = true then (if t372 = 0 then (if bt373.2.2.2 = 0 then (some (bt373.1 == (wrap64 (a3 * t365)))) else (some true)) else (some true)) else (some false))) = some r := H
              have A33 := Aside0.mk A330
              clear A330
              replace H := Option.bind_eq_some_iff.mp H
              obtain ⟨⟨t373, t374, t377, t380⟩, A340, H⟩ := H
              replace H : (if t358 = true then (if t372 = 0 then (if t380 = 0 then (some (t373 == (wrap64 (a3 * t365)))) else (some true)) else (some true)) else (some false)) = some r := H
              have A34 := Aside0.mk A340
              clear A340
              by_cases c35 : t358 = true
              · subst c35
                have H1 : (if t372 = 0 then (if t380 = 0 then (some (t373 == (wrap64 (a3 * t365)))) else (some true)) else (some true)) = some r := by rw [if_pos rfl] at H; exact H
                clear H
                have H := H1
                clear H1
                by_cases c36 : t372 = 0
                · rw [if_pos c36] at H
                  have c36b0 : (t372 == 0) = true := beq_iff_eq.mpr c36
                  have c36b1 : (t372 != 0) = false := bne_eq_false_iff_eq.mpr c36
                  clear c36
                  by_cases c37 : t380 = 0
                  · rw [if_pos c37] at H
                    have c37b0 : (t380 == 0) = true := beq_iff_eq.mpr c37
                    have c37b1 : (t380 != 0) = false := bne_eq_false_iff_eq.mpr c37
                    clear c37
                    obtain rfl := Option.some.inj H
                    have hcz38_0 : wr.cell? ⟨gb357, 0, none⟩ = some (.int .i64 a0_0) := (blk_cell BK357.out 0).trans rfl
                    have hcz38_1 : wr.cell? ⟨gb357, 1, none⟩ = some (.slice A0_1 l0_1.length c0_1) := (blk_cell BK357.out 1).trans rfl
                    have hfz38_0 := blk_frozen BK357.out 0
                    have hfz38_1 := blk_frozen BK357.out 1
                    go_wp2_with (first | ((with_reducible refine gate_callee (f := 14) rfl ?_); refine goesL_ (some 71) rfl rfl Try.func14 (by kernel_rfl) rfl #[.agg #[.int .i64 a0_0, .slice A0_1 l0_1.length c0_1], .int .i64 a1, .int .i64 a2] rfl (by (try simp only [List.map_toArray, List.map_cons, List.map_nil]); first | done | rfl | (simp only [List.length_drop, List.length_take]; rfl)) ?_; (with_reducible refine (flow_Most.calls a0_0 _ _ l0_1 a1 a2 t365 t366 t369 t372 _ ?side1 ?side2 A33.out).mono ?_); (case side1 => repeat (first | exact (Kd.C_below HR0_1.out HB.out) | (with_reducible refine Kd.C_alloc ?_ _) | (with_reducible refine Kd.C_drewN ?_ _) | (with_reducible refine Kd.C_drew ?_))); (case side2 => exact HC0_1.out); rintro e w39 ⟨v367, v370, rfl, ho0, ho1, hb⟩; refine ⟨_, rfl, ?_⟩; have n0_ := Aside0.mk (Kd.R_below (by (with_reducible repeat (first | apply Kd.R_alloc | apply Kd.R_drewN | apply Kd.R_drew)); exact HO_10.out) hb); have n1_ := Aside0.mk (Kd.R_lower ho0 (below_size (by repeat (first | (with_reducible first | exact HB.out | apply below_alloc | apply pw_below_drewN | apply below_drew1 | refine below_set ?_ GE357.out) | exact HB.out)))); have n2_ := Aside0.mk (Kd.R_lower ho1 (below_size (by repeat (first | (with_reducible first | exact HB.out | apply below_alloc | apply pw_below_drewN | apply below_drew1 | refine below_set ?_ GE357.out) | exact HB.out)))); have n3_ := Aside0.mk (blk_below (g := gb357) (o := .cells #[.int .i64 a0_0, .slice A0_1 l0_1.length c0_1] 24 (0, 0)) (by (with_reducible repeat (first | refine blk_drewN ?_ _ | refine blk_drew ?_ | refine blk_alloc ?_ _)); exact BK357.out) hb); have n4_ := Aside0.mk (below_step (by repeat (first | (with_reducible first | exact HB.out | apply below_alloc | apply pw_below_drewN | apply below_drew1 | refine below_set ?_ GE357.out) | exact HB.out)) hb); clear HO_10; clear BK357; clear HB; have HO_10 := n0_; have HO368 := n1_; have HO371 := n2_; have BK357 := n3_; have HB := n4_; clear n0_ n1_ n2_ n3_ n4_; (try clear hb); (try clear hb2); (try clear hk); (try clear hi); (try clear ho0); (try clear ho1); have hcz40_0 : w39.cell? ⟨gb357, 0, none⟩ = some (.int .i64 a0_0) := (blk_cell BK357.out 0).trans rfl; have hcz40_1 : w39.cell? ⟨gb357, 1, none⟩ = some (.slice A0_1 l0_1.length c0_1) := (blk_cell BK357.out 1).trans rfl; have hfz40_0 := blk_frozen BK357.out 0; have hfz40_1 := blk_frozen BK357.out 1; obtain ⟨Ao41, co41, eo41⟩ := Kd.R_slice HO_10.out; subst eo41) | ((with_reducible refine gate_callee (f := 14) rfl ?_); refine goesL_ (some 83) rfl rfl Try.func14 (by kernel_rfl) rfl #[.agg #[.int .i64 a0_0, .slice Ao41 x10_2.length co41], .int .i64 a1, .int .i64 a2] rfl (by (try simp only [List.map_toArray, List.map_cons, List.map_nil]); first | done | rfl | (simp only [List.length_drop, List.length_take]; rfl)) ?_; (with_reducible refine (flow_Most.calls a0_0 _ _ x10_2 a1 a2 t373 t374 t377 t380 _ ?side1 ?side2 A34.out).mono ?_); (case side1 => repeat (first | exact (Kd.R_reads' HO_10.out).2.2 | (with_reducible refine Kd.C_alloc ?_ _) | (with_reducible refine Kd.C_drewN ?_ _) | (with_reducible refine Kd.C_drew ?_))); (case side2 => exact (Kd.R_reads' HO_10.out).2.1); rintro e w42 ⟨v375, v378, rfl, ho0, ho1, hb⟩; refine ⟨_, rfl, ?_⟩; have n0_ := Aside0.mk (Kd.R_below (by (with_reducible repeat (first | apply Kd.R_alloc | apply Kd.R_drewN | apply Kd.R_drew)); exact HO_10.out) hb); have n1_ := Aside0.mk (Kd.R_elder' (by (with_reducible repeat (first | apply Kd.R_alloc | apply Kd.R_drewN | apply Kd.R_drew)); exact HO368.out) (Kd.R_base ho0) hb); have n2_ := Aside0.mk (Kd.R_elder' (by (with_reducible repeat (first | apply Kd.R_alloc | apply Kd.R_drewN | apply Kd.R_drew)); exact HO371.out) (Kd.R_base ho1) hb); have n3_ := Aside0.mk (Kd.R_lower (Kd.R_new' ho0 (Kd.R_lt (by (with_reducible repeat (first | apply Kd.R_alloc | apply Kd.R_drewN | apply Kd.R_drew)); exact HO368.out))) (below_size (by repeat (first | (with_reducible first | exact HB.out | apply below_alloc | apply pw_below_drewN | apply below_drew1 | refine below_set ?_ GE357.out) | exact HB.out)))); have n4_ := Aside0.mk (Kd.R_lower (Kd.R_new' ho1 (Kd.R_lt (by (with_reducible repeat (first | apply Kd.R_alloc | apply Kd.R_drewN | apply Kd.R_drew)); exact HO371.out))) (below_size (by repeat (first | (with_reducible first | exact HB.out | apply below_alloc | apply pw_below_drewN | apply below_drew1 | refine below_set ?_ GE357.out) | exact HB.out)))); have n5_ := Aside0.mk (blk_below (g := gb357) (o := .cells #[.int .i64 a0_0, .slice A0_1 l0_1.length c0_1] 24 (0, 0)) (by (with_reducible repeat (first | refine blk_drewN ?_ _ | refine blk_drew ?_ | refine blk_alloc ?_ _)); exact BK357.out) hb); have n6_ := Aside0.mk (below_step (by repeat (first | (with_reducible first | exact HB.out | apply below_alloc | apply pw_below_drewN | apply below_drew1 | refine below_set ?_ GE357.out) | exact HB.out)) hb); clear HO_10; clear HO368; clear HO371; clear BK357; clear HB; have HO_10 := n0_; have HO368 := n1_; have HO371 := n2_; have HO376 := n3_; have HO379 := n4_; have BK357 := n5_; have HB := n6_; clear n0_ n1_ n2_ n3_ n4_ n5_ n6_; (try clear hb); (try clear hb2); (try clear hk); (try clear hi); (try clear ho0); (try clear ho1)))
                    go_ret
                    exact ⟨by first | rfl | (simp [errW_none, errW_some] <;> rfl) | (simp [*, errW_none, errW_some] <;> rfl), by repeat (first | (with_reducible first | exact HB.out | apply below_alloc | apply pw_below_drewN | apply below_drew1 | refine below_set ?_ GE357.out) | exact HB.out)⟩
                  · rw [if_neg c37] at H
                    have c37b0 : (t380 == 0) = false := beq_eq_false_iff_ne.mpr c37
                    have c37b1 : (t380 != 0) = true := bne_iff_ne.mpr c37
                    obtain rfl := Option.some.inj H
                    have hcz43_0 : wr.cell? ⟨gb357, 0, none⟩ = some (.int .i64 a0_0) := (blk_cell BK357.out 0).trans rfl
                    have hcz43_1 : wr.cell? ⟨gb357, 1, none⟩ = some (.slice A0_1 l0_1.length c0_1) := (blk_cell BK357.out 1).trans rfl
                    have hfz43_0 := blk_frozen BK357.out 0
                    have hfz43_1 := blk_frozen BK357.out 1
                    go_wp2_with (first | ((with_reducible refine gate_callee (f := 14) rfl ?_); refine goesL_ (some 71) rfl rfl Try.func14 (by kernel_rfl) rfl #[.agg #[.int .i64 a0_0, .slice A0_1 l0_1.length c0_1], .int .i64 a1, .int .i64 a2] rfl (by (try simp only [List.map_toArray, List.map_cons, List.map_nil]); first | done | rfl | (simp only [List.length_drop, List.length_take]; rfl)) ?_; (with_reducible refine (flow_Most.calls a0_0 _ _ l0_1 a1 a2 t365 t366 t369 t372 _ ?side1 ?side2 A33.out).mono ?_); (case side1 => repeat (first | exact (Kd.C_below HR0_1.out HB.out) | (with_reducible refine Kd.C_alloc ?_ _) | (with_reducible refine Kd.C_drewN ?_ _) | (with_reducible refine Kd.C_drew ?_))); (case side2 => exact HC0_1.out); rintro e w44 ⟨v367, v370, rfl, ho0, ho1, hb⟩; refine ⟨_, rfl, ?_⟩; have n0_ := Aside0.mk (Kd.R_below (by (with_reducible repeat (first | apply Kd.R_alloc | apply Kd.R_drewN | apply Kd.R_drew)); exact HO_10.out) hb); have n1_ := Aside0.mk (Kd.R_lower ho0 (below_size (by repeat (first | (with_reducible first | exact HB.out | apply below_alloc | apply pw_below_drewN | apply below_drew1 | refine below_set ?_ GE357.out) | exact HB.out)))); have n2_ := Aside0.mk (Kd.R_lower ho1 (below_size (by repeat (first | (with_reducible first | exact HB.out | apply below_alloc | apply pw_below_drewN | apply below_drew1 | refine below_set ?_ GE357.out) | exact HB.out)))); have n3_ := Aside0.mk (blk_below (g := gb357) (o := .cells #[.int .i64 a0_0, .slice A0_1 l0_1.length c0_1] 24 (0, 0)) (by (with_reducible repeat (first | refine blk_drewN ?_ _ | refine blk_drew ?_ | refine blk_alloc ?_ _)); exact BK357.out) hb); have n4_ := Aside0.mk (below_step (by repeat (first | (with_reducible first | exact HB.out | apply below_alloc | apply pw_below_drewN | apply below_drew1 | refine below_set ?_ GE357.out) | exact HB.out)) hb); clear HO_10; clear BK357; clear HB; have HO_10 := n0_; have HO368 := n1_; have HO371 := n2_; have BK357 := n3_; have HB := n4_; clear n0_ n1_ n2_ n3_ n4_; (try clear hb); (try clear hb2); (try clear hk); (try clear hi); (try clear ho0); (try clear ho1); have hcz45_0 : w44.cell? ⟨gb357, 0, none⟩ = some (.int .i64 a0_0) := (blk_cell BK357.out 0).trans rfl; have hcz45_1 : w44.cell? ⟨gb357, 1, none⟩ = some (.slice A0_1 l0_1.length c0_1) := (blk_cell BK357.out 1).trans rfl; have hfz45_0 := blk_frozen BK357.out 0; have hfz45_1 := blk_frozen BK357.out 1; obtain ⟨Ao46, co46, eo46⟩ := Kd.R_slice HO_10.out; subst eo46) | ((with_reducible refine gate_callee (f := 14) rfl ?_); refine goesL_ (some 83) rfl rfl Try.func14 (by kernel_rfl) rfl #[.agg #[.int .i64 a0_0, .slice Ao46 x10_2.length co46], .int .i64 a1, .int .i64 a2] rfl (by (try simp only [List.map_toArray, List.map_cons, List.map_nil]); first | done | rfl | (simp only [List.length_drop, List.length_take]; rfl)) ?_; (with_reducible refine (flow_Most.calls a0_0 _ _ x10_2 a1 a2 t373 t374 t377 t380 _ ?side1 ?side2 A34.out).mono ?_); (case side1 => repeat (first | exact (Kd.R_reads' HO_10.out).2.2 | (with_reducible refine Kd.C_alloc ?_ _) | (with_reducible refine Kd.C_drewN ?_ _) | (with_reducible refine Kd.C_drew ?_))); (case side2 => exact (Kd.R_reads' HO_10.out).2.1); rintro e w47 ⟨v375, v378, rfl, ho0, ho1, hb⟩; refine ⟨_, rfl, ?_⟩; have n0_ := Aside0.mk (Kd.R_below (by (with_reducible repeat (first | apply Kd.R_alloc | apply Kd.R_drewN | apply Kd.R_drew)); exact HO_10.out) hb); have n1_ := Aside0.mk (Kd.R_elder' (by (with_reducible repeat (first | apply Kd.R_alloc | apply Kd.R_drewN | apply Kd.R_drew)); exact HO368.out) (Kd.R_base ho0) hb); have n2_ := Aside0.mk (Kd.R_elder' (by (with_reducible repeat (first | apply Kd.R_alloc | apply Kd.R_drewN | apply Kd.R_drew)); exact HO371.out) (Kd.R_base ho1) hb); have n3_ := Aside0.mk (Kd.R_lower (Kd.R_new' ho0 (Kd.R_lt (by (with_reducible repeat (first | apply Kd.R_alloc | apply Kd.R_drewN | apply Kd.R_drew)); exact HO368.out))) (below_size (by repeat (first | (with_reducible first | exact HB.out | apply below_alloc | apply pw_below_drewN | apply below_drew1 | refine below_set ?_ GE357.out) | exact HB.out)))); have n4_ := Aside0.mk (Kd.R_lower (Kd.R_new' ho1 (Kd.R_lt (by (with_reducible repeat (first | apply Kd.R_alloc | apply Kd.R_drewN | apply Kd.R_drew)); exact HO371.out))) (below_size (by repeat (first | (with_reducible first | exact HB.out | apply below_alloc | apply pw_below_drewN | apply below_drew1 | refine below_set ?_ GE357.out) | exact HB.out)))); have n5_ := Aside0.mk (blk_below (g := gb357) (o := .cells #[.int .i64 a0_0, .slice A0_1 l0_1.length c0_1] 24 (0, 0)) (by (with_reducible repeat (first | refine blk_drewN ?_ _ | refine blk_drew ?_ | refine blk_alloc ?_ _)); exact BK357.out) hb); have n6_ := Aside0.mk (below_step (by repeat (first | (with_reducible first | exact HB.out | apply below_alloc | apply pw_below_drewN | apply below_drew1 | refine below_set ?_ GE357.out) | exact HB.out)) hb); clear HO_10; clear HO368; clear HO371; clear BK357; clear HB; have HO_10 := n0_; have HO368 := n1_; have HO371 := n2_; have HO376 := n3_; have HO379 := n4_; have BK357 := n5_; have HB := n6_; clear n0_ n1_ n2_ n3_ n4_ n5_ n6_; (try clear hb); (try clear hb2); (try clear hk); (try clear hi); (try clear ho0); (try clear ho1)))
                    go_ret
                    exact ⟨by first | rfl | (simp [errW_none, errW_some] <;> rfl) | (simp [*, errW_none, errW_some] <;> rfl), by repeat (first | (with_reducible first | exact HB.out | apply below_alloc | apply pw_below_drewN | apply below_drew1 | refine below_set ?_ GE357.out) | exact HB.out)⟩
                · rw [if_neg c36] at H
                  have c36b0 : (t372 == 0) = false := beq_eq_false_iff_ne.mpr c36
                  have c36b1 : (t372 != 0) = true := bne_iff_ne.mpr c36
                  obtain rfl := Option.some.inj H
                  have hcz48_0 : wr.cell? ⟨gb357, 0, none⟩ = some (.int .i64 a0_0) := (blk_cell BK357.out 0).trans rfl
                  have hcz48_1 : wr.cell? ⟨gb357, 1, none⟩ = some (.slice A0_1 l0_1.length c0_1) := (blk_cell BK357.out 1).trans rfl
                  have hfz48_0 := blk_frozen BK357.out 0
                  have hfz48_1 := blk_frozen BK357.out 1
                  go_wp2_with (first | ((with_reducible refine gate_callee (f := 14) rfl ?_); refine goesL_ (some 71) rfl rfl Try.func14 (by kernel_rfl) rfl #[.agg #[.int .i64 a0_0, .slice A0_1 l0_1.length c0_1], .int .i64 a1, .int .i64 a2] rfl (by (try simp only [List.map_toArray, List.map_cons, List.map_nil]); first | done | rfl | (simp only [List.length_drop, List.length_take]; rfl)) ?_; (with_reducible refine (flow_Most.calls a0_0 _ _ l0_1 a1 a2 t365 t366 t369 t372 _ ?side1 ?side2 A33.out).mono ?_); (case side1 => repeat (first | exact (Kd.C_below HR0_1.out HB.out) | (with_reducible refine Kd.C_alloc ?_ _) | (with_reducible refine Kd.C_drewN ?_ _) | (with_reducible refine Kd.C_drew ?_))); (case side2 => exact HC0_1.out); rintro e w49 ⟨v367, v370, rfl, ho0, ho1, hb⟩; refine ⟨_, rfl, ?_⟩; have n0_ := Aside0.mk (Kd.R_below (by (with_reducible repeat (first | apply Kd.R_alloc | apply Kd.R_drewN | apply Kd.R_drew)); exact HO_10.out) hb); have n1_ := Aside0.mk (Kd.R_lower ho0 (below_size (by repeat (first | (with_reducible first | exact HB.out | apply below_alloc | apply pw_below_drewN | apply below_drew1 | refine below_set ?_ GE357.out) | exact HB.out)))); have n2_ := Aside0.mk (Kd.R_lower ho1 (below_size (by repeat (first | (with_reducible first | exact HB.out | apply below_alloc | apply pw_below_drewN | apply below_drew1 | refine below_set ?_ GE357.out) | exact HB.out)))); have n3_ := Aside0.mk (blk_below (g := gb357) (o := .cells #[.int .i64 a0_0, .slice A0_1 l0_1.length c0_1] 24 (0, 0)) (by (with_reducible repeat (first | refine blk_drewN ?_ _ | refine blk_drew ?_ | refine blk_alloc ?_ _)); exact BK357.out) hb); have n4_ := Aside0.mk (below_step (by repeat (first | (with_reducible first | exact HB.out | apply below_alloc | apply pw_below_drewN | apply below_drew1 | refine below_set ?_ GE357.out) | exact HB.out)) hb); clear HO_10; clear BK357; clear HB; have HO_10 := n0_; have HO368 := n1_; have HO371 := n2_; have BK357 := n3_; have HB := n4_; clear n0_ n1_ n2_ n3_ n4_; (try clear hb); (try clear hb2); (try clear hk); (try clear hi); (try clear ho0); (try clear ho1); have hcz50_0 : w49.cell? ⟨gb357, 0, none⟩ = some (.int .i64 a0_0) := (blk_cell BK357.out 0).trans rfl; have hcz50_1 : w49.cell? ⟨gb357, 1, none⟩ = some (.slice A0_1 l0_1.length c0_1) := (blk_cell BK357.out 1).trans rfl; have hfz50_0 := blk_frozen BK357.out 0; have hfz50_1 := blk_frozen BK357.out 1; obtain ⟨Ao51, co51, eo51⟩ := Kd.R_slice HO_10.out; subst eo51) | ((with_reducible refine gate_callee (f := 14) rfl ?_); refine goesL_ (some 83) rfl rfl Try.func14 (by kernel_rfl) rfl #[.agg #[.int .i64 a0_0, .slice Ao51 x10_2.length co51], .int .i64 a1, .int .i64 a2] rfl (by (try simp only [List.map_toArray, List.map_cons, List.map_nil]); first | done | rfl | (simp only [List.length_drop, List.length_take]; rfl)) ?_; (with_reducible refine (flow_Most.calls a0_0 _ _ x10_2 a1 a2 t373 t374 t377 t380 _ ?side1 ?side2 A34.out).mono ?_); (case side1 => repeat (first | exact (Kd.R_reads' HO_10.out).2.2 | (with_reducible refine Kd.C_alloc ?_ _) | (with_reducible refine Kd.C_drewN ?_ _) | (with_reducible refine Kd.C_drew ?_))); (case side2 => exact (Kd.R_reads' HO_10.out).2.1); rintro e w52 ⟨v375, v378, rfl, ho0, ho1, hb⟩; refine ⟨_, rfl, ?_⟩; have n0_ := Aside0.mk (Kd.R_below (by (with_reducible repeat (first | apply Kd.R_alloc | apply Kd.R_drewN | apply Kd.R_drew)); exact HO_10.out) hb); have n1_ := Aside0.mk (Kd.R_elder' (by (with_reducible repeat (first | apply Kd.R_alloc | apply Kd.R_drewN | apply Kd.R_drew)); exact HO368.out) (Kd.R_base ho0) hb); have n2_ := Aside0.mk (Kd.R_elder' (by (with_reducible repeat (first | apply Kd.R_alloc | apply Kd.R_drewN | apply Kd.R_drew)); exact HO371.out) (Kd.R_base ho1) hb); have n3_ := Aside0.mk (Kd.R_lower (Kd.R_new' ho0 (Kd.R_lt (by (with_reducible repeat (first | apply Kd.R_alloc | apply Kd.R_drewN | apply Kd.R_drew)); exact HO368.out))) (below_size (by repeat (first | (with_reducible first | exact HB.out | apply below_alloc | apply pw_below_drewN | apply below_drew1 | refine below_set ?_ GE357.out) | exact HB.out)))); have n4_ := Aside0.mk (Kd.R_lower (Kd.R_new' ho1 (Kd.R_lt (by (with_reducible repeat (first | apply Kd.R_alloc | apply Kd.R_drewN | apply Kd.R_drew)); exact HO371.out))) (below_size (by repeat (first | (with_reducible first | exact HB.out | apply below_alloc | apply pw_below_drewN | apply below_drew1 | refine below_set ?_ GE357.out) | exact HB.out)))); have n5_ := Aside0.mk (blk_below (g := gb357) (o := .cells #[.int .i64 a0_0, .slice A0_1 l0_1.length c0_1] 24 (0, 0)) (by (with_reducible repeat (first | refine blk_drewN ?_ _ | refine blk_drew ?_ | refine blk_alloc ?_ _)); exact BK357.out) hb); have n6_ := Aside0.mk (below_step (by repeat (first | (with_reducible first | exact HB.out | apply below_alloc | apply pw_below_drewN | apply below_drew1 | refine below_set ?_ GE357.out) | exact HB.out)) hb); clear HO_10; clear HO368; clear HO371; clear BK357; clear HB; have HO_10 := n0_; have HO368 := n1_; have HO371 := n2_; have HO376 := n3_; have HO379 := n4_; have BK357 := n5_; have HB := n6_; clear n0_ n1_ n2_ n3_ n4_ n5_ n6_; (try clear hb); (try clear hb2); (try clear hk); (try clear hi); (try clear ho0); (try clear ho1)))
                  go_ret
                  exact ⟨by first | rfl | (simp [errW_none, errW_some] <;> rfl) | (simp [*, errW_none, errW_some] <;> rfl), by repeat (first | (with_reducible first | exact HB.out | apply below_alloc | apply pw_below_drewN | apply below_drew1 | refine below_set ?_ GE357.out) | exact HB.out)⟩
              · replace c35 := Bool.eq_false_iff.mpr c35
                subst c35
                have H1 : (some false) = some r := by rw [if_neg (show ¬ (false = true) by decide)] at H; exact H
                clear H
                have H := H1
                clear H1
                obtain rfl := Option.some.inj H
                have hcz53_0 : wr.cell? ⟨gb357, 0, none⟩ = some (.int .i64 a0_0) := (blk_cell BK357.out 0).trans rfl
                have hcz53_1 : wr.cell? ⟨gb357, 1, none⟩ = some (.slice A0_1 l0_1.length c0_1) := (blk_cell BK357.out 1).trans rfl
                have hfz53_0 := blk_frozen BK357.out 0
                have hfz53_1 := blk_frozen BK357.out 1
                go_wp2_with (first | ((with_reducible refine gate_callee (f := 14) rfl ?_); refine goesL_ (some 71) rfl rfl Try.func14 (by kernel_rfl) rfl #[.agg #[.int .i64 a0_0, .slice A0_1 l0_1.length c0_1], .int .i64 a1, .int .i64 a2] rfl (by (try simp only [List.map_toArray, List.map_cons, List.map_nil]); first | done | rfl | (simp only [List.length_drop, List.length_take]; rfl)) ?_; (with_reducible refine (flow_Most.calls a0_0 _ _ l0_1 a1 a2 t365 t366 t369 t372 _ ?side1 ?side2 A33.out).mono ?_); (case side1 => repeat (first | exact (Kd.C_below HR0_1.out HB.out) | (with_reducible refine Kd.C_alloc ?_ _) | (with_reducible refine Kd.C_drewN ?_ _) | (with_reducible refine Kd.C_drew ?_))); (case side2 => exact HC0_1.out); rintro e w54 ⟨v367, v370, rfl, ho0, ho1, hb⟩; refine ⟨_, rfl, ?_⟩; have n0_ := Aside0.mk (Kd.R_below (by (with_reducible repeat (first | apply Kd.R_alloc | apply Kd.R_drewN | apply Kd.R_drew)); exact HO_10.out) hb); have n1_ := Aside0.mk (Kd.R_lower ho0 (below_size (by repeat (first | (with_reducible first | exact HB.out | apply below_alloc | apply pw_below_drewN | apply below_drew1 | refine below_set ?_ GE357.out) | exact HB.out)))); have n2_ := Aside0.mk (Kd.R_lower ho1 (below_size (by repeat (first | (with_reducible first | exact HB.out | apply below_alloc | apply pw_below_drewN | apply below_drew1 | refine below_set ?_ GE357.out) | exact HB.out)))); have n3_ := Aside0.mk (blk_below (g := gb357) (o := .cells #[.int .i64 a0_0, .slice A0_1 l0_1.length c0_1] 24 (0, 0)) (by (with_reducible repeat (first | refine blk_drewN ?_ _ | refine blk_drew ?_ | refine blk_alloc ?_ _)); exact BK357.out) hb); have n4_ := Aside0.mk (below_step (by repeat (first | (with_reducible first | exact HB.out | apply below_alloc | apply pw_below_drewN | apply below_drew1 | refine below_set ?_ GE357.out) | exact HB.out)) hb); clear HO_10; clear BK357; clear HB; have HO_10 := n0_; have HO368 := n1_; have HO371 := n2_; have BK357 := n3_; have HB := n4_; clear n0_ n1_ n2_ n3_ n4_; (try clear hb); (try clear hb2); (try clear hk); (try clear hi); (try clear ho0); (try clear ho1); have hcz55_0 : w54.cell? ⟨gb357, 0, none⟩ = some (.int .i64 a0_0) := (blk_cell BK357.out 0).trans rfl; have hcz55_1 : w54.cell? ⟨gb357, 1, none⟩ = some (.slice A0_1 l0_1.length c0_1) := (blk_cell BK357.out 1).trans rfl; have hfz55_0 := blk_frozen BK357.out 0; have hfz55_1 := blk_frozen BK357.out 1; obtain ⟨Ao56, co56, eo56⟩ := Kd.R_slice HO_10.out; subst eo56) | ((with_reducible refine gate_callee (f := 14) rfl ?_); refine goesL_ (some 83) rfl rfl Try.func14 (by kernel_rfl) rfl #[.agg #[.int .i64 a0_0, .slice Ao56 x10_2.length co56], .int .i64 a1, .int .i64 a2] rfl (by (try simp only [List.map_toArray, List.map_cons, List.map_nil]); first | done | rfl | (simp only [List.length_drop, List.length_take]; rfl)) ?_; (with_reducible refine (flow_Most.calls a0_0 _ _ x10_2 a1 a2 t373 t374 t377 t380 _ ?side1 ?side2 A34.out).mono ?_); (case side1 => repeat (first | exact (Kd.R_reads' HO_10.out).2.2 | (with_reducible refine Kd.C_alloc ?_ _) | (with_reducible refine Kd.C_drewN ?_ _) | (with_reducible refine Kd.C_drew ?_))); (case side2 => exact (Kd.R_reads' HO_10.out).2.1); rintro e w57 ⟨v375, v378, rfl, ho0, ho1, hb⟩; refine ⟨_, rfl, ?_⟩; have n0_ := Aside0.mk (Kd.R_below (by (with_reducible repeat (first | apply Kd.R_alloc | apply Kd.R_drewN | apply Kd.R_drew)); exact HO_10.out) hb); have n1_ := Aside0.mk (Kd.R_elder' (by (with_reducible repeat (first | apply Kd.R_alloc | apply Kd.R_drewN | apply Kd.R_drew)); exact HO368.out) (Kd.R_base ho0) hb); have n2_ := Aside0.mk (Kd.R_elder' (by (with_reducible repeat (first | apply Kd.R_alloc | apply Kd.R_drewN | apply Kd.R_drew)); exact HO371.out) (Kd.R_base ho1) hb); have n3_ := Aside0.mk (Kd.R_lower (Kd.R_new' ho0 (Kd.R_lt (by (with_reducible repeat (first | apply Kd.R_alloc | apply Kd.R_drewN | apply Kd.R_drew)); exact HO368.out))) (below_size (by repeat (first | (with_reducible first | exact HB.out | apply below_alloc | apply pw_below_drewN | apply below_drew1 | refine below_set ?_ GE357.out) | exact HB.out)))); have n4_ := Aside0.mk (Kd.R_lower (Kd.R_new' ho1 (Kd.R_lt (by (with_reducible repeat (first | apply Kd.R_alloc | apply Kd.R_drewN | apply Kd.R_drew)); exact HO371.out))) (below_size (by repeat (first | (with_reducible first | exact HB.out | apply below_alloc | apply pw_below_drewN | apply below_drew1 | refine below_set ?_ GE357.out) | exact HB.out)))); have n5_ := Aside0.mk (blk_below (g := gb357) (o := .cells #[.int .i64 a0_0, .slice A0_1 l0_1.length c0_1] 24 (0, 0)) (by (with_reducible repeat (first | refine blk_drewN ?_ _ | refine blk_drew ?_ | refine blk_alloc ?_ _)); exact BK357.out) hb); have n6_ := Aside0.mk (below_step (by repeat (first | (with_reducible first | exact HB.out | apply below_alloc | apply pw_below_drewN | apply below_drew1 | refine below_set ?_ GE357.out) | exact HB.out)) hb); clear HO_10; clear HO368; clear HO371; clear BK357; clear HB; have HO_10 := n0_; have HO368 := n1_; have HO371 := n2_; have HO376 := n3_; have HO379 := n4_; have BK357 := n5_; have HB := n6_; clear n0_ n1_ n2_ n3_ n4_ n5_ n6_; (try clear hb); (try clear hb2); (try clear hk); (try clear hi); (try clear ho0); (try clear ho1)))
                go_ret
                exact ⟨by first | rfl | (simp [errW_none, errW_some] <;> rfl) | (simp [*, errW_none, errW_some] <;> rfl), by repeat (first | (with_reducible first | exact HB.out | apply below_alloc | apply pw_below_drewN | apply below_drew1 | refine below_set ?_ GE357.out) | exact HB.out)⟩

-- NOT PRINTED: function 9 (chargeparklaw21_FlowAnotherEdge)

end Go.Proofs.Ytfjbbmgnfpeogaa.Pr
