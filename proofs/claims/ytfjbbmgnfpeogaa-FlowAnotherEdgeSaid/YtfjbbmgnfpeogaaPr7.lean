-- Written by a program of this session over the kit's print.
import Derived.Test.YtfjbbmgnfpeogaaPr0
namespace Go.Proofs.Ytfjbbmgnfpeogaa.Pr
open Go.RowKit Go.Proofs.YtfjbbmgnfpeogaaW.PrintWords Go.Proofs.YtfjbbmgnfpeogaaW.PrintLast Go.Proofs.YtfjbbmgnfpeogaaW.PrintMore
attribute [local go_sem] max2_int min2_int max_two min_two max_three min_three max_four min_four   -- for this text's walks alone
set_option linter.unusedVariables false
set_option linter.unusedSimpArgs false

/-! ### chargeparkref21_Cut: function 20 -/
def chargeparkref21_Cut.f (a0_0 : Int) (l0_1 : List (S39)) (a1 : Int) (a2 : Int) (l3 : List Bool) : Option (Bool) := if (l3.length : Int) = a0_0 then (if 0 ≤ a1 then (if a1 < (l3.length : Int) then (if rdOf false l3 a1 = true then (if 0 ≤ a2 then (if a2 < (l3.length : Int) then (some (!(rdOf false l3 a2))) else (none)) else (none)) else (some false)) else (none)) else (none)) else (some false)
set_option maxHeartbeats 8000000 in
set_option maxRecDepth 100000 in
theorem chargeparkref21_Cut.calls (a0_0 : Int) (A0_1 : Option Addr) (c0_1 : Nat) (l0_1 : List (S39)) (a1 : Int) (a2 : Int) (A3 : Option Addr) (c3 : Nat) (l3 : List Bool) (r : Bool) (w : World) (hr0_1 : Kd.C k39 w A0_1 l0_1.length l0_1) (hc0_1 : l0_1.length ≤ c0_1) (hr3 : Kd.C Kd.bool w A3 l3.length l3) (hc3 : l3.length ≤ c3) (h : chargeparkref21_Cut.f a0_0 l0_1 a1 a2 l3 = some r) :
    Calls Try.prog 20 #[.agg #[.int .i64 a0_0, .slice A0_1 l0_1.length c0_1], .int .i64 a1, .int .i64 a2, .slice A3 l3.length c3] w fun e w' => e = .returned (.bool r) ∧ Below w.heap.size w w' := by
  have hu24 := Try.underlying24
  have HR0_1 := Aside0.mk hr0_1
  have HC0_1 := Aside0.mk hc0_1
  clear hr0_1 hc0_1
  have HR3 := Aside0.mk hr3
  have HC3 := Aside0.mk hc3
  clear hr3 hc3
  have HB := Aside0.mk (Below.refl w.heap.size w)
  have H : (if (l3.length : Int) = a0_0 then (if 0 ≤ a1 then (if a1 < (l3.length : Int) then (if rdOf false l3 a1 = true then (if 0 ≤ a2 then (if a2 < (l3.length : Int) then (some (!(rdOf false l3 a2))) else (none)) else (none)) else (some false)) else (none)) else (none)) else (some false)) = some r := h
  clear h
  by_cases c5 : (l3.length : Int) = a0_0
  · rw [if_pos c5] at H
    have c5b0 : ((l3.length : Int) == a0_0) = true := beq_iff_eq.mpr c5
    have c5b1 : ((l3.length : Int) != a0_0) = false := bne_eq_false_iff_eq.mpr c5
    clear c5
    by_cases c6 : 0 ≤ a1
    · rw [if_pos c6] at H
      have c6b0 : decide (0 ≤ a1) = true := decide_eq_true c6
      clear c6
      by_cases c7 : a1 < (l3.length : Int)
      · rw [if_pos c7] at H
        have c7b0 : decide (a1 < (l3.length : Int)) = true := decide_eq_true c7
        clear c7
        obtain ⟨bq8, hbq8⟩ : ∃ b_ : Bool, b_ = (rdOf false l3 a1) := ⟨_, rfl⟩
        replace H : (if bq8 = true then (if 0 ≤ a2 then (if a2 < (l3.length : Int) then (some (!(rdOf false l3 a2))) else (none)) else (none)) else (some false)) = some r := by rw [← hbq8] at H; exact H
        have Nbq8 := Aside0.mk hbq8
        clear hbq8
        by_cases c9 : bq8 = true
        · subst c9
          have H1 : (if 0 ≤ a2 then (if a2 < (l3.length : Int) then (some (!(rdOf false l3 a2))) else (none)) else (none)) = some r := by rw [if_pos rfl] at H; exact H
          clear H
          have H := H1
          clear H1
          by_cases c10 : 0 ≤ a2
          · rw [if_pos c10] at H
            have c10b0 : decide (0 ≤ a2) = true := decide_eq_true c10
            clear c10
            by_cases c11 : a2 < (l3.length : Int)
            · rw [if_pos c11] at H
              have c11b0 : decide (a2 < (l3.length : Int)) = true := decide_eq_true c11
              clear c11
              obtain rfl := Option.some.inj H
              go_enter Try.func20, Try.ntmps20
              go_wp2_with (first | ((with_reducible refine gate_dst (N := 4) rfl ?_); refine box_event ?hg (N := 4) ?hd (cs := #[.int .i64 a0_0, .slice A0_1 l0_1.length c0_1]) (t := 24) ?hr ?_; (case hd => rfl); (case hg => rfl); (case hr => first | (go_simp; done) | (go_simp; rfl)); intro gb215 hg w12 hbox hb; have n0_ := Aside0.mk (below_step (by repeat (first | (with_reducible first | exact HB.out | apply below_alloc | apply pw_below_drewN | apply below_drew1) | exact HB.out)) hb); have n1_ := Aside0.mk (hbox); have n2_ := Aside0.mk ((by rw [hg]; exact (below_size (by repeat (first | (with_reducible first | exact HB.out | apply below_alloc | apply pw_below_drewN | apply below_drew1) | exact HB.out))) : w.heap.size ≤ gb215)); have n3_ := Aside0.mk ((by rw [hg]; exact (below_size (by repeat (first | (with_reducible first | exact HB.out | apply below_alloc | apply pw_below_drewN | apply below_drew1) | exact HB.out))) : w.heap.size ≤ gb215)); clear HB; have HB := n0_; have BK215 := n1_; have GW215 := n2_; have GE215 := n3_; clear n0_ n1_ n2_ n3_; clear hb hbox hg; have hcz13_0 : w12.cell? ⟨gb215, 0, none⟩ = some (.int .i64 a0_0) := (blk_cell BK215.out 0).trans rfl; have hcz13_1 : w12.cell? ⟨gb215, 1, none⟩ = some (.slice A0_1 l0_1.length c0_1) := (blk_cell BK215.out 1).trans rfl; have hfz13_0 := blk_frozen BK215.out 0; have hfz13_1 := blk_frozen BK215.out 1; have p216 : 0 ≤ (a1 : Int) := of_decide_eq_true (by first | (with_reducible assumption) | assumption); have q216 : a1 < (l3.length : Int) := of_decide_eq_true (by first | (with_reducible assumption) | assumption); obtain ⟨ad216, e216, hx216_0⟩ := Kd.at_bool HR3.out a1 p216 q216; (try rw [← Nbq8.out] at hx216_0); cases e216; replace hx216_0 := (HB.out.cell (World.block_lt_of_cell? w _ hx216_0)).trans hx216_0; replace p216 := eq_true p216; replace q216 := eq_true q216; have p217 : 0 ≤ (a2 : Int) := of_decide_eq_true (by first | (with_reducible assumption) | assumption); have q217 : a2 < (l3.length : Int) := of_decide_eq_true (by first | (with_reducible assumption) | assumption); obtain ⟨ad217, e217, hx217_0⟩ := Kd.at_bool HR3.out a2 p217 q217; (try rw [← Nbq8.out] at hx217_0); obtain rfl : ad216 = ad217 := (by injection e217); replace hx217_0 := (HB.out.cell (World.block_lt_of_cell? w _ hx217_0)).trans hx217_0; replace p217 := eq_true p217; replace q217 := eq_true q217))
              go_ret
              exact ⟨by first | rfl | (simp [errW_none, errW_some] <;> rfl) | (simp [*, errW_none, errW_some] <;> rfl), by repeat (first | (with_reducible first | exact HB.out | apply below_alloc | apply pw_below_drewN | apply below_drew1 | refine below_set ?_ GE215.out) | exact HB.out)⟩
            · rw [if_neg c11] at H
              exact absurd H (by simp)
          · rw [if_neg c10] at H
            exact absurd H (by simp)
        · replace c9 := Bool.eq_false_iff.mpr c9
          subst c9
          have H1 : (some false) = some r := by rw [if_neg (show ¬ (false = true) by decide)] at H; exact H
          clear H
          have H := H1
          clear H1
          obtain rfl := Option.some.inj H
          go_enter Try.func20, Try.ntmps20
          go_wp2_with (first | ((with_reducible refine gate_dst (N := 4) rfl ?_); refine box_event ?hg (N := 4) ?hd (cs := #[.int .i64 a0_0, .slice A0_1 l0_1.length c0_1]) (t := 24) ?hr ?_; (case hd => rfl); (case hg => rfl); (case hr => first | (go_simp; done) | (go_simp; rfl)); intro gb215 hg w14 hbox hb; have n0_ := Aside0.mk (below_step (by repeat (first | (with_reducible first | exact HB.out | apply below_alloc | apply pw_below_drewN | apply below_drew1) | exact HB.out)) hb); have n1_ := Aside0.mk (hbox); have n2_ := Aside0.mk ((by rw [hg]; exact (below_size (by repeat (first | (with_reducible first | exact HB.out | apply below_alloc | apply pw_below_drewN | apply below_drew1) | exact HB.out))) : w.heap.size ≤ gb215)); have n3_ := Aside0.mk ((by rw [hg]; exact (below_size (by repeat (first | (with_reducible first | exact HB.out | apply below_alloc | apply pw_below_drewN | apply below_drew1) | exact HB.out))) : w.heap.size ≤ gb215)); clear HB; have HB := n0_; have BK215 := n1_; have GW215 := n2_; have GE215 := n3_; clear n0_ n1_ n2_ n3_; clear hb hbox hg; have hcz15_0 : w14.cell? ⟨gb215, 0, none⟩ = some (.int .i64 a0_0) := (blk_cell BK215.out 0).trans rfl; have hcz15_1 : w14.cell? ⟨gb215, 1, none⟩ = some (.slice A0_1 l0_1.length c0_1) := (blk_cell BK215.out 1).trans rfl; have hfz15_0 := blk_frozen BK215.out 0; have hfz15_1 := blk_frozen BK215.out 1; have p216 : 0 ≤ (a1 : Int) := of_decide_eq_true (by first | (with_reducible assumption) | assumption); have q216 : a1 < (l3.length : Int) := of_decide_eq_true (by first | (with_reducible assumption) | assumption); obtain ⟨ad216, e216, hx216_0⟩ := Kd.at_bool HR3.out a1 p216 q216; (try rw [← Nbq8.out] at hx216_0); cases e216; replace hx216_0 := (HB.out.cell (World.block_lt_of_cell? w _ hx216_0)).trans hx216_0; replace p216 := eq_true p216; replace q216 := eq_true q216))
          go_ret
          exact ⟨by first | rfl | (simp [errW_none, errW_some] <;> rfl) | (simp [*, errW_none, errW_some] <;> rfl), by repeat (first | (with_reducible first | exact HB.out | apply below_alloc | apply pw_below_drewN | apply below_drew1 | refine below_set ?_ GE215.out) | exact HB.out)⟩
      · rw [if_neg c7] at H
        exact absurd H (by simp)
    · rw [if_neg c6] at H
      exact absurd H (by simp)
  · rw [if_neg c5] at H
    have c5b0 : ((l3.length : Int) == a0_0) = false := beq_eq_false_iff_ne.mpr c5
    have c5b1 : ((l3.length : Int) != a0_0) = true := bne_iff_ne.mpr c5
    obtain rfl := Option.some.inj H
    go_enter Try.func20, Try.ntmps20
    go_wp2_with (first | ((with_reducible refine gate_dst (N := 4) rfl ?_); refine box_event ?hg (N := 4) ?hd (cs := #[.int .i64 a0_0, .slice A0_1 l0_1.length c0_1]) (t := 24) ?hr ?_; (case hd => rfl); (case hg => rfl); (case hr => first | (go_simp; done) | (go_simp; rfl)); intro gb215 hg w16 hbox hb; have n0_ := Aside0.mk (below_step (by repeat (first | (with_reducible first | exact HB.out | apply below_alloc | apply pw_below_drewN | apply below_drew1) | exact HB.out)) hb); have n1_ := Aside0.mk (hbox); have n2_ := Aside0.mk ((by rw [hg]; exact (below_size (by repeat (first | (with_reducible first | exact HB.out | apply below_alloc | apply pw_below_drewN | apply below_drew1) | exact HB.out))) : w.heap.size ≤ gb215)); have n3_ := Aside0.mk ((by rw [hg]; exact (below_size (by repeat (first | (with_reducible first | exact HB.out | apply below_alloc | apply pw_below_drewN | apply below_drew1) | exact HB.out))) : w.heap.size ≤ gb215)); clear HB; have HB := n0_; have BK215 := n1_; have GW215 := n2_; have GE215 := n3_; clear n0_ n1_ n2_ n3_; clear hb hbox hg; have hcz17_0 : w16.cell? ⟨gb215, 0, none⟩ = some (.int .i64 a0_0) := (blk_cell BK215.out 0).trans rfl; have hcz17_1 : w16.cell? ⟨gb215, 1, none⟩ = some (.slice A0_1 l0_1.length c0_1) := (blk_cell BK215.out 1).trans rfl; have hfz17_0 := blk_frozen BK215.out 0; have hfz17_1 := blk_frozen BK215.out 1))
    go_ret
    exact ⟨by first | rfl | (simp [errW_none, errW_some] <;> rfl) | (simp [*, errW_none, errW_some] <;> rfl), by repeat (first | (with_reducible first | exact HB.out | apply below_alloc | apply pw_below_drewN | apply below_drew1 | refine below_set ?_ GE215.out) | exact HB.out)⟩

/-! ### chargeparkref21_Capacity: function 22 -/
def chargeparkref21_Capacity.l0 : Nat → List Bool → Int → Int → Int → List (S39) → Option (Int)
  | 0, _, _, _, _, _ => none
  | k + 1, x1, x5, x6, x219000, x219001 => if x6 < (x219001.length : Int) then (if 0 ≤ x6 then (if 0 ≤ ((rd_T39 x219001 x6).f0) then (if ((rd_T39 x219001 x6).f0) < (x1.length : Int) then (if rdOf false x1 ((rd_T39 x219001 x6).f0) = true then (if 0 ≤ ((rd_T39 x219001 x6).f1) then (if ((rd_T39 x219001 x6).f1) < (x1.length : Int) then (if (rdOf false x1 ((rd_T39 x219001 x6).f1) = true) then (chargeparkref21_Capacity.l0 k x1 x5 (wrap64 (x6 + 1)) x219000 x219001) else (chargeparkref21_Capacity.l0 k x1 (wrap64 (x5 + ((rd_T39 x219001 x6).f2))) (wrap64 (x6 + 1)) x219000 x219001)) else (none)) else (none)) else (chargeparkref21_Capacity.l0 k x1 x5 (wrap64 (x6 + 1)) x219000 x219001)) else (none)) else (none)) else (none)) else (some x5)
def chargeparkref21_Capacity.f (k : Nat) (a0_0 : Int) (l0_1 : List (S39)) (l1 : List Bool) : Option (Int) := chargeparkref21_Capacity.l0 k l1 0 0 a0_0 l0_1
theorem chargeparkref21_Capacity.mono_l : ∀ k, (∀ y0 y1 y2 y3 y4, LeO (chargeparkref21_Capacity.l0 k y0 y1 y2 y3 y4) (chargeparkref21_Capacity.l0 (k + 1) y0 y1 y2 y3 y4))
  | 0 => fun _ _ _ _ _ r h => by simp [chargeparkref21_Capacity.l0] at h
  | k + 1 => by
    have ih0 := chargeparkref21_Capacity.mono_l k
    · intro y0 y1 y2 y3 y4
      unfold chargeparkref21_Capacity.l0
      repeat' first
      | (with_reducible exact ih0 _ _ _ _ _)
      | (with_reducible exact LeO.refl _)
      | (with_reducible exact LeO.none _)
      | (with_reducible refine LeO.ite ?_ ?_)
      | (with_reducible refine LeO.bind ?_ (fun _ => ?_))
      | exact ih0 _ _ _ _ _
      | exact LeO.none _
      | refine LeO.ite ?_ ?_
      | refine LeO.bind ?_ (fun _ => ?_)
theorem chargeparkref21_Capacity.mono : ∀ a0 a1 a2 k, LeO (chargeparkref21_Capacity.f k a0 a1 a2) (chargeparkref21_Capacity.f (k + 1) a0 a1 a2) := by
  intro a0 a1 a2 k
  have ih0 := chargeparkref21_Capacity.mono_l k
  unfold chargeparkref21_Capacity.f
  repeat' first
      | (with_reducible exact ih0 _ _ _ _ _)
      | (with_reducible exact LeO.refl _)
      | (with_reducible exact LeO.none _)
      | (with_reducible refine LeO.ite ?_ ?_)
      | (with_reducible refine LeO.bind ?_ (fun _ => ?_))
      | exact ih0 _ _ _ _ _
      | exact LeO.none _
      | refine LeO.ite ?_ ?_
      | refine LeO.bind ?_ (fun _ => ?_)
set_option maxHeartbeats 8000000 in
set_option maxRecDepth 100000 in
theorem chargeparkref21_Capacity.calls (k : Nat) (a0_0 : Int) (A0_1 : Option Addr) (c0_1 : Nat) (l0_1 : List (S39)) (A1 : Option Addr) (c1 : Nat) (l1 : List Bool) (r : Int) (w : World) (hr0_1 : Kd.C k39 w A0_1 l0_1.length l0_1) (hc0_1 : l0_1.length ≤ c0_1) (hr1 : Kd.C Kd.bool w A1 l1.length l1) (hc1 : l1.length ≤ c1) (h : chargeparkref21_Capacity.f k a0_0 l0_1 l1 = some r) :
    Calls Try.prog 22 #[.agg #[.int .i64 a0_0, .slice A0_1 l0_1.length c0_1], .slice A1 l1.length c1] w fun e w' => e = .returned (.int .i64 r) ∧ Below w.heap.size w w' := by
  have hu24 := Try.underlying24
  have HR0_1 := Aside0.mk hr0_1
  have HC0_1 := Aside0.mk hc0_1
  clear hr0_1 hc0_1
  have HR1 := Aside0.mk hr1
  have HC1 := Aside0.mk hc1
  clear hr1 hc1
  have HB := Aside0.mk (Below.refl w.heap.size w)
  have H : (chargeparkref21_Capacity.l0 k l1 0 0 a0_0 l0_1) = some r := h
  clear h
  have H' := Aside0.mk H
  clear H
  go_enter Try.func22, Try.ntmps22
  go_wp2_with (first | ((with_reducible refine gate_dst (N := 2) rfl ?_); refine box_event ?hg (N := 2) ?hd (cs := #[.int .i64 a0_0, .slice A0_1 l0_1.length c0_1]) (t := 24) ?hr ?_; (case hd => rfl); (case hg => rfl); (case hr => first | (go_simp; done) | (go_simp; rfl)); intro gb218 hg w3 hbox hb; have n0_ := Aside0.mk (below_step (by repeat (first | (with_reducible first | exact HB.out | apply below_alloc | apply pw_below_drewN | apply below_drew1) | exact HB.out)) hb); have n1_ := Aside0.mk (hbox); have n2_ := Aside0.mk ((by rw [hg]; exact (below_size (by repeat (first | (with_reducible first | exact HB.out | apply below_alloc | apply pw_below_drewN | apply below_drew1) | exact HB.out))) : w.heap.size ≤ gb218)); have n3_ := Aside0.mk ((by rw [hg]; exact (below_size (by repeat (first | (with_reducible first | exact HB.out | apply below_alloc | apply pw_below_drewN | apply below_drew1) | exact HB.out))) : w.heap.size ≤ gb218)); clear HB; have HB := n0_; have BK218 := n1_; have GW218 := n2_; have GE218 := n3_; clear n0_ n1_ n2_ n3_; clear hb hbox hg))
  go_loopg [5, 6] k (fun kq v5 v6 w' => ∃ (x5_1 : Int) (x6_1 : Int), v5 = .int .i64 x5_1 ∧ v6 = .int .i64 x6_1 ∧ Aside0 (chargeparkref21_Capacity.l0 kq l1 x5_1 x6_1 a0_0 l0_1 = some r) ∧ Aside0 (kq ≤ k) ∧ Aside0 (w'.heap[gb218]? = some (.cells #[.int .i64 a0_0, (.slice A0_1 l0_1.length c0_1)] 24 (0, 0))) ∧ Aside0 (Below w.heap.size w w'))
  case atStart => exact ⟨(0), (0), (by first | rfl | (simp; done) | (simp [*]; done)), (by first | rfl | (simp; done) | (simp [*]; done)), H', ⟨Nat.le_refl _⟩, ⟨by (with_reducible repeat (first | refine blk_drewN ?_ _ | refine blk_drew ?_ | refine blk_alloc ?_ _)); exact BK218.out⟩, ⟨by repeat (first | (with_reducible first | exact HB.out | apply below_alloc | apply pw_below_drewN | apply below_drew1 | refine below_set ?_ GE218.out) | exact HB.out)⟩⟩
  case round =>
    clear H'
    try clear c1
    try clear c2
    try clear p2
    obtain ⟨x5_1, x6_1, rfl, rfl, HA, HK1, BK218, HB⟩ := hrel
    cases gk with
    | zero => exact absurd HA.out (by simp [chargeparkref21_Capacity.l0])
    | succ k1 =>
      have H := HA.out
      clear HA
      simp only [chargeparkref21_Capacity.l0] at H
      by_cases c4 : x6_1 < (l0_1.length : Int)
      · rw [if_pos c4] at H
        have c4b0 : decide (x6_1 < (l0_1.length : Int)) = true := decide_eq_true c4
        clear c4
        by_cases c5 : 0 ≤ x6_1
        · rw [if_pos c5] at H
          have c5b0 : decide (0 ≤ x6_1) = true := decide_eq_true c5
          clear c5
          by_cases c6 : 0 ≤ ((rd_T39 l0_1 x6_1).f0)
          · rw [if_pos c6] at H
            have c6b0 : decide (0 ≤ ((rd_T39 l0_1 x6_1).f0)) = true := decide_eq_true c6
            clear c6
            by_cases c7 : ((rd_T39 l0_1 x6_1).f0) < (l1.length : Int)
            · rw [if_pos c7] at H
              have c7b0 : decide (((rd_T39 l0_1 x6_1).f0) < (l1.length : Int)) = true := decide_eq_true c7
              clear c7
              obtain ⟨bq8, hbq8⟩ : ∃ b_ : Bool, b_ = (rdOf false l1 ((rd_T39 l0_1 x6_1).f0)) := ⟨_, rfl⟩
              replace H : (if bq8 = true then (if 0 ≤ ((rd_T39 l0_1 x6_1).f1) then (if ((rd_T39 l0_1 x6_1).f1) < (l1.length : Int) then (if (rdOf false l1 ((rd_T39 l0_1 x6_1).f1) = true) then (chargeparkref21_Capacity.l0 k1 l1 x5_1 (wrap64 (x6_1 + 1)) a0_0 l0_1) else (chargeparkref21_Capacity.l0 k1 l1 (wrap64 (x5_1 + ((rd_T39 l0_1 x6_1).f2))) (wrap64 (x6_1 + 1)) a0_0 l0_1)) else (none)) else (none)) else (chargeparkref21_Capacity.l0 k1 l1 x5_1 (wrap64 (x6_1 + 1)) a0_0 l0_1)) = some r := by rw [← hbq8] at H; exact H
              have Nbq8 := Aside0.mk hbq8
              clear hbq8
              by_cases c9 : bq8 = true
              · subst c9
                have H1 : (if 0 ≤ ((rd_T39 l0_1 x6_1).f1) then (if ((rd_T39 l0_1 x6_1).f1) < (l1.length : Int) then (if (rdOf false l1 ((rd_T39 l0_1 x6_1).f1) = true) then (chargeparkref21_Capacity.l0 k1 l1 x5_1 (wrap64 (x6_1 + 1)) a0_0 l0_1) else (chargeparkref21_Capacity.l0 k1 l1 (wrap64 (x5_1 + ((rd_T39 l0_1 x6_1).f2))) (wrap64 (x6_1 + 1)) a0_0 l0_1)) else (none)) else (none)) = some r := by rw [if_pos rfl] at H; exact H
                clear H
                have H := H1
                clear H1
                by_cases c10 : 0 ≤ ((rd_T39 l0_1 x6_1).f1)
                · rw [if_pos c10] at H
                  have c10b0 : decide (0 ≤ ((rd_T39 l0_1 x6_1).f1)) = true := decide_eq_true c10
                  clear c10
                  by_cases c11 : ((rd_T39 l0_1 x6_1).f1) < (l1.length : Int)
                  · rw [if_pos c11] at H
                    have c11b0 : decide (((rd_T39 l0_1 x6_1).f1) < (l1.length : Int)) = true := decide_eq_true c11
                    clear c11
                    obtain ⟨bq12, hbq12⟩ : ∃ b_ : Bool, b_ = (rdOf false l1 ((rd_T39 l0_1 x6_1).f1)) := ⟨_, rfl⟩
                    replace H : (if (bq12 = true) then (chargeparkref21_Capacity.l0 k1 l1 x5_1 (wrap64 (x6_1 + 1)) a0_0 l0_1) else (chargeparkref21_Capacity.l0 k1 l1 (wrap64 (x5_1 + ((rd_T39 l0_1 x6_1).f2))) (wrap64 (x6_1 + 1)) a0_0 l0_1)) = some r := by rw [← hbq12] at H; exact H
                    have Nbq12 := Aside0.mk hbq12
                    clear hbq12
                    by_cases c13 : (bq12 = true)
                    · subst c13
                      have H1 : (chargeparkref21_Capacity.l0 k1 l1 x5_1 (wrap64 (x6_1 + 1)) a0_0 l0_1) = some r := by rw [if_pos rfl] at H; exact H
                      clear H
                      have H := H1
                      clear H1
                      have H' := Aside0.mk H
                      clear H
                      have hcz14_0 : wr.cell? ⟨gb218, 0, none⟩ = some (.int .i64 a0_0) := (blk_cell BK218.out 0).trans rfl
                      have hcz14_1 : wr.cell? ⟨gb218, 1, none⟩ = some (.slice A0_1 l0_1.length c0_1) := (blk_cell BK218.out 1).trans rfl
                      have hfz14_0 := blk_frozen BK218.out 0
                      have hfz14_1 := blk_frozen BK218.out 1
                      have p219 : 0 ≤ (x6_1 : Int) := of_decide_eq_true (by first | (with_reducible assumption) | assumption)
                      have q219 : x6_1 < (l0_1.length : Int) := of_decide_eq_true (by first | (with_reducible assumption) | assumption)
                      obtain ⟨ad219, e219, hx219_0, hx219_1, hx219_2⟩ := at_T39 HR0_1.out x6_1 p219 q219
                      cases e219
                      replace hx219_0 := (HB.out.cell (World.block_lt_of_cell? w _ hx219_0)).trans hx219_0
                      replace hx219_1 := (HB.out.cell (World.block_lt_of_cell? w _ hx219_1)).trans hx219_1
                      replace hx219_2 := (HB.out.cell (World.block_lt_of_cell? w _ hx219_2)).trans hx219_2
                      replace p219 := eq_true p219
                      replace q219 := eq_true q219
                      have p220 : 0 ≤ (((rd_T39 l0_1 x6_1).f0) : Int) := of_decide_eq_true (by first | (with_reducible assumption) | assumption)
                      have q220 : ((rd_T39 l0_1 x6_1).f0) < (l1.length : Int) := of_decide_eq_true (by first | (with_reducible assumption) | assumption)
                      obtain ⟨ad220, e220, hx220_0⟩ := Kd.at_bool HR1.out ((rd_T39 l0_1 x6_1).f0) p220 q220
                      (try rw [← Nbq8.out] at hx220_0)
                      (try rw [← Nbq12.out] at hx220_0)
                      cases e220
                      replace hx220_0 := (HB.out.cell (World.block_lt_of_cell? w _ hx220_0)).trans hx220_0
                      replace p220 := eq_true p220
                      replace q220 := eq_true q220
                      have p221 : 0 ≤ (x6_1 : Int) := of_decide_eq_true (by first | (with_reducible assumption) | assumption)
                      have q221 : x6_1 < (l0_1.length : Int) := of_decide_eq_true (by first | (with_reducible assumption) | assumption)
                      obtain ⟨ad221, e221, hx221_0, hx221_1, hx221_2⟩ := at_T39 HR0_1.out x6_1 p221 q221
                      obtain rfl : ad219 = ad221 := (by injection e221)
                      replace hx221_0 := (HB.out.cell (World.block_lt_of_cell? w _ hx221_0)).trans hx221_0
                      replace hx221_1 := (HB.out.cell (World.block_lt_of_cell? w _ hx221_1)).trans hx221_1
                      replace hx221_2 := (HB.out.cell (World.block_lt_of_cell? w _ hx221_2)).trans hx221_2
                      replace p221 := eq_true p221
                      replace q221 := eq_true q221
                      have p222 : 0 ≤ (((rd_T39 l0_1 x6_1).f1) : Int) := of_decide_eq_true (by first | (with_reducible assumption) | assumption)
                      have q222 : ((rd_T39 l0_1 x6_1).f1) < (l1.length : Int) := of_decide_eq_true (by first | (with_reducible assumption) | assumption)
                      obtain ⟨ad222, e222, hx222_0⟩ := Kd.at_bool HR1.out ((rd_T39 l0_1 x6_1).f1) p222 q222
                      (try rw [← Nbq8.out] at hx222_0)
                      (try rw [← Nbq12.out] at hx222_0)
                      obtain rfl : ad220 = ad222 := (by injection e222)
                      replace hx222_0 := (HB.out.cell (World.block_lt_of_cell? w _ hx222_0)).trans hx222_0
                      replace p222 := eq_true p222
                      replace q222 := eq_true q222
                      go_wp2
                      go_roundg k1
                      case measure => have := HK1.out; omega
                      case rel => exact ⟨(x5_1), (wrap64 (x6_1 + 1)), (by first | rfl | (simp; done) | (simp [*]; done)), (by first | rfl | (simp; done) | (simp [*]; done)), H', ⟨by have := HK1.out; omega⟩, ⟨by (with_reducible repeat (first | refine blk_drewN ?_ _ | refine blk_drew ?_ | refine blk_alloc ?_ _)); exact BK218.out⟩, ⟨by repeat (first | (with_reducible first | exact HB.out | apply below_alloc | apply pw_below_drewN | apply below_drew1 | refine below_set ?_ GE218.out) | exact HB.out)⟩⟩
                    · replace c13 := Bool.eq_false_iff.mpr c13
                      subst c13
                      have H1 : (chargeparkref21_Capacity.l0 k1 l1 (wrap64 (x5_1 + ((rd_T39 l0_1 x6_1).f2))) (wrap64 (x6_1 + 1)) a0_0 l0_1) = some r := by rw [if_neg (show ¬ (false = true) by decide)] at H; exact H
                      clear H
                      have H := H1
                      clear H1
                      have H' := Aside0.mk H
                      clear H
                      have hcz15_0 : wr.cell? ⟨gb218, 0, none⟩ = some (.int .i64 a0_0) := (blk_cell BK218.out 0).trans rfl
                      have hcz15_1 : wr.cell? ⟨gb218, 1, none⟩ = some (.slice A0_1 l0_1.length c0_1) := (blk_cell BK218.out 1).trans rfl
                      have hfz15_0 := blk_frozen BK218.out 0
                      have hfz15_1 := blk_frozen BK218.out 1
                      have p219 : 0 ≤ (x6_1 : Int) := of_decide_eq_true (by first | (with_reducible assumption) | assumption)
                      have q219 : x6_1 < (l0_1.length : Int) := of_decide_eq_true (by first | (with_reducible assumption) | assumption)
                      obtain ⟨ad219, e219, hx219_0, hx219_1, hx219_2⟩ := at_T39 HR0_1.out x6_1 p219 q219
                      cases e219
                      replace hx219_0 := (HB.out.cell (World.block_lt_of_cell? w _ hx219_0)).trans hx219_0
                      replace hx219_1 := (HB.out.cell (World.block_lt_of_cell? w _ hx219_1)).trans hx219_1
                      replace hx219_2 := (HB.out.cell (World.block_lt_of_cell? w _ hx219_2)).trans hx219_2
                      replace p219 := eq_true p219
                      replace q219 := eq_true q219
                      have p220 : 0 ≤ (((rd_T39 l0_1 x6_1).f0) : Int) := of_decide_eq_true (by first | (with_reducible assumption) | assumption)
                      have q220 : ((rd_T39 l0_1 x6_1).f0) < (l1.length : Int) := of_decide_eq_true (by first | (with_reducible assumption) | assumption)
                      obtain ⟨ad220, e220, hx220_0⟩ := Kd.at_bool HR1.out ((rd_T39 l0_1 x6_1).f0) p220 q220
                      (try rw [← Nbq8.out] at hx220_0)
                      (try rw [← Nbq12.out] at hx220_0)
                      cases e220
                      replace hx220_0 := (HB.out.cell (World.block_lt_of_cell? w _ hx220_0)).trans hx220_0
                      replace p220 := eq_true p220
                      replace q220 := eq_true q220
                      have p221 : 0 ≤ (x6_1 : Int) := of_decide_eq_true (by first | (with_reducible assumption) | assumption)
                      have q221 : x6_1 < (l0_1.length : Int) := of_decide_eq_true (by first | (with_reducible assumption) | assumption)
                      obtain ⟨ad221, e221, hx221_0, hx221_1, hx221_2⟩ := at_T39 HR0_1.out x6_1 p221 q221
                      obtain rfl : ad219 = ad221 := (by injection e221)
                      replace hx221_0 := (HB.out.cell (World.block_lt_of_cell? w _ hx221_0)).trans hx221_0
                      replace hx221_1 := (HB.out.cell (World.block_lt_of_cell? w _ hx221_1)).trans hx221_1
                      replace hx221_2 := (HB.out.cell (World.block_lt_of_cell? w _ hx221_2)).trans hx221_2
                      replace p221 := eq_true p221
                      replace q221 := eq_true q221
                      have p222 : 0 ≤ (((rd_T39 l0_1 x6_1).f1) : Int) := of_decide_eq_true (by first | (with_reducible assumption) | assumption)
                      have q222 : ((rd_T39 l0_1 x6_1).f1) < (l1.length : Int) := of_decide_eq_true (by first | (with_reducible assumption) | assumption)
                      obtain ⟨ad222, e222, hx222_0⟩ := Kd.at_bool HR1.out ((rd_T39 l0_1 x6_1).f1) p222 q222
                      (try rw [← Nbq8.out] at hx222_0)
                      (try rw [← Nbq12.out] at hx222_0)
                      obtain rfl : ad220 = ad222 := (by injection e222)
                      replace hx222_0 := (HB.out.cell (World.block_lt_of_cell? w _ hx222_0)).trans hx222_0
                      replace p222 := eq_true p222
                      replace q222 := eq_true q222
                      have p223 : 0 ≤ (x6_1 : Int) := of_decide_eq_true (by first | (with_reducible assumption) | assumption)
                      have q223 : x6_1 < (l0_1.length : Int) := of_decide_eq_true (by first | (with_reducible assumption) | assumption)
                      obtain ⟨ad223, e223, hx223_0, hx223_1, hx223_2⟩ := at_T39 HR0_1.out x6_1 p223 q223
                      obtain rfl : ad219 = ad223 := (by injection e223)
                      replace hx223_0 := (HB.out.cell (World.block_lt_of_cell? w _ hx223_0)).trans hx223_0
                      replace hx223_1 := (HB.out.cell (World.block_lt_of_cell? w _ hx223_1)).trans hx223_1
                      replace hx223_2 := (HB.out.cell (World.block_lt_of_cell? w _ hx223_2)).trans hx223_2
                      replace p223 := eq_true p223
                      replace q223 := eq_true q223
                      go_wp2
                      go_roundg k1
                      case measure => have := HK1.out; omega
                      case rel => exact ⟨(wrap64 (x5_1 + ((rd_T39 l0_1 x6_1).f2))), (wrap64 (x6_1 + 1)), (by first | rfl | (simp; done) | (simp [*]; done)), (by first | rfl | (simp; done) | (simp [*]; done)), H', ⟨by have := HK1.out; omega⟩, ⟨by (with_reducible repeat (first | refine blk_drewN ?_ _ | refine blk_drew ?_ | refine blk_alloc ?_ _)); exact BK218.out⟩, ⟨by repeat (first | (with_reducible first | exact HB.out | apply below_alloc | apply pw_below_drewN | apply below_drew1 | refine below_set ?_ GE218.out) | exact HB.out)⟩⟩
                  · rw [if_neg c11] at H
                    exact absurd H (by simp)
                · rw [if_neg c10] at H
                  exact absurd H (by simp)
              · replace c9 := Bool.eq_false_iff.mpr c9
                subst c9
                have H1 : (chargeparkref21_Capacity.l0 k1 l1 x5_1 (wrap64 (x6_1 + 1)) a0_0 l0_1) = some r := by rw [if_neg (show ¬ (false = true) by decide)] at H; exact H
                clear H
                have H := H1
                clear H1
                have H' := Aside0.mk H
                clear H
                have hcz16_0 : wr.cell? ⟨gb218, 0, none⟩ = some (.int .i64 a0_0) := (blk_cell BK218.out 0).trans rfl
                have hcz16_1 : wr.cell? ⟨gb218, 1, none⟩ = some (.slice A0_1 l0_1.length c0_1) := (blk_cell BK218.out 1).trans rfl
                have hfz16_0 := blk_frozen BK218.out 0
                have hfz16_1 := blk_frozen BK218.out 1
                have p219 : 0 ≤ (x6_1 : Int) := of_decide_eq_true (by first | (with_reducible assumption) | assumption)
                have q219 : x6_1 < (l0_1.length : Int) := of_decide_eq_true (by first | (with_reducible assumption) | assumption)
                obtain ⟨ad219, e219, hx219_0, hx219_1, hx219_2⟩ := at_T39 HR0_1.out x6_1 p219 q219
                cases e219
                replace hx219_0 := (HB.out.cell (World.block_lt_of_cell? w _ hx219_0)).trans hx219_0
                replace hx219_1 := (HB.out.cell (World.block_lt_of_cell? w _ hx219_1)).trans hx219_1
                replace hx219_2 := (HB.out.cell (World.block_lt_of_cell? w _ hx219_2)).trans hx219_2
                replace p219 := eq_true p219
                replace q219 := eq_true q219
                have p220 : 0 ≤ (((rd_T39 l0_1 x6_1).f0) : Int) := of_decide_eq_true (by first | (with_reducible assumption) | assumption)
                have q220 : ((rd_T39 l0_1 x6_1).f0) < (l1.length : Int) := of_decide_eq_true (by first | (with_reducible assumption) | assumption)
                obtain ⟨ad220, e220, hx220_0⟩ := Kd.at_bool HR1.out ((rd_T39 l0_1 x6_1).f0) p220 q220
                (try rw [← Nbq8.out] at hx220_0)
                cases e220
                replace hx220_0 := (HB.out.cell (World.block_lt_of_cell? w _ hx220_0)).trans hx220_0
                replace p220 := eq_true p220
                replace q220 := eq_true q220
                go_wp2
                go_roundg k1
                case measure => have := HK1.out; omega
                case rel => exact ⟨(x5_1), (wrap64 (x6_1 + 1)), (by first | rfl | (simp; done) | (simp [*]; done)), (by first | rfl | (simp; done) | (simp [*]; done)), H', ⟨by have := HK1.out; omega⟩, ⟨by (with_reducible repeat (first | refine blk_drewN ?_ _ | refine blk_drew ?_ | refine blk_alloc ?_ _)); exact BK218.out⟩, ⟨by repeat (first | (with_reducible first | exact HB.out | apply below_alloc | apply pw_below_drewN | apply below_drew1 | refine below_set ?_ GE218.out) | exact HB.out)⟩⟩
            · rw [if_neg c7] at H
              exact absurd H (by simp)
          · rw [if_neg c6] at H
            exact absurd H (by simp)
        · rw [if_neg c5] at H
          exact absurd H (by simp)
      · rw [if_neg c4] at H
        have c4b0 : decide (x6_1 < (l0_1.length : Int)) = false := decide_eq_false c4
        clear c4
        obtain rfl := Option.some.inj H
        have hcz17_0 : wr.cell? ⟨gb218, 0, none⟩ = some (.int .i64 a0_0) := (blk_cell BK218.out 0).trans rfl
        have hcz17_1 : wr.cell? ⟨gb218, 1, none⟩ = some (.slice A0_1 l0_1.length c0_1) := (blk_cell BK218.out 1).trans rfl
        have hfz17_0 := blk_frozen BK218.out 0
        have hfz17_1 := blk_frozen BK218.out 1
        go_wp2
        go_ret
        exact ⟨by first | rfl | (simp [errW_none, errW_some] <;> rfl) | (simp [*, errW_none, errW_some] <;> rfl), by repeat (first | (with_reducible first | exact HB.out | apply below_alloc | apply pw_below_drewN | apply below_drew1 | refine below_set ?_ GE218.out) | exact HB.out)⟩

end Go.Proofs.Ytfjbbmgnfpeogaa.Pr
