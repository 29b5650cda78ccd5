-- Written by a program of this session over the kit's print.
import Derived.Test.YtioglahnliajlaaPr0
import Derived.Test.YtioglahnliajlaaPr8
import Derived.Test.YtioglahnliajlaaPr10
namespace Go.Proofs.Ytioglahnliajlaa.Pr
open Go.RowKit Go.Proofs.YtioglahnliajlaaW.PrintWords Go.Proofs.YtioglahnliajlaaW.PrintLast Go.Proofs.YtioglahnliajlaaW.PrintMore
attribute [local go_sem] max2_int min2_int max_two min_two max_three min_three max_four min_four   -- for this text's walks alone
set_option linter.unusedVariables false
set_option linter.unusedSimpArgs false

/-! ### chargeparkref27_CheckCut: function 19 -/
mutual
def chargeparkref27_CheckCut.j0 : Nat → List (S38) → List Int → Bool → List Int → List Int → Option (Bool)
  | 0, _, _, _, _, _ => none
  | k + 1, x0, x1, x38, x304000, x304001 => if x38 = true then (some false) else (chargeparkref27_CheckCut.l0 k x0 x1 0 0 x304000 x304001)
def chargeparkref27_CheckCut.l0 : Nat → List (S38) → List Int → Int → Int → List Int → List Int → Option (Bool)
  | 0, _, _, _, _, _, _ => none
  | k + 1, x0, x1, x10, x11, x304000, x304001 => if x11 < (x304001.length : Int) then (if 0 ≤ x11 then (if 0 ≤ (rd x304001 x11) then (if (rd x304001 x11) < (x1.length : Int) then (chargeparkref27_CheckCut.l0 k x0 x1 (wrap64 (x10 - (rd x1 (rd x304001 x11)))) (wrap64 (x11 + 1)) x304000 x304001) else (none)) else (none)) else (none)) else (chargeparkref27_CheckCut.l1 k x0 x10 0 x304000 x304001)
def chargeparkref27_CheckCut.l1 : Nat → List (S38) → Int → Int → List Int → List Int → Option (Bool)
  | 0, _, _, _, _, _ => none
  | k + 1, x0, x10, x12, x304000, x304001 => if x12 < (x304000.length : Int) then (if 0 ≤ x12 then (if 0 ≤ (rd x304000 x12) then (if (rd x304000 x12) < (x0.length : Int) then (chargeparkref27_CheckCut.l2 k x0 (wrap64 (x10 + ((rd_T38 x0 (rd x304000 x12)).f2))) x12 ((rd_T38 x0 (rd x304000 x12)).f0) x304000 x304001 ((rd_T38 x0 (rd x304000 x12)).f0) ((rd_T38 x0 (rd x304000 x12)).f1) ((rd_T38 x0 (rd x304000 x12)).f2) ((rd_T38 x0 (rd x304000 x12)).f3) ((rd_T38 x0 (rd x304000 x12)).f4)) else (none)) else (none)) else (none)) else (some (decide (x10 > 0)))
def chargeparkref27_CheckCut.l2 : Nat → List (S38) → Int → Int → Int → List Int → List Int → Int → Int → Int → Int → Int → Option (Bool)
  | 0, _, _, _, _, _, _, _, _, _, _, _ => none
  | k + 1, x0, x10, x12, x14, x304000, x304001, x312000, x312001, x312002, x312003, x312004 => if x14 < x312001 then ((chargeparkref27_has.f k x304001 x14).bind fun t312 => (if t312 = true then (chargeparkref27_CheckCut.l2 k x0 x10 x12 (wrap64 (x14 + 1)) x304000 x304001 x312000 x312001 x312002 x312003 x312004) else (chargeparkref27_CheckCut.l2 k x0 (wrap64 (x10 - x312003)) x12 (wrap64 (x14 + 1)) x304000 x304001 x312000 x312001 x312002 x312003 x312004))) else (chargeparkref27_CheckCut.l1 k x0 x10 (wrap64 (x12 + 1)) x304000 x304001)
end
def chargeparkref27_CheckCut.f (k : Nat) (l0 : List (S38)) (l1 : List Int) (l2_0 : List Int) (l2_1 : List Int) : Option (Bool) := (chargeparkref27_Valid.f k l0 l1).bind fun t304 => ((chargeparkref27_choice.f k l2_0 (l0.length : Int)).bind fun t305 => ((chargeparkref27_choice.f k l2_1 (l1.length : Int)).bind fun t306 => (if t304 = true then (if t305 = true then (chargeparkref27_CheckCut.j0 k l0 l1 (!t306) l2_0 l2_1) else (chargeparkref27_CheckCut.j0 k l0 l1 true l2_0 l2_1)) else (chargeparkref27_CheckCut.j0 k l0 l1 true l2_0 l2_1))))
theorem chargeparkref27_CheckCut.mono_l : ∀ k, (∀ y0 y1 y2 y3 y4, LeO (chargeparkref27_CheckCut.j0 k y0 y1 y2 y3 y4) (chargeparkref27_CheckCut.j0 (k + 1) y0 y1 y2 y3 y4)) ∧ (∀ y0 y1 y2 y3 y4 y5, LeO (chargeparkref27_CheckCut.l0 k y0 y1 y2 y3 y4 y5) (chargeparkref27_CheckCut.l0 (k + 1) y0 y1 y2 y3 y4 y5)) ∧ (∀ y0 y1 y2 y3 y4, LeO (chargeparkref27_CheckCut.l1 k y0 y1 y2 y3 y4) (chargeparkref27_CheckCut.l1 (k + 1) y0 y1 y2 y3 y4)) ∧ (∀ y0 y1 y2 y3 y4 y5 y6 y7 y8 y9 y10, LeO (chargeparkref27_CheckCut.l2 k y0 y1 y2 y3 y4 y5 y6 y7 y8 y9 y10) (chargeparkref27_CheckCut.l2 (k + 1) y0 y1 y2 y3 y4 y5 y6 y7 y8 y9 y10))
  | 0 => ⟨fun _ _ _ _ _ r h => by simp [chargeparkref27_CheckCut.j0] at h, fun _ _ _ _ _ _ r h => by simp [chargeparkref27_CheckCut.l0] at h, fun _ _ _ _ _ r h => by simp [chargeparkref27_CheckCut.l1] at h, fun _ _ _ _ _ _ _ _ _ _ _ r h => by simp [chargeparkref27_CheckCut.l2] at h⟩
  | k + 1 => by
    obtain ⟨ih0, ih1, ih2, ih3⟩ := chargeparkref27_CheckCut.mono_l k
    refine ⟨?_, ?_, ?_, ?_⟩
    · intro y0 y1 y2 y3 y4
      unfold chargeparkref27_CheckCut.j0
      repeat' first
      | (with_reducible exact ih0 _ _ _ _ _)
      | (with_reducible exact ih1 _ _ _ _ _ _)
      | (with_reducible exact ih2 _ _ _ _ _)
      | (with_reducible exact ih3 _ _ _ _ _ _ _ _ _ _ _)
      | (with_reducible exact chargeparkref27_Valid.mono _ _ _)
      | (with_reducible exact chargeparkref27_choice.mono _ _ _)
      | (with_reducible exact chargeparkref27_has.mono _ _ _)
      | (with_reducible exact LeO.refl _)
      | (with_reducible exact LeO.none _)
      | (with_reducible refine LeO.ite ?_ ?_)
      | (with_reducible refine LeO.bind ?_ (fun _ => ?_))
      | exact ih0 _ _ _ _ _
      | exact ih1 _ _ _ _ _ _
      | exact ih2 _ _ _ _ _
      | exact ih3 _ _ _ _ _ _ _ _ _ _ _
      | exact chargeparkref27_Valid.mono _ _ _
      | exact chargeparkref27_choice.mono _ _ _
      | exact chargeparkref27_has.mono _ _ _
      | exact LeO.none _
      | refine LeO.ite ?_ ?_
      | refine LeO.bind ?_ (fun _ => ?_)
    · intro y0 y1 y2 y3 y4 y5
      unfold chargeparkref27_CheckCut.l0
      repeat' first
      | (with_reducible exact ih0 _ _ _ _ _)
      | (with_reducible exact ih1 _ _ _ _ _ _)
      | (with_reducible exact ih2 _ _ _ _ _)
      | (with_reducible exact ih3 _ _ _ _ _ _ _ _ _ _ _)
      | (with_reducible exact chargeparkref27_Valid.mono _ _ _)
      | (with_reducible exact chargeparkref27_choice.mono _ _ _)
      | (with_reducible exact chargeparkref27_has.mono _ _ _)
      | (with_reducible exact LeO.refl _)
      | (with_reducible exact LeO.none _)
      | (with_reducible refine LeO.ite ?_ ?_)
      | (with_reducible refine LeO.bind ?_ (fun _ => ?_))
      | exact ih0 _ _ _ _ _
      | exact ih1 _ _ _ _ _ _
      | exact ih2 _ _ _ _ _
      | exact ih3 _ _ _ _ _ _ _ _ _ _ _
      | exact chargeparkref27_Valid.mono _ _ _
      | exact chargeparkref27_choice.mono _ _ _
      | exact chargeparkref27_has.mono _ _ _
      | exact LeO.none _
      | refine LeO.ite ?_ ?_
      | refine LeO.bind ?_ (fun _ => ?_)
    · intro y0 y1 y2 y3 y4
      unfold chargeparkref27_CheckCut.l1
      repeat' first
      | (with_reducible exact ih0 _ _ _ _ _)
      | (with_reducible exact ih1 _ _ _ _ _ _)
      | (with_reducible exact ih2 _ _ _ _ _)
      | (with_reducible exact ih3 _ _ _ _ _ _ _ _ _ _ _)
      | (with_reducible exact chargeparkref27_Valid.mono _ _ _)
      | (with_reducible exact chargeparkref27_choice.mono _ _ _)
      | (with_reducible exact chargeparkref27_has.mono _ _ _)
      | (with_reducible exact LeO.refl _)
      | (with_reducible exact LeO.none _)
      | (with_reducible refine LeO.ite ?_ ?_)
      | (with_reducible refine LeO.bind ?_ (fun _ => ?_))
      | exact ih0 _ _ _ _ _
      | exact ih1 _ _ _ _ _ _
      | exact ih2 _ _ _ _ _
      | exact ih3 _ _ _ _ _ _ _ _ _ _ _
      | exact chargeparkref27_Valid.mono _ _ _
      | exact chargeparkref27_choice.mono _ _ _
      | exact chargeparkref27_has.mono _ _ _
      | exact LeO.none _
      | refine LeO.ite ?_ ?_
      | refine LeO.bind ?_ (fun _ => ?_)
    · intro y0 y1 y2 y3 y4 y5 y6 y7 y8 y9 y10
      unfold chargeparkref27_CheckCut.l2
      repeat' first
      | (with_reducible exact ih0 _ _ _ _ _)
      | (with_reducible exact ih1 _ _ _ _ _ _)
      | (with_reducible exact ih2 _ _ _ _ _)
      | (with_reducible exact ih3 _ _ _ _ _ _ _ _ _ _ _)
      | (with_reducible exact chargeparkref27_Valid.mono _ _ _)
      | (with_reducible exact chargeparkref27_choice.mono _ _ _)
      | (with_reducible exact chargeparkref27_has.mono _ _ _)
      | (with_reducible exact LeO.refl _)
      | (with_reducible exact LeO.none _)
      | (with_reducible refine LeO.ite ?_ ?_)
      | (with_reducible refine LeO.bind ?_ (fun _ => ?_))
      | exact ih0 _ _ _ _ _
      | exact ih1 _ _ _ _ _ _
      | exact ih2 _ _ _ _ _
      | exact ih3 _ _ _ _ _ _ _ _ _ _ _
      | exact chargeparkref27_Valid.mono _ _ _
      | exact chargeparkref27_choice.mono _ _ _
      | exact chargeparkref27_has.mono _ _ _
      | exact LeO.none _
      | refine LeO.ite ?_ ?_
      | refine LeO.bind ?_ (fun _ => ?_)
theorem chargeparkref27_CheckCut.mono : ∀ a0 a1 a2 a3 k, LeO (chargeparkref27_CheckCut.f k a0 a1 a2 a3) (chargeparkref27_CheckCut.f (k + 1) a0 a1 a2 a3) := by
  intro a0 a1 a2 a3 k
  obtain ⟨ih0, ih1, ih2, ih3⟩ := chargeparkref27_CheckCut.mono_l k
  unfold chargeparkref27_CheckCut.f
  repeat' first
      | (with_reducible exact ih0 _ _ _ _ _)
      | (with_reducible exact ih1 _ _ _ _ _ _)
      | (with_reducible exact ih2 _ _ _ _ _)
      | (with_reducible exact ih3 _ _ _ _ _ _ _ _ _ _ _)
      | (with_reducible exact chargeparkref27_Valid.mono _ _ _)
      | (with_reducible exact chargeparkref27_choice.mono _ _ _)
      | (with_reducible exact chargeparkref27_has.mono _ _ _)
      | (with_reducible exact LeO.refl _)
      | (with_reducible exact LeO.none _)
      | (with_reducible refine LeO.ite ?_ ?_)
      | (with_reducible refine LeO.bind ?_ (fun _ => ?_))
      | exact ih0 _ _ _ _ _
      | exact ih1 _ _ _ _ _ _
      | exact ih2 _ _ _ _ _
      | exact ih3 _ _ _ _ _ _ _ _ _ _ _
      | exact chargeparkref27_Valid.mono _ _ _
      | exact chargeparkref27_choice.mono _ _ _
      | exact chargeparkref27_has.mono _ _ _
      | exact LeO.none _
      | refine LeO.ite ?_ ?_
      | refine LeO.bind ?_ (fun _ => ?_)
set_option maxHeartbeats 8000000 in
set_option maxRecDepth 100000 in
theorem chargeparkref27_CheckCut.calls (k : Nat) (A0 : Option Addr) (c0 : Nat) (l0 : List (S38)) (A1 : Option Addr) (c1 : Nat) (l1 : List Int) (A2_0 : Option Addr) (c2_0 : Nat) (l2_0 : List Int) (A2_1 : Option Addr) (c2_1 : Nat) (l2_1 : List Int) (r : Bool) (w : World) (hr0 : Kd.C k38 w A0 l0.length l0) (hc0 : l0.length ≤ c0) (hr1 : Kd.C (Kd.int .i64) w A1 l1.length l1) (hc1 : l1.length ≤ c1) (hr2_0 : Kd.C (Kd.int .i64) w A2_0 l2_0.length l2_0) (hc2_0 : l2_0.length ≤ c2_0) (hr2_1 : Kd.C (Kd.int .i64) w A2_1 l2_1.length l2_1) (hc2_1 : l2_1.length ≤ c2_1) (h : chargeparkref27_CheckCut.f k l0 l1 l2_0 l2_1 = some r) :
    Calls Try.prog 19 #[.slice A0 l0.length c0, .slice A1 l1.length c1, .agg #[.slice A2_0 l2_0.length c2_0, .slice A2_1 l2_1.length c2_1]] w fun e w' => e = .returned (.bool r) ∧ Below w.heap.size w w' := by
  have hu26 := Try.underlying26
  have hu38 := Try.underlying38
  have HR0 := Aside0.mk hr0
  have HC0 := Aside0.mk hc0
  clear hr0 hc0
  have HR1 := Aside0.mk hr1
  have HC1 := Aside0.mk hc1
  clear hr1 hc1
  have HR2_0 := Aside0.mk hr2_0
  have HC2_0 := Aside0.mk hc2_0
  clear hr2_0 hc2_0
  have HR2_1 := Aside0.mk hr2_1
  have HC2_1 := Aside0.mk hc2_1
  clear hr2_1 hc2_1
  have HB := Aside0.mk (Below.refl w.heap.size w)
  have H : ((chargeparkref27_Valid.f k l0 l1).bind fun t304 => ((chargeparkref27_choice.f k l2_0 (l0.length : Int)).bind fun t305 => ((chargeparkref27_choice.f k l2_1 (l1.length : Int)).bind fun t306 => (if t304 = true then (if t305 = true then (chargeparkref27_CheckCut.j0 k l0 l1 (!t306) l2_0 l2_1) else (chargeparkref27_CheckCut.j0 k l0 l1 true l2_0 l2_1)) else (chargeparkref27_CheckCut.j0 k l0 l1 true l2_0 l2_1))))) = some r := h
  clear h
  replace H := Option.bind_eq_some_iff.mp H
  obtain ⟨t304, A40, H⟩ := H
  replace H : ((chargeparkref27_choice.f k l2_0 (l0.length : Int)).bind fun t305 => ((chargeparkref27_choice.f k l2_1 (l1.length : Int)).bind fun t306 => (if t304 = true then (if t305 = true then (chargeparkref27_CheckCut.j0 k l0 l1 (!t306) l2_0 l2_1) else (chargeparkref27_CheckCut.j0 k l0 l1 true l2_0 l2_1)) else (chargeparkref27_CheckCut.j0 k l0 l1 true l2_0 l2_1)))) = some r := H
  have A4 := Aside0.mk A40
  clear A40
  replace H := Option.bind_eq_some_iff.mp H
  obtain ⟨t305, A50, H⟩ := H
  replace H : ((chargeparkref27_choice.f k l2_1 (l1.length : Int)).bind fun t306 => (if t304 = true then (if t305 = true then (chargeparkref27_CheckCut.j0 k l0 l1 (!t306) l2_0 l2_1) else (chargeparkref27_CheckCut.j0 k l0 l1 true l2_0 l2_1)) else (chargeparkref27_CheckCut.j0 k l0 l1 true l2_0 l2_1))) = some r := H
  have A5 := Aside0.mk A50
  clear A50
  replace H := Option.bind_eq_some_iff.mp H
  obtain ⟨t306, A60, H⟩ := H
  replace H : (if t304 = true then (if t305 = true then (chargeparkref27_CheckCut.j0 k l0 l1 (!t306) l2_0 l2_1) else (chargeparkref27_CheckCut.j0 k l0 l1 true l2_0 l2_1)) else (chargeparkref27_CheckCut.j0 k l0 l1 true l2_0 l2_1)) = some r := H
  have A6 := Aside0.mk A60
  clear A60
  have HC7 := Aside0.mk H
  clear H
  go_enter Try.func19, Try.ntmps19
  go_upto_region 4 with (first | ((with_reducible refine gate_dst (N := 5) rfl ?_); refine box_event ?hg (N := 5) ?hd (cs := #[.slice A2_0 l2_0.length c2_0, .slice A2_1 l2_1.length c2_1]) (t := 26) ?hr ?_; (case hd => rfl); (case hg => rfl); (case hr => first | (go_simp; done) | (go_simp; rfl)); intro gb303 hg w8 hbox hb; have n0_ := Aside0.mk (below_step (by repeat (first | (with_reducible first | exact HB.out | apply below_alloc | apply pw_below_drewN | apply below_drew1) | exact HB.out)) hb); have n1_ := Aside0.mk (hbox); have n2_ := Aside0.mk ((by rw [hg]; exact (below_size (by repeat (first | (with_reducible first | exact HB.out | apply below_alloc | apply pw_below_drewN | apply below_drew1) | exact HB.out))) : w.heap.size ≤ gb303)); have n3_ := Aside0.mk ((by rw [hg]; exact (below_size (by repeat (first | (with_reducible first | exact HB.out | apply below_alloc | apply pw_below_drewN | apply below_drew1) | exact HB.out))) : w.heap.size ≤ gb303)); clear HB; have HB := n0_; have BK303 := n1_; have GW303 := n2_; have GE303 := n3_; clear n0_ n1_ n2_ n3_; clear hb hbox hg) | ((with_reducible refine gate_callee (f := 15) rfl ?_); refine goesL_ (some 18) rfl rfl Try.func15 (by kernel_rfl) rfl #[.slice A0 l0.length c0, .slice A1 l1.length c1] rfl (by (try simp only [List.map_toArray, List.map_cons, List.map_nil]); first | done | rfl | (simp only [List.length_drop, List.length_take]; rfl)) ?_; (with_reducible refine (chargeparkref27_Valid.calls k _ _ l0 _ _ l1 t304 _ ?side1 ?side2 ?side3 ?side4 A4.out).mono ?_); (case side1 => repeat (first | exact (Kd.C_below HR0.out HB.out) | (with_reducible refine Kd.C_alloc ?_ _) | (with_reducible refine Kd.C_drewN ?_ _) | (with_reducible refine Kd.C_drew ?_))); (case side2 => exact HC0.out); (case side3 => repeat (first | exact (Kd.C_below HR1.out HB.out) | (with_reducible refine Kd.C_alloc ?_ _) | (with_reducible refine Kd.C_drewN ?_ _) | (with_reducible refine Kd.C_drew ?_))); (case side4 => exact HC1.out); rintro e w9 ⟨rfl, hb⟩; refine ⟨_, rfl, ?_⟩; have n0_ := Aside0.mk (blk_below (g := gb303) (o := .cells #[.slice A2_0 l2_0.length c2_0, .slice A2_1 l2_1.length c2_1] 26 (0, 0)) (by (with_reducible repeat (first | refine blk_drewN ?_ _ | refine blk_drew ?_ | refine blk_alloc ?_ _)); exact BK303.out) hb); have n1_ := Aside0.mk (below_step (by repeat (first | (with_reducible first | exact HB.out | apply below_alloc | apply pw_below_drewN | apply below_drew1 | refine below_set ?_ GE303.out) | exact HB.out)) hb); clear BK303; clear HB; have BK303 := n0_; have HB := n1_; clear n0_ n1_; (try clear hb); (try clear hb2); (try clear hk); (try clear hi); have hcz10_0 : w9.cell? ⟨gb303, 0, none⟩ = some (.slice A2_0 l2_0.length c2_0) := (blk_cell BK303.out 0).trans rfl; have hcz10_1 : w9.cell? ⟨gb303, 1, none⟩ = some (.slice A2_1 l2_1.length c2_1) := (blk_cell BK303.out 1).trans rfl; have hfz10_0 := blk_frozen BK303.out 0; have hfz10_1 := blk_frozen BK303.out 1) | ((with_reducible refine gate_callee (f := 35) rfl ?_); refine goesL_ (some 23) rfl rfl Try.func35 (by kernel_rfl) rfl #[.slice A2_0 l2_0.length c2_0, .int .i64 (l0.length : Int)] rfl (by (try simp only [List.map_toArray, List.map_cons, List.map_nil]); first | done | rfl | (simp only [List.length_drop, List.length_take]; rfl)) ?_; (with_reducible refine (chargeparkref27_choice.calls k _ _ l2_0 (l0.length : Int) t305 _ ?side1 ?side2 A5.out).mono ?_); (case side1 => repeat (first | exact (Kd.C_below HR2_0.out HB.out) | (with_reducible refine Kd.C_alloc ?_ _) | (with_reducible refine Kd.C_drewN ?_ _) | (with_reducible refine Kd.C_drew ?_))); (case side2 => exact HC2_0.out); rintro e w' ⟨rfl, ⟨nd, rfl⟩⟩; refine ⟨_, rfl, ?_⟩) | ((with_reducible refine gate_callee (f := 35) rfl ?_); refine goesL_ (some 28) rfl rfl Try.func35 (by kernel_rfl) rfl #[.slice A2_1 l2_1.length c2_1, .int .i64 (l1.length : Int)] rfl (by (try simp only [List.map_toArray, List.map_cons, List.map_nil]); first | done | rfl | (simp only [List.length_drop, List.length_take]; rfl)) ?_; (with_reducible refine (chargeparkref27_choice.calls k _ _ l2_1 (l1.length : Int) t306 _ ?side1 ?side2 A6.out).mono ?_); (case side1 => repeat (first | exact (Kd.C_below HR2_1.out (by repeat (first | (with_reducible first | exact HB.out | apply below_alloc | apply pw_below_drewN | apply below_drew1 | refine below_set ?_ GE303.out) | exact HB.out))) | (with_reducible refine Kd.C_alloc ?_ _) | (with_reducible refine Kd.C_drewN ?_ _) | (with_reducible refine Kd.C_drew ?_))); (case side2 => exact HC2_1.out); rintro e w' ⟨rfl, ⟨nd, rfl⟩⟩; refine ⟨_, rfl, ?_⟩))
  (try simp only [Act.put, List.setIfInBounds_toArray, List.set_cons_zero, List.set_cons_succ])
  go_cut [38] (fun v38 wc => ∃ (kq : Nat) (x38_6 : Bool), v38 = .bool x38_6 ∧ Aside0 (chargeparkref27_CheckCut.j0 kq l0 l1 x38_6 l2_0 l2_1 = some r) ∧ Aside0 (kq ≤ k) ∧ Aside0 (wc.heap[gb303]? = some (.cells #[(.slice A2_0 l2_0.length c2_0), (.slice A2_1 l2_1.length c2_1)] 26 (0, 0))) ∧ Aside0 (Below w.heap.size w wc))
  case first =>
    have H := HC7.out
    clear HC7
    by_cases c11 : t304 = true
    · subst c11
      have H1 : (if t305 = true then (chargeparkref27_CheckCut.j0 k l0 l1 (!t306) l2_0 l2_1) else (chargeparkref27_CheckCut.j0 k l0 l1 true l2_0 l2_1)) = some r := by rw [if_pos rfl] at H; exact H
      clear H
      have H := H1
      clear H1
      by_cases c12 : t305 = true
      · subst c12
        have H1 : (chargeparkref27_CheckCut.j0 k l0 l1 (!t306) l2_0 l2_1) = some r := by rw [if_pos rfl] at H; exact H
        clear H
        have H := H1
        clear H1
        have H' := Aside0.mk H
        clear H
        go_wp2
        go_meet
        case rel => exact ⟨_, (!t306), (by first | rfl | (simp; done) | (simp [*]; done)), H', ⟨by first | omega | exact Nat.le_refl _⟩, ⟨by (with_reducible repeat (first | refine blk_drewN ?_ _ | refine blk_drew ?_ | refine blk_alloc ?_ _)); exact BK303.out⟩, ⟨by repeat (first | (with_reducible first | exact HB.out | apply below_alloc | apply pw_below_drewN | apply below_drew1 | refine below_set ?_ GE303.out) | exact HB.out)⟩⟩
      · replace c12 := Bool.eq_false_iff.mpr c12
        subst c12
        have H1 : (chargeparkref27_CheckCut.j0 k l0 l1 true l2_0 l2_1) = some r := by rw [if_neg (show ¬ (false = true) by decide)] at H; exact H
        clear H
        have H := H1
        clear H1
        have H' := Aside0.mk H
        clear H
        go_wp2
        go_meet
        case rel => exact ⟨_, (true), (by first | rfl | (simp; done) | (simp [*]; done)), H', ⟨by first | omega | exact Nat.le_refl _⟩, ⟨by (with_reducible repeat (first | refine blk_drewN ?_ _ | refine blk_drew ?_ | refine blk_alloc ?_ _)); exact BK303.out⟩, ⟨by repeat (first | (with_reducible first | exact HB.out | apply below_alloc | apply pw_below_drewN | apply below_drew1 | refine below_set ?_ GE303.out) | exact HB.out)⟩⟩
    · replace c11 := Bool.eq_false_iff.mpr c11
      subst c11
      have H1 : (chargeparkref27_CheckCut.j0 k l0 l1 true l2_0 l2_1) = some r := by rw [if_neg (show ¬ (false = true) by decide)] at H; exact H
      clear H
      have H := H1
      clear H1
      have H' := Aside0.mk H
      clear H
      go_wp2
      go_meet
      case rel => exact ⟨_, (true), (by first | rfl | (simp; done) | (simp [*]; done)), H', ⟨by first | omega | exact Nat.le_refl _⟩, ⟨by (with_reducible repeat (first | refine blk_drewN ?_ _ | refine blk_drew ?_ | refine blk_alloc ?_ _)); exact BK303.out⟩, ⟨by repeat (first | (with_reducible first | exact HB.out | apply below_alloc | apply pw_below_drewN | apply below_drew1 | refine below_set ?_ GE303.out) | exact HB.out)⟩⟩
  case rest =>
    clear HC7
    try clear c1
    try clear c2
    try clear p2
    try clear c3
    try clear c11
    try clear c12
    try clear hcz10_0
    try clear hcz10_1
    try clear hfz10_0
    try clear hfz10_1
    obtain ⟨kq, x38_6, rfl, HA, HJ6, BK303, HB⟩ := hcut
    cases kq with
    | zero => exact absurd HA.out (by simp [chargeparkref27_CheckCut.j0])
    | succ kj6 =>
      have H := HA.out
      clear HA
      simp only [chargeparkref27_CheckCut.j0] at H
      by_cases c13 : x38_6 = true
      · subst c13
        have H1 : (some false) = some r := by rw [if_pos rfl] at H; exact H
        clear H
        have H := H1
        clear H1
        obtain rfl := Option.some.inj H
        go_wp2
        go_ret
        exact ⟨by first | rfl | (simp [errW_none, errW_some] <;> rfl) | (simp [*, errW_none, errW_some] <;> rfl), by repeat (first | (with_reducible first | exact HB.out | apply below_alloc | apply pw_below_drewN | apply below_drew1 | refine below_set ?_ GE303.out) | exact HB.out)⟩
      · replace c13 := Bool.eq_false_iff.mpr c13
        subst c13
        have H1 : (chargeparkref27_CheckCut.l0 kj6 l0 l1 0 0 l2_0 l2_1) = some r := by rw [if_neg (show ¬ (false = true) by decide)] at H; exact H
        clear H
        have H := H1
        clear H1
        have H' := Aside0.mk H
        clear H
        go_wp2
        go_loopg [10, 11] kj6 (fun kq v10 v11 w' => ∃ (x10_2 : Int) (x11_2 : Int), v10 = .int .i64 x10_2 ∧ v11 = .int .i64 x11_2 ∧ Aside0 (chargeparkref27_CheckCut.l0 kq l0 l1 x10_2 x11_2 l2_0 l2_1 = some r) ∧ Aside0 (kq ≤ kj6) ∧ Aside0 (w'.heap[gb303]? = some (.cells #[(.slice A2_0 l2_0.length c2_0), (.slice A2_1 l2_1.length c2_1)] 26 (0, 0))) ∧ Aside0 (Below w.heap.size w w'))
        case atStart => exact ⟨(0), (0), (by first | rfl | (simp; done) | (simp [*]; done)), (by first | rfl | (simp; done) | (simp [*]; done)), H', ⟨Nat.le_refl _⟩, ⟨by (with_reducible repeat (first | refine blk_drewN ?_ _ | refine blk_drew ?_ | refine blk_alloc ?_ _)); exact BK303.out⟩, ⟨by repeat (first | (with_reducible first | exact HB.out | apply below_alloc | apply pw_below_drewN | apply below_drew1 | refine below_set ?_ GE303.out) | exact HB.out)⟩⟩
        case round =>
          clear H'
          try clear c1
          try clear c2
          try clear p2
          try clear c3
          try clear c11
          try clear c12
          try clear c13
          try clear hcz10_0
          try clear hcz10_1
          try clear hfz10_0
          try clear hfz10_1
          try clear p2
          obtain ⟨x10_2, x11_2, rfl, rfl, HA, HK2, BK303, HB⟩ := hrel
          cases gk with
          | zero => exact absurd HA.out (by simp [chargeparkref27_CheckCut.l0])
          | succ k2 =>
            have H := HA.out
            clear HA
            simp only [chargeparkref27_CheckCut.l0] at H
            by_cases c14 : x11_2 < (l2_1.length : Int)
            · rw [if_pos c14] at H
              have c14b0 : decide (x11_2 < (l2_1.length : Int)) = true := decide_eq_true c14
              clear c14
              by_cases c15 : 0 ≤ x11_2
              · rw [if_pos c15] at H
                have c15b0 : decide (0 ≤ x11_2) = true := decide_eq_true c15
                clear c15
                by_cases c16 : 0 ≤ (rd l2_1 x11_2)
                · rw [if_pos c16] at H
                  have c16b0 : decide (0 ≤ (rd l2_1 x11_2)) = true := decide_eq_true c16
                  clear c16
                  by_cases c17 : (rd l2_1 x11_2) < (l1.length : Int)
                  · rw [if_pos c17] at H
                    have c17b0 : decide ((rd l2_1 x11_2) < (l1.length : Int)) = true := decide_eq_true c17
                    clear c17
                    have H' := Aside0.mk H
                    clear H
                    have hcz18_0 : wr.cell? ⟨gb303, 0, none⟩ = some (.slice A2_0 l2_0.length c2_0) := (blk_cell BK303.out 0).trans rfl
                    have hcz18_1 : wr.cell? ⟨gb303, 1, none⟩ = some (.slice A2_1 l2_1.length c2_1) := (blk_cell BK303.out 1).trans rfl
                    have hfz18_0 := blk_frozen BK303.out 0
                    have hfz18_1 := blk_frozen BK303.out 1
                    have p307 : 0 ≤ (x11_2 : Int) := of_decide_eq_true (by first | (with_reducible assumption) | assumption)
                    have q307 : x11_2 < (l2_1.length : Int) := of_decide_eq_true (by first | (with_reducible assumption) | assumption)
                    obtain ⟨ad307, e307, hx307_0⟩ := Kd.at_int HR2_1.out x11_2 p307 q307
                    cases e307
                    replace hx307_0 := (HB.out.cell (World.block_lt_of_cell? w _ hx307_0)).trans hx307_0
                    replace p307 := eq_true p307
                    replace q307 := eq_true q307
                    have p308 : 0 ≤ ((rd l2_1 x11_2) : Int) := of_decide_eq_true (by first | (with_reducible assumption) | assumption)
                    have q308 : (rd l2_1 x11_2) < (l1.length : Int) := of_decide_eq_true (by first | (with_reducible assumption) | assumption)
                    obtain ⟨ad308, e308, hx308_0⟩ := Kd.at_int HR1.out (rd l2_1 x11_2) p308 q308
                    cases e308
                    replace hx308_0 := (HB.out.cell (World.block_lt_of_cell? w _ hx308_0)).trans hx308_0
                    replace p308 := eq_true p308
                    replace q308 := eq_true q308
                    go_wp2
                    go_roundg k2
                    case measure => have := HJ6.out; have := HK2.out; omega
                    case rel => exact ⟨(wrap64 (x10_2 - (rd l1 (rd l2_1 x11_2)))), (wrap64 (x11_2 + 1)), (by first | rfl | (simp; done) | (simp [*]; done)), (by first | rfl | (simp; done) | (simp [*]; done)), H', ⟨by have := HJ6.out; have := HK2.out; omega⟩, ⟨by (with_reducible repeat (first | refine blk_drewN ?_ _ | refine blk_drew ?_ | refine blk_alloc ?_ _)); exact BK303.out⟩, ⟨by repeat (first | (with_reducible first | exact HB.out | apply below_alloc | apply pw_below_drewN | apply below_drew1 | refine below_set ?_ GE303.out) | exact HB.out)⟩⟩
                  · rw [if_neg c17] at H
                    exact absurd H (by simp)
                · rw [if_neg c16] at H
                  exact absurd H (by simp)
              · rw [if_neg c15] at H
                exact absurd H (by simp)
            · rw [if_neg c14] at H
              have c14b0 : decide (x11_2 < (l2_1.length : Int)) = false := decide_eq_false c14
              clear c14
              have H' := Aside0.mk H
              clear H
              have hcz19_0 : wr.cell? ⟨gb303, 0, none⟩ = some (.slice A2_0 l2_0.length c2_0) := (blk_cell BK303.out 0).trans rfl
              have hcz19_1 : wr.cell? ⟨gb303, 1, none⟩ = some (.slice A2_1 l2_1.length c2_1) := (blk_cell BK303.out 1).trans rfl
              have hfz19_0 := blk_frozen BK303.out 0
              have hfz19_1 := blk_frozen BK303.out 1
              go_wp2
              go_loopg [10, 12] k2 (fun kq v10 v12 w' => ∃ (x10_3 : Int) (x12_3 : Int), v10 = .int .i64 x10_3 ∧ v12 = .int .i64 x12_3 ∧ Aside0 (chargeparkref27_CheckCut.l1 kq l0 x10_3 x12_3 l2_0 l2_1 = some r) ∧ Aside0 (kq ≤ k2) ∧ Aside0 (w'.heap[gb303]? = some (.cells #[(.slice A2_0 l2_0.length c2_0), (.slice A2_1 l2_1.length c2_1)] 26 (0, 0))) ∧ Aside0 (Below w.heap.size w w'))
              case atStart => exact ⟨(x10_2), (0), (by first | rfl | (simp; done) | (simp [*]; done)), (by first | rfl | (simp; done) | (simp [*]; done)), H', ⟨Nat.le_refl _⟩, ⟨by (with_reducible repeat (first | refine blk_drewN ?_ _ | refine blk_drew ?_ | refine blk_alloc ?_ _)); exact BK303.out⟩, ⟨by repeat (first | (with_reducible first | exact HB.out | apply below_alloc | apply pw_below_drewN | apply below_drew1 | refine below_set ?_ GE303.out) | exact HB.out)⟩⟩
              case round =>
                clear H'
                try clear c1
                try clear c2
                try clear p2
                try clear c3
                try clear p3
                try clear q3
                try clear hx3
                try clear p6
                try clear c11
                try clear c12
                try clear c13
                try clear c14
                try clear c14b0
                try clear c15
                try clear c15b0
                try clear c16
                try clear c16b0
                try clear c17
                try clear c17b0
                try clear c19
                try clear hcz10_0
                try clear hcz10_1
                try clear hcz18_0
                try clear hcz18_1
                try clear hcz19_0
                try clear hcz19_1
                try clear hfz10_0
                try clear hfz10_1
                try clear hfz18_0
                try clear hfz18_1
                try clear hfz19_0
                try clear hfz19_1
                try clear hx307_0
                try clear hx308_0
                try clear p2
                try clear p307
                try clear p308
                try clear q307
                try clear q308
                obtain ⟨x10_3, x12_3, rfl, rfl, HA, HK3, BK303, HB⟩ := hrel
                cases gk with
                | zero => exact absurd HA.out (by simp [chargeparkref27_CheckCut.l1])
                | succ k3 =>
                  have H := HA.out
                  clear HA
                  simp only [chargeparkref27_CheckCut.l1] at H
                  by_cases c20 : x12_3 < (l2_0.length : Int)
                  · rw [if_pos c20] at H
                    have c20b0 : decide (x12_3 < (l2_0.length : Int)) = true := decide_eq_true c20
                    clear c20
                    by_cases c21 : 0 ≤ x12_3
                    · rw [if_pos c21] at H
                      have c21b0 : decide (0 ≤ x12_3) = true := decide_eq_true c21
                      clear c21
                      by_cases c22 : 0 ≤ (rd l2_0 x12_3)
                      · rw [if_pos c22] at H
                        have c22b0 : decide (0 ≤ (rd l2_0 x12_3)) = true := decide_eq_true c22
                        clear c22
                        by_cases c23 : (rd l2_0 x12_3) < (l0.length : Int)
                        · rw [if_pos c23] at H
                          have c23b0 : decide ((rd l2_0 x12_3) < (l0.length : Int)) = true := decide_eq_true c23
                          clear c23
                          have H' := Aside0.mk H
                          clear H
                          have hcz24_0 : wr.cell? ⟨gb303, 0, none⟩ = some (.slice A2_0 l2_0.length c2_0) := (blk_cell BK303.out 0).trans rfl
                          have hcz24_1 : wr.cell? ⟨gb303, 1, none⟩ = some (.slice A2_1 l2_1.length c2_1) := (blk_cell BK303.out 1).trans rfl
                          have hfz24_0 := blk_frozen BK303.out 0
                          have hfz24_1 := blk_frozen BK303.out 1
                          have p309 : 0 ≤ (x12_3 : Int) := of_decide_eq_true (by first | (with_reducible assumption) | assumption)
                          have q309 : x12_3 < (l2_0.length : Int) := of_decide_eq_true (by first | (with_reducible assumption) | assumption)
                          obtain ⟨ad309, e309, hx309_0⟩ := Kd.at_int HR2_0.out x12_3 p309 q309
                          cases e309
                          replace hx309_0 := (HB.out.cell (World.block_lt_of_cell? w _ hx309_0)).trans hx309_0
                          replace p309 := eq_true p309
                          replace q309 := eq_true q309
                          have p310 : 0 ≤ ((rd l2_0 x12_3) : Int) := of_decide_eq_true (by first | (with_reducible assumption) | assumption)
                          have q310 : (rd l2_0 x12_3) < (l0.length : Int) := of_decide_eq_true (by first | (with_reducible assumption) | assumption)
                          obtain ⟨ad310, e310, hx310_0, hx310_1, hx310_2, hx310_3, hx310_4⟩ := at_T38 HR0.out (rd l2_0 x12_3) p310 q310
                          cases e310
                          replace hx310_0 := (HB.out.cell (World.block_lt_of_cell? w _ hx310_0)).trans hx310_0
                          replace hx310_1 := (HB.out.cell (World.block_lt_of_cell? w _ hx310_1)).trans hx310_1
                          replace hx310_2 := (HB.out.cell (World.block_lt_of_cell? w _ hx310_2)).trans hx310_2
                          replace hx310_3 := (HB.out.cell (World.block_lt_of_cell? w _ hx310_3)).trans hx310_3
                          replace hx310_4 := (HB.out.cell (World.block_lt_of_cell? w _ hx310_4)).trans hx310_4
                          replace p310 := eq_true p310
                          replace q310 := eq_true q310
                          go_wp2_with (first | ((with_reducible refine gate_dst (N := 13) rfl ?_); refine box_event ?hg (N := 13) ?hd (cs := #[.int .i64 0, .int .i64 0, .int .i64 0, .int .i64 0, .int .i64 0]) (t := 38) ?hr ?_; (case hd => rfl); (case hg => rfl); (case hr => first | (go_simp; done) | (go_simp; rfl)); intro gb311 hg w25 hbox hb; have n0_ := Aside0.mk (blk_below (g := gb303) (o := .cells #[.slice (some ad309) l2_0.length c2_0, .slice A2_1 l2_1.length c2_1] 26 (0, 0)) (by (with_reducible repeat (first | refine blk_drewN ?_ _ | refine blk_drew ?_ | refine blk_alloc ?_ _)); exact BK303.out) hb); have n1_ := Aside0.mk (below_step (by repeat (first | (with_reducible first | exact HB.out | apply below_alloc | apply pw_below_drewN | apply below_drew1 | refine below_set ?_ GE303.out) | exact HB.out)) hb); have n2_ := Aside0.mk (hbox); have n3_ := Aside0.mk ((by rw [hg]; exact (below_size (by repeat (first | (with_reducible first | exact HB.out | apply below_alloc | apply pw_below_drewN | apply below_drew1 | refine below_set ?_ GE303.out) | exact HB.out))) : w.heap.size ≤ gb311)); have n4_ := Aside0.mk ((by rw [hg]; exact (below_size (by repeat (first | (with_reducible first | exact HB.out | apply below_alloc | apply pw_below_drewN | apply below_drew1 | refine below_set ?_ GE303.out) | exact HB.out))) : w.heap.size ≤ gb311)); have n5_ := Aside0.mk ((by rw [hg]; exact Nat.ne_of_lt (blk_lt (g := gb303) (o := .cells #[.slice (some ad309) l2_0.length c2_0, .slice A2_1 l2_1.length c2_1] 26 (0, 0)) (by (with_reducible repeat (first | refine blk_drewN ?_ _ | refine blk_drew ?_ | refine blk_alloc ?_ _)); exact BK303.out)) : gb303 ≠ gb311)); have n6_ := Aside0.mk ((by rw [hg]; exact Nat.ne_of_gt (blk_lt (g := gb303) (o := .cells #[.slice (some ad309) l2_0.length c2_0, .slice A2_1 l2_1.length c2_1] 26 (0, 0)) (by (with_reducible repeat (first | refine blk_drewN ?_ _ | refine blk_drew ?_ | refine blk_alloc ?_ _)); exact BK303.out)) : gb311 ≠ gb303)); clear BK303; clear HB; have BK303 := n0_; have HB := n1_; have BK311 := n2_; have GW311 := n3_; have GE311 := n4_; have NB303_311 := n5_; have NB311_303 := n6_; clear n0_ n1_ n2_ n3_ n4_ n5_ n6_; clear hb hbox hg; have hnb26 := NB311_303.out; have hnc26 := NB303_311.out; have hcz27_0 : w25.cell? ⟨gb311, 0, none⟩ = some (.int .i64 0) := (blk_cell BK311.out 0).trans rfl; have hcz27_1 : w25.cell? ⟨gb311, 1, none⟩ = some (.int .i64 0) := (blk_cell BK311.out 1).trans rfl; have hcz27_2 : w25.cell? ⟨gb311, 2, none⟩ = some (.int .i64 0) := (blk_cell BK311.out 2).trans rfl; have hcz27_3 : w25.cell? ⟨gb311, 3, none⟩ = some (.int .i64 0) := (blk_cell BK311.out 3).trans rfl; have hcz27_4 : w25.cell? ⟨gb311, 4, none⟩ = some (.int .i64 0) := (blk_cell BK311.out 4).trans rfl; have hfz27_0 := blk_frozen BK311.out 0; have hfz27_1 := blk_frozen BK311.out 1; have hfz27_2 := blk_frozen BK311.out 2; have hfz27_3 := blk_frozen BK311.out 3; have hfz27_4 := blk_frozen BK311.out 4))
                          go_loopg [10, 14] k3 (fun kq v10 v14 w' => ∃ (x10_4 : Int) (x14_4 : Int), v10 = .int .i64 x10_4 ∧ v14 = .int .i64 x14_4 ∧ Aside0 (chargeparkref27_CheckCut.l2 kq l0 x10_4 x12_3 x14_4 l2_0 l2_1 ((rd_T38 l0 (rd l2_0 x12_3)).f0) ((rd_T38 l0 (rd l2_0 x12_3)).f1) ((rd_T38 l0 (rd l2_0 x12_3)).f2) ((rd_T38 l0 (rd l2_0 x12_3)).f3) ((rd_T38 l0 (rd l2_0 x12_3)).f4) = some r) ∧ Aside0 (kq ≤ k3) ∧ Aside0 (w'.heap[gb303]? = some (.cells #[(.slice (some ad309) l2_0.length c2_0), (.slice A2_1 l2_1.length c2_1)] 26 (0, 0))) ∧ Aside0 (w'.heap[gb311]? = some (.cells #[.int .i64 ((rd_T38 l0 (rd l2_0 x12_3)).f0), .int .i64 ((rd_T38 l0 (rd l2_0 x12_3)).f1), .int .i64 ((rd_T38 l0 (rd l2_0 x12_3)).f2), .int .i64 ((rd_T38 l0 (rd l2_0 x12_3)).f3), .int .i64 ((rd_T38 l0 (rd l2_0 x12_3)).f4)] 38 (0, 0))) ∧ Aside0 (Below w.heap.size w w'))
                          case atStart => exact ⟨(wrap64 (x10_3 + ((rd_T38 l0 (rd l2_0 x12_3)).f2))), ((rd_T38 l0 (rd l2_0 x12_3)).f0), (by first | rfl | (simp; done) | (simp [*]; done)), (by first | rfl | (simp; done) | (simp [*]; done)), H', ⟨Nat.le_refl _⟩, ⟨by (with_reducible repeat (first | refine blk_drewN ?_ _ | refine blk_drew ?_ | refine blk_alloc ?_ _)); refine blk_far ?_ NB303_311.out _; (with_reducible repeat (first | refine blk_drewN ?_ _ | refine blk_drew ?_ | refine blk_alloc ?_ _)); refine blk_far ?_ NB303_311.out _; (with_reducible repeat (first | refine blk_drewN ?_ _ | refine blk_drew ?_ | refine blk_alloc ?_ _)); refine blk_far ?_ NB303_311.out _; (with_reducible repeat (first | refine blk_drewN ?_ _ | refine blk_drew ?_ | refine blk_alloc ?_ _)); refine blk_far ?_ NB303_311.out _; (with_reducible repeat (first | refine blk_drewN ?_ _ | refine blk_drew ?_ | refine blk_alloc ?_ _)); refine blk_far ?_ NB303_311.out _; (with_reducible repeat (first | refine blk_drewN ?_ _ | refine blk_drew ?_ | refine blk_alloc ?_ _)); exact BK303.out⟩, ⟨by (with_reducible repeat (first | refine blk_drewN ?_ _ | refine blk_drew ?_ | refine blk_alloc ?_ _)); refine blk_put (cs := #[.int .i64 ((rd_T38 l0 (rd l2_0 x12_3)).f0), .int .i64 ((rd_T38 l0 (rd l2_0 x12_3)).f1), .int .i64 ((rd_T38 l0 (rd l2_0 x12_3)).f2), .int .i64 ((rd_T38 l0 (rd l2_0 x12_3)).f3), .int .i64 0]) ?_ 4 _ rfl; (with_reducible repeat (first | refine blk_drewN ?_ _ | refine blk_drew ?_ | refine blk_alloc ?_ _)); refine blk_put (cs := #[.int .i64 ((rd_T38 l0 (rd l2_0 x12_3)).f0), .int .i64 ((rd_T38 l0 (rd l2_0 x12_3)).f1), .int .i64 ((rd_T38 l0 (rd l2_0 x12_3)).f2), .int .i64 0, .int .i64 0]) ?_ 3 _ rfl; (with_reducible repeat (first | refine blk_drewN ?_ _ | refine blk_drew ?_ | refine blk_alloc ?_ _)); refine blk_put (cs := #[.int .i64 ((rd_T38 l0 (rd l2_0 x12_3)).f0), .int .i64 ((rd_T38 l0 (rd l2_0 x12_3)).f1), .int .i64 0, .int .i64 0, .int .i64 0]) ?_ 2 _ rfl; (with_reducible repeat (first | refine blk_drewN ?_ _ | refine blk_drew ?_ | refine blk_alloc ?_ _)); refine blk_put (cs := #[.int .i64 ((rd_T38 l0 (rd l2_0 x12_3)).f0), .int .i64 0, .int .i64 0, .int .i64 0, .int .i64 0]) ?_ 1 _ rfl; (with_reducible repeat (first | refine blk_drewN ?_ _ | refine blk_drew ?_ | refine blk_alloc ?_ _)); refine blk_put (cs := #[.int .i64 0, .int .i64 0, .int .i64 0, .int .i64 0, .int .i64 0]) ?_ 0 _ rfl; (with_reducible repeat (first | refine blk_drewN ?_ _ | refine blk_drew ?_ | refine blk_alloc ?_ _)); exact BK311.out⟩, ⟨by repeat (first | (with_reducible first | exact HB.out | apply below_alloc | apply pw_below_drewN | apply below_drew1 | refine below_set ?_ GE303.out | refine below_set ?_ GE311.out) | exact HB.out)⟩⟩
                          case round =>
                            clear H'
                            try clear c1
                            try clear c2
                            try clear p2
                            try clear c3
                            try clear p3
                            try clear q3
                            try clear hx3
                            try clear p6
                            try clear c11
                            try clear c12
                            try clear c13
                            try clear c14
                            try clear c14b0
                            try clear c15
                            try clear c15b0
                            try clear c16
                            try clear c16b0
                            try clear c17
                            try clear c17b0
                            try clear c19
                            try clear c20
                            try clear c20b0
                            try clear c21
                            try clear c21b0
                            try clear c22
                            try clear c22b0
                            try clear c23
                            try clear c23b0
                            try clear c26
                            try clear hcz10_0
                            try clear hcz10_1
                            try clear hcz18_0
                            try clear hcz18_1
                            try clear hcz19_0
                            try clear hcz19_1
                            try clear hcz24_0
                            try clear hcz24_1
                            try clear hcz27_0
                            try clear hcz27_1
                            try clear hcz27_2
                            try clear hcz27_3
                            try clear hcz27_4
                            try clear hfz10_0
                            try clear hfz10_1
                            try clear hfz18_0
                            try clear hfz18_1
                            try clear hfz19_0
                            try clear hfz19_1
                            try clear hfz24_0
                            try clear hfz24_1
                            try clear hfz27_0
                            try clear hfz27_1
                            try clear hfz27_2
                            try clear hfz27_3
                            try clear hfz27_4
                            try clear hx307_0
                            try clear hx308_0
                            try clear hx309_0
                            try clear hx310_0
                            try clear hx310_1
                            try clear hx310_2
                            try clear hx310_3
                            try clear hx310_4
                            try clear p2
                            try clear p3
                            try clear p307
                            try clear p308
                            try clear p309
                            try clear p310
                            try clear p6
                            try clear q3
                            try clear q307
                            try clear q308
                            try clear q309
                            try clear q310
                            obtain ⟨x10_4, x14_4, rfl, rfl, HA, HK4, BK303, BK311, HB⟩ := hrel
                            cases gk with
                            | zero => exact absurd HA.out (by simp [chargeparkref27_CheckCut.l2])
                            | succ k4 =>
                              have H := HA.out
                              clear HA
                              simp only [chargeparkref27_CheckCut.l2] at H
                              by_cases c28 : x14_4 < ((rd_T38 l0 (rd l2_0 x12_3)).f1)
                              · rw [if_pos c28] at H
                                have c28b0 : decide (x14_4 < ((rd_T38 l0 (rd l2_0 x12_3)).f1)) = true := decide_eq_true c28
                                clear c28
                                replace H := Option.bind_eq_some_iff.mp H
                                obtain ⟨t312, A290, H⟩ := H
                                replace H : (if t312 = true then (chargeparkref27_CheckCut.l2 k4 l0 x10_4 x12_3 (wrap64 (x14_4 + 1)) l2_0 l2_1 ((rd_T38 l0 (rd l2_0 x12_3)).f0) ((rd_T38 l0 (rd l2_0 x12_3)).f1) ((rd_T38 l0 (rd l2_0 x12_3)).f2) ((rd_T38 l0 (rd l2_0 x12_3)).f3) ((rd_T38 l0 (rd l2_0 x12_3)).f4)) else (chargeparkref27_CheckCut.l2 k4 l0 (wrap64 (x10_4 - ((rd_T38 l0 (rd l2_0 x12_3)).f3))) x12_3 (wrap64 (x14_4 + 1)) l2_0 l2_1 ((rd_T38 l0 (rd l2_0 x12_3)).f0) ((rd_T38 l0 (rd l2_0 x12_3)).f1) ((rd_T38 l0 (rd l2_0 x12_3)).f2) ((rd_T38 l0 (rd l2_0 x12_3)).f3) ((rd_T38 l0 (rd l2_0 x12_3)).f4))) = some r := H
                                have A29 := Aside0.mk A290
                                clear A290
                                by_cases c30 : t312 = true
                                · subst c30
                                  have H1 : (chargeparkref27_CheckCut.l2 k4 l0 x10_4 x12_3 (wrap64 (x14_4 + 1)) l2_0 l2_1 ((rd_T38 l0 (rd l2_0 x12_3)).f0) ((rd_T38 l0 (rd l2_0 x12_3)).f1) ((rd_T38 l0 (rd l2_0 x12_3)).f2) ((rd_T38 l0 (rd l2_0 x12_3)).f3) ((rd_T38 l0 (rd l2_0 x12_3)).f4)) = some r := by rw [if_pos rfl] at H; exact H
                                  clear H
                                  have H := H1
                                  clear H1
                                  have H' := Aside0.mk H
                                  clear H
                                  have hnb31 := NB311_303.out
                                  have hnc31 := NB303_311.out
                                  have hcz32_0 : wr.cell? ⟨gb311, 0, none⟩ = some (.int .i64 ((rd_T38 l0 (rd l2_0 x12_3)).f0)) := (blk_cell BK311.out 0).trans rfl
                                  have hcz32_1 : wr.cell? ⟨gb311, 1, none⟩ = some (.int .i64 ((rd_T38 l0 (rd l2_0 x12_3)).f1)) := (blk_cell BK311.out 1).trans rfl
                                  have hcz32_2 : wr.cell? ⟨gb311, 2, none⟩ = some (.int .i64 ((rd_T38 l0 (rd l2_0 x12_3)).f2)) := (blk_cell BK311.out 2).trans rfl
                                  have hcz32_3 : wr.cell? ⟨gb311, 3, none⟩ = some (.int .i64 ((rd_T38 l0 (rd l2_0 x12_3)).f3)) := (blk_cell BK311.out 3).trans rfl
                                  have hcz32_4 : wr.cell? ⟨gb311, 4, none⟩ = some (.int .i64 ((rd_T38 l0 (rd l2_0 x12_3)).f4)) := (blk_cell BK311.out 4).trans rfl
                                  have hfz32_0 := blk_frozen BK311.out 0
                                  have hfz32_1 := blk_frozen BK311.out 1
                                  have hfz32_2 := blk_frozen BK311.out 2
                                  have hfz32_3 := blk_frozen BK311.out 3
                                  have hfz32_4 := blk_frozen BK311.out 4
                                  have hcz33_0 : wr.cell? ⟨gb303, 0, none⟩ = some (.slice (some ad309) l2_0.length c2_0) := (blk_cell BK303.out 0).trans rfl
                                  have hcz33_1 : wr.cell? ⟨gb303, 1, none⟩ = some (.slice A2_1 l2_1.length c2_1) := (blk_cell BK303.out 1).trans rfl
                                  have hfz33_0 := blk_frozen BK303.out 0
                                  have hfz33_1 := blk_frozen BK303.out 1
                                  go_wp2_with (first | ((with_reducible refine gate_callee (f := 36) rfl ?_); refine goesL_ (some 86) rfl rfl Try.func36 (by kernel_rfl) rfl #[.slice A2_1 l2_1.length c2_1, .int .i64 x14_4] rfl (by (try simp only [List.map_toArray, List.map_cons, List.map_nil]); first | done | rfl | (simp only [List.length_drop, List.length_take]; rfl)) ?_; (with_reducible refine (chargeparkref27_has.calls k4 _ _ l2_1 x14_4 true _ ?side1 ?side2 A29.out).mono ?_); (case side1 => repeat (first | exact (Kd.C_below HR2_1.out HB.out) | (with_reducible refine Kd.C_alloc ?_ _) | (with_reducible refine Kd.C_drewN ?_ _) | (with_reducible refine Kd.C_drew ?_))); (case side2 => exact HC2_1.out); rintro e w' ⟨rfl, ⟨nd, rfl⟩⟩; refine ⟨_, rfl, ?_⟩))
                                  go_roundg k4
                                  case measure => have := HJ6.out; have := HK2.out; have := HK3.out; have := HK4.out; omega
                                  case rel => exact ⟨(x10_4), (wrap64 (x14_4 + 1)), (by first | rfl | (simp; done) | (simp [*]; done)), (by first | rfl | (simp; done) | (simp [*]; done)), H', ⟨by have := HJ6.out; have := HK2.out; have := HK3.out; have := HK4.out; omega⟩, ⟨by (with_reducible repeat (first | refine blk_drewN ?_ _ | refine blk_drew ?_ | refine blk_alloc ?_ _)); exact BK303.out⟩, ⟨by (with_reducible repeat (first | refine blk_drewN ?_ _ | refine blk_drew ?_ | refine blk_alloc ?_ _)); exact BK311.out⟩, ⟨by repeat (first | (with_reducible first | exact HB.out | apply below_alloc | apply pw_below_drewN | apply below_drew1 | refine below_set ?_ GE303.out | refine below_set ?_ GE311.out) | exact HB.out)⟩⟩
                                · replace c30 := Bool.eq_false_iff.mpr c30
                                  subst c30
                                  have H1 : (chargeparkref27_CheckCut.l2 k4 l0 (wrap64 (x10_4 - ((rd_T38 l0 (rd l2_0 x12_3)).f3))) x12_3 (wrap64 (x14_4 + 1)) l2_0 l2_1 ((rd_T38 l0 (rd l2_0 x12_3)).f0) ((rd_T38 l0 (rd l2_0 x12_3)).f1) ((rd_T38 l0 (rd l2_0 x12_3)).f2) ((rd_T38 l0 (rd l2_0 x12_3)).f3) ((rd_T38 l0 (rd l2_0 x12_3)).f4)) = some r := by rw [if_neg (show ¬ (false = true) by decide)] at H; exact H
                                  clear H
                                  have H := H1
                                  clear H1
                                  have H' := Aside0.mk H
                                  clear H
                                  have hnb34 := NB311_303.out
                                  have hnc34 := NB303_311.out
                                  have hcz35_0 : wr.cell? ⟨gb311, 0, none⟩ = some (.int .i64 ((rd_T38 l0 (rd l2_0 x12_3)).f0)) := (blk_cell BK311.out 0).trans rfl
                                  have hcz35_1 : wr.cell? ⟨gb311, 1, none⟩ = some (.int .i64 ((rd_T38 l0 (rd l2_0 x12_3)).f1)) := (blk_cell BK311.out 1).trans rfl
                                  have hcz35_2 : wr.cell? ⟨gb311, 2, none⟩ = some (.int .i64 ((rd_T38 l0 (rd l2_0 x12_3)).f2)) := (blk_cell BK311.out 2).trans rfl
                                  have hcz35_3 : wr.cell? ⟨gb311, 3, none⟩ = some (.int .i64 ((rd_T38 l0 (rd l2_0 x12_3)).f3)) := (blk_cell BK311.out 3).trans rfl
                                  have hcz35_4 : wr.cell? ⟨gb311, 4, none⟩ = some (.int .i64 ((rd_T38 l0 (rd l2_0 x12_3)).f4)) := (blk_cell BK311.out 4).trans rfl
                                  have hfz35_0 := blk_frozen BK311.out 0
                                  have hfz35_1 := blk_frozen BK311.out 1
                                  have hfz35_2 := blk_frozen BK311.out 2
                                  have hfz35_3 := blk_frozen BK311.out 3
                                  have hfz35_4 := blk_frozen BK311.out 4
                                  have hcz36_0 : wr.cell? ⟨gb303, 0, none⟩ = some (.slice (some ad309) l2_0.length c2_0) := (blk_cell BK303.out 0).trans rfl
                                  have hcz36_1 : wr.cell? ⟨gb303, 1, none⟩ = some (.slice A2_1 l2_1.length c2_1) := (blk_cell BK303.out 1).trans rfl
                                  have hfz36_0 := blk_frozen BK303.out 0
                                  have hfz36_1 := blk_frozen BK303.out 1
                                  go_wp2_with (first | ((with_reducible refine gate_callee (f := 36) rfl ?_); refine goesL_ (some 86) rfl rfl Try.func36 (by kernel_rfl) rfl #[.slice A2_1 l2_1.length c2_1, .int .i64 x14_4] rfl (by (try simp only [List.map_toArray, List.map_cons, List.map_nil]); first | done | rfl | (simp only [List.length_drop, List.length_take]; rfl)) ?_; (with_reducible refine (chargeparkref27_has.calls k4 _ _ l2_1 x14_4 false _ ?side1 ?side2 A29.out).mono ?_); (case side1 => repeat (first | exact (Kd.C_below HR2_1.out HB.out) | (with_reducible refine Kd.C_alloc ?_ _) | (with_reducible refine Kd.C_drewN ?_ _) | (with_reducible refine Kd.C_drew ?_))); (case side2 => exact HC2_1.out); rintro e w' ⟨rfl, ⟨nd, rfl⟩⟩; refine ⟨_, rfl, ?_⟩))
                                  go_roundg k4
                                  case measure => have := HJ6.out; have := HK2.out; have := HK3.out; have := HK4.out; omega
                                  case rel => exact ⟨(wrap64 (x10_4 - ((rd_T38 l0 (rd l2_0 x12_3)).f3))), (wrap64 (x14_4 + 1)), (by first | rfl | (simp; done) | (simp [*]; done)), (by first | rfl | (simp; done) | (simp [*]; done)), H', ⟨by have := HJ6.out; have := HK2.out; have := HK3.out; have := HK4.out; omega⟩, ⟨by (with_reducible repeat (first | refine blk_drewN ?_ _ | refine blk_drew ?_ | refine blk_alloc ?_ _)); exact BK303.out⟩, ⟨by (with_reducible repeat (first | refine blk_drewN ?_ _ | refine blk_drew ?_ | refine blk_alloc ?_ _)); exact BK311.out⟩, ⟨by repeat (first | (with_reducible first | exact HB.out | apply below_alloc | apply pw_below_drewN | apply below_drew1 | refine below_set ?_ GE303.out | refine below_set ?_ GE311.out) | exact HB.out)⟩⟩
                              · rw [if_neg c28] at H
                                have c28b0 : decide (x14_4 < ((rd_T38 l0 (rd l2_0 x12_3)).f1)) = false := decide_eq_false c28
                                clear c28
                                have H' := Aside0.mk H
                                clear H
                                have hnb37 := NB311_303.out
                                have hnc37 := NB303_311.out
                                have hcz38_0 : wr.cell? ⟨gb311, 0, none⟩ = some (.int .i64 ((rd_T38 l0 (rd l2_0 x12_3)).f0)) := (blk_cell BK311.out 0).trans rfl
                                have hcz38_1 : wr.cell? ⟨gb311, 1, none⟩ = some (.int .i64 ((rd_T38 l0 (rd l2_0 x12_3)).f1)) := (blk_cell BK311.out 1).trans rfl
                                have hcz38_2 : wr.cell? ⟨gb311, 2, none⟩ = some (.int .i64 ((rd_T38 l0 (rd l2_0 x12_3)).f2)) := (blk_cell BK311.out 2).trans rfl
                                have hcz38_3 : wr.cell? ⟨gb311, 3, none⟩ = some (.int .i64 ((rd_T38 l0 (rd l2_0 x12_3)).f3)) := (blk_cell BK311.out 3).trans rfl
                                have hcz38_4 : wr.cell? ⟨gb311, 4, none⟩ = some (.int .i64 ((rd_T38 l0 (rd l2_0 x12_3)).f4)) := (blk_cell BK311.out 4).trans rfl
                                have hfz38_0 := blk_frozen BK311.out 0
                                have hfz38_1 := blk_frozen BK311.out 1
                                have hfz38_2 := blk_frozen BK311.out 2
                                have hfz38_3 := blk_frozen BK311.out 3
                                have hfz38_4 := blk_frozen BK311.out 4
                                go_wp2
                                go_roundg k4
                                case measure => have := HJ6.out; have := HK2.out; have := HK3.out; have := HK4.out; omega
                                case rel => exact ⟨(x10_4), (wrap64 (x12_3 + 1)), (by first | rfl | (simp; done) | (simp [*]; done)), (by first | rfl | (simp; done) | (simp [*]; done)), H', ⟨by have := HJ6.out; have := HK2.out; have := HK3.out; have := HK4.out; omega⟩, ⟨by (with_reducible repeat (first | refine blk_drewN ?_ _ | refine blk_drew ?_ | refine blk_alloc ?_ _)); exact BK303.out⟩, ⟨by repeat (first | (with_reducible first | exact HB.out | apply below_alloc | apply pw_below_drewN | apply below_drew1 | refine below_set ?_ GE303.out | refine below_set ?_ GE311.out) | exact HB.out)⟩⟩
                        · rw [if_neg c23] at H
                          exact absurd H (by simp)
                      · rw [if_neg c22] at H
                        exact absurd H (by simp)
                    · rw [if_neg c21] at H
                      exact absurd H (by simp)
                  · rw [if_neg c20] at H
                    have c20b0 : decide (x12_3 < (l2_0.length : Int)) = false := decide_eq_false c20
                    clear c20
                    obtain rfl := Option.some.inj H
                    have hcz39_0 : wr.cell? ⟨gb303, 0, none⟩ = some (.slice A2_0 l2_0.length c2_0) := (blk_cell BK303.out 0).trans rfl
                    have hcz39_1 : wr.cell? ⟨gb303, 1, none⟩ = some (.slice A2_1 l2_1.length c2_1) := (blk_cell BK303.out 1).trans rfl
                    have hfz39_0 := blk_frozen BK303.out 0
                    have hfz39_1 := blk_frozen BK303.out 1
                    go_wp2
                    go_ret
                    exact ⟨by first | rfl | (simp [errW_none, errW_some] <;> rfl) | (simp [*, errW_none, errW_some] <;> rfl), by repeat (first | (with_reducible first | exact HB.out | apply below_alloc | apply pw_below_drewN | apply below_drew1 | refine below_set ?_ GE303.out) | exact HB.out)⟩

end Go.Proofs.Ytioglahnliajlaa.Pr
