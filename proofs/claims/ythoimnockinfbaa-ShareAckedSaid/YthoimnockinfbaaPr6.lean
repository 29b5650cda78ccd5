-- Written by a program of this session over the kit's print.
import Derived.Test.YthoimnockinfbaaPr0
import Derived.Test.YthoimnockinfbaaPr3
import Derived.Test.YthoimnockinfbaaPr4
import Derived.Test.YthoimnockinfbaaPr5
import Derived.Test.YthoimnockinfbaaShAcked
import Derived.Test.YthoimnockinfbaaShHead
import Derived.Test.YthoimnockinfbaaShValid
namespace Go.Proofs.Ythoimnockinfbaa.Pr
open Go.RowKit Go.Proofs.YthoimnockinfbaaW.PrintWords Go.Proofs.YthoimnockinfbaaW.PrintLast Go.Proofs.YthoimnockinfbaaW.PrintMore
attribute [local go_sem] max2_int min2_int max_two min_two max_three min_three max_four min_four   -- for this text's walks alone
set_option linter.unusedVariables false
set_option linter.unusedSimpArgs false

/-! ### chargeparklaw20_ShareAcked: function 8 -/
mutual
def chargeparklaw20_ShareAcked.j0 : Nat → Int → Bool → Bool → Int → Int → List (S27) → List Int → Option (Bool)
  | 0, _, _, _, _, _, _, _ => none
  | k + 1, x1, x5, x19, x130000, x130001, x130002, x130003 => if x19 = true then (some x5) else ((share_Acked.f x130000 x130001 x130002 x130003 x1).bind fun bt133 => (chargeparklaw20_ShareAcked.l0 k x1 x5 bt133.2.2.2.2 ([] : List (S27)) x130002 (x130002.length : Int) 0 x130000 x130001 x130002 x130003 bt133.1 bt133.2.1 bt133.2.2.1 bt133.2.2.2.1))
def chargeparklaw20_ShareAcked.l0 : Nat → Int → Bool → Int → List (S27) → List (S27) → Int → Int → Int → Int → List (S27) → List Int → Int → Int → List (S27) → List Int → Option (Bool)
  | 0, _, _, _, _, _, _, _, _, _, _, _, _, _, _, _ => none
  | k + 1, x1, x5, x7, x8, x28, x29, x30, x130000, x130001, x130002, x130003, x143000, x143001, x143002, x143003 => if x30 < x29 then (if 0 ≤ x30 then (if x30 < (x28.length : Int) then (if ((rd_T27 x28 x30).f0) = x1 then (chargeparklaw20_ShareAcked.l0 k x1 x5 x7 x8 x28 x29 (wrap64 (x30 + 1)) x130000 x130001 x130002 x130003 x143000 x143001 x143002 x143003) else (if x8.length < 8796093022208 then (chargeparklaw20_ShareAcked.l0 k x1 x5 x7 (x8 ++ [(⟨(rd_T27 x28 x30).f0, (rd_T27 x28 x30).f1⟩ : S27)]) x28 x29 (wrap64 (x30 + 1)) x130000 x130001 x130002 x130003 x143000 x143001 x143002 x143003) else (none))) else (none)) else (none)) else (if (x8.length : Int) = (x130002.length : Int) then (if x5 = true then (if x7 = 4 then ((chargeparkref20_Same.f k x143000 x143001 x143002 x143003 0 0 ([] : List (S27)) ([] : List Int)).bind fun t148 => (some t148)) else (some false)) else (some false)) else (if x5 = true then (if x7 = 0 then ((share_Valid.f x143000 x143001 x143002 x143003).bind fun t149 => (if t149 = true then ((chargeparkref20_Same.f k x143000 x143001 x143002 x143003 x130000 x130001 x8 x130003).bind fun t150 => (some t150)) else (some false))) else (some false)) else (some false)))
end
def chargeparklaw20_ShareAcked.f (k : Nat) (a0_0 : Int) (a0_1 : Int) (l0_2 : List (S27)) (l0_3 : List Int) (a1 : Int) : Option (Bool) := (chargeparklaw20_head.f).bind fun t130 => ((chargeparkref20_Few.f a0_0 a0_1 l0_2 l0_3).bind fun t131 => (if t131 = true then ((chargeparkref20_Valid.f k a0_0 a0_1 l0_2 l0_3).bind fun t132 => (chargeparklaw20_ShareAcked.j0 k a1 t130 (!t132) a0_0 a0_1 l0_2 l0_3)) else (chargeparklaw20_ShareAcked.j0 k a1 t130 true a0_0 a0_1 l0_2 l0_3)))
theorem chargeparklaw20_ShareAcked.mono_l : ∀ k, (∀ y0 y1 y2 y3 y4 y5 y6, LeO (chargeparklaw20_ShareAcked.j0 k y0 y1 y2 y3 y4 y5 y6) (chargeparklaw20_ShareAcked.j0 (k + 1) y0 y1 y2 y3 y4 y5 y6)) ∧ (∀ y0 y1 y2 y3 y4 y5 y6 y7 y8 y9 y10 y11 y12 y13 y14, LeO (chargeparklaw20_ShareAcked.l0 k y0 y1 y2 y3 y4 y5 y6 y7 y8 y9 y10 y11 y12 y13 y14) (chargeparklaw20_ShareAcked.l0 (k + 1) y0 y1 y2 y3 y4 y5 y6 y7 y8 y9 y10 y11 y12 y13 y14))
  | 0 => ⟨fun _ _ _ _ _ _ _ r h => by simp [chargeparklaw20_ShareAcked.j0] at h, fun _ _ _ _ _ _ _ _ _ _ _ _ _ _ _ r h => by simp [chargeparklaw20_ShareAcked.l0] at h⟩
  | k + 1 => by
    obtain ⟨ih0, ih1⟩ := chargeparklaw20_ShareAcked.mono_l k
    refine ⟨?_, ?_⟩
    · intro y0 y1 y2 y3 y4 y5 y6
      unfold chargeparklaw20_ShareAcked.j0
      repeat' first
      | (with_reducible exact ih0 _ _ _ _ _ _ _)
      | (with_reducible exact ih1 _ _ _ _ _ _ _ _ _ _ _ _ _ _ _)
      | (with_reducible exact chargeparkref20_Same.mono _ _ _ _ _ _ _ _ _)
      | (with_reducible exact chargeparkref20_Valid.mono _ _ _ _ _)
      | (with_reducible exact LeO.refl _)
      | (with_reducible exact LeO.none _)
      | (with_reducible refine LeO.ite ?_ ?_)
      | (with_reducible refine LeO.bind ?_ (fun _ => ?_))
      | exact ih0 _ _ _ _ _ _ _
      | exact ih1 _ _ _ _ _ _ _ _ _ _ _ _ _ _ _
      | exact chargeparkref20_Same.mono _ _ _ _ _ _ _ _ _
      | exact chargeparkref20_Valid.mono _ _ _ _ _
      | exact LeO.none _
      | refine LeO.ite ?_ ?_
      | refine LeO.bind ?_ (fun _ => ?_)
    · intro y0 y1 y2 y3 y4 y5 y6 y7 y8 y9 y10 y11 y12 y13 y14
      unfold chargeparklaw20_ShareAcked.l0
      repeat' first
      | (with_reducible exact ih0 _ _ _ _ _ _ _)
      | (with_reducible exact ih1 _ _ _ _ _ _ _ _ _ _ _ _ _ _ _)
      | (with_reducible exact chargeparkref20_Same.mono _ _ _ _ _ _ _ _ _)
      | (with_reducible exact chargeparkref20_Valid.mono _ _ _ _ _)
      | (with_reducible exact LeO.refl _)
      | (with_reducible exact LeO.none _)
      | (with_reducible refine LeO.ite ?_ ?_)
      | (with_reducible refine LeO.bind ?_ (fun _ => ?_))
      | exact ih0 _ _ _ _ _ _ _
      | exact ih1 _ _ _ _ _ _ _ _ _ _ _ _ _ _ _
      | exact chargeparkref20_Same.mono _ _ _ _ _ _ _ _ _
      | exact chargeparkref20_Valid.mono _ _ _ _ _
      | exact LeO.none _
      | refine LeO.ite ?_ ?_
      | refine LeO.bind ?_ (fun _ => ?_)
theorem chargeparklaw20_ShareAcked.mono : ∀ a0 a1 a2 a3 a4 k, LeO (chargeparklaw20_ShareAcked.f k a0 a1 a2 a3 a4) (chargeparklaw20_ShareAcked.f (k + 1) a0 a1 a2 a3 a4) := by
  intro a0 a1 a2 a3 a4 k
  obtain ⟨ih0, ih1⟩ := chargeparklaw20_ShareAcked.mono_l k
  unfold chargeparklaw20_ShareAcked.f
  repeat' first
      | (with_reducible exact ih0 _ _ _ _ _ _ _)
      | (with_reducible exact ih1 _ _ _ _ _ _ _ _ _ _ _ _ _ _ _)
      | (with_reducible exact chargeparkref20_Same.mono _ _ _ _ _ _ _ _ _)
      | (with_reducible exact chargeparkref20_Valid.mono _ _ _ _ _)
      | (with_reducible exact LeO.refl _)
      | (with_reducible exact LeO.none _)
      | (with_reducible refine LeO.ite ?_ ?_)
      | (with_reducible refine LeO.bind ?_ (fun _ => ?_))
      | exact ih0 _ _ _ _ _ _ _
      | exact ih1 _ _ _ _ _ _ _ _ _ _ _ _ _ _ _
      | exact chargeparkref20_Same.mono _ _ _ _ _ _ _ _ _
      | exact chargeparkref20_Valid.mono _ _ _ _ _
      | exact LeO.none _
      | refine LeO.ite ?_ ?_
      | refine LeO.bind ?_ (fun _ => ?_)
set_option maxHeartbeats 8000000 in
set_option maxRecDepth 100000 in
theorem chargeparklaw20_ShareAcked.calls (k : Nat) (a0_0 : Int) (a0_1 : Int) (A0_2 : Option Addr) (c0_2 : Nat) (l0_2 : List (S27)) (A0_3 : Option Addr) (c0_3 : Nat) (l0_3 : List Int) (a1 : Int) (r : Bool) (w : World) (hr0_2 : Kd.C k27 w A0_2 l0_2.length l0_2) (hc0_2 : l0_2.length ≤ c0_2) (hr0_3 : Kd.C (Kd.int .i64) w A0_3 l0_3.length l0_3) (hc0_3 : l0_3.length ≤ c0_3) (h : chargeparklaw20_ShareAcked.f k a0_0 a0_1 l0_2 l0_3 a1 = some r) :
    Calls Try.prog 8 #[.agg #[.int .i64 a0_0, .int .i64 a0_1, .slice A0_2 l0_2.length c0_2, .slice A0_3 l0_3.length c0_3], .int .i64 a1] w fun e w' => e = .returned (.bool r) ∧ Below w.heap.size w w' := by
  have hu25 := Try.underlying25
  have hu27 := Try.underlying27
  have HR0_2 := Aside0.mk hr0_2
  have HC0_2 := Aside0.mk hc0_2
  clear hr0_2 hc0_2
  have HR0_3 := Aside0.mk hr0_3
  have HC0_3 := Aside0.mk hc0_3
  clear hr0_3 hc0_3
  have HB := Aside0.mk (Below.refl w.heap.size w)
  have H : ((chargeparklaw20_head.f).bind fun t130 => ((chargeparkref20_Few.f a0_0 a0_1 l0_2 l0_3).bind fun t131 => (if t131 = true then ((chargeparkref20_Valid.f k a0_0 a0_1 l0_2 l0_3).bind fun t132 => (chargeparklaw20_ShareAcked.j0 k a1 t130 (!t132) a0_0 a0_1 l0_2 l0_3)) else (chargeparklaw20_ShareAcked.j0 k a1 t130 true a0_0 a0_1 l0_2 l0_3)))) = some r := h
  clear h
  replace H := Option.bind_eq_some_iff.mp H
  obtain ⟨t130, A30, H⟩ := H
  replace H : ((chargeparkref20_Few.f a0_0 a0_1 l0_2 l0_3).bind fun t131 => (if t131 = true then ((chargeparkref20_Valid.f k a0_0 a0_1 l0_2 l0_3).bind fun t132 => (chargeparklaw20_ShareAcked.j0 k a1 t130 (!t132) a0_0 a0_1 l0_2 l0_3)) else (chargeparklaw20_ShareAcked.j0 k a1 t130 true a0_0 a0_1 l0_2 l0_3))) = some r := H
  have A3 := Aside0.mk A30
  clear A30
  have HC4 := Aside0.mk H
  clear H
  go_enter Try.func8, Try.ntmps8
  go_upto_region 2 with (first | ((with_reducible refine gate_dst (N := 2) rfl ?_); refine box_event ?hg (N := 2) ?hd (cs := #[.int .i64 a0_0, .int .i64 a0_1, .slice A0_2 l0_2.length c0_2, .slice A0_3 l0_3.length c0_3]) (t := 25) ?hr ?_; (case hd => rfl); (case hg => rfl); (case hr => first | (go_simp; done) | (go_simp; rfl)); intro gb129 hg w5 hbox hb; have n0_ := Aside0.mk (below_step (by repeat (first | (with_reducible first | exact HB.out | apply below_alloc | apply pw_below_drewN | apply below_drew1) | exact HB.out)) hb); have n1_ := Aside0.mk (hbox); have n2_ := Aside0.mk ((by rw [hg]; exact (below_size (by repeat (first | (with_reducible first | exact HB.out | apply below_alloc | apply pw_below_drewN | apply below_drew1) | exact HB.out))) : w.heap.size ≤ gb129)); have n3_ := Aside0.mk ((by rw [hg]; exact (below_size (by repeat (first | (with_reducible first | exact HB.out | apply below_alloc | apply pw_below_drewN | apply below_drew1) | exact HB.out))) : w.heap.size ≤ gb129)); clear HB; have HB := n0_; have BK129 := n1_; have GW129 := n2_; have GE129 := n3_; clear n0_ n1_ n2_ n3_; clear hb hbox hg) | ((with_reducible refine gate_callee (f := 9) rfl ?_); refine goesL_ (some 11) rfl rfl Try.func9 (by kernel_rfl) rfl #[] rfl (by (try simp only [List.map_toArray, List.map_cons, List.map_nil]); first | done | rfl | (simp only [List.length_drop, List.length_take]; rfl)) ?_; (with_reducible refine (chargeparklaw20_head.calls  t130 _ A3.out).mono ?_); rintro e w6 ⟨rfl, hb⟩; refine ⟨_, rfl, ?_⟩; have n0_ := Aside0.mk (blk_below (g := gb129) (o := .cells #[.int .i64 a0_0, .int .i64 a0_1, .slice A0_2 l0_2.length c0_2, .slice A0_3 l0_3.length c0_3] 25 (0, 0)) (by (with_reducible repeat (first | refine blk_drewN ?_ _ | refine blk_drew ?_ | refine blk_alloc ?_ _)); exact BK129.out) hb); have n1_ := Aside0.mk (below_step (by repeat (first | (with_reducible first | exact HB.out | apply below_alloc | apply pw_below_drewN | apply below_drew1 | refine below_set ?_ GE129.out) | exact HB.out)) hb); clear BK129; clear HB; have BK129 := n0_; have HB := n1_; clear n0_ n1_; (try clear hb); (try clear hb2); (try clear hk); (try clear hi)))
  (try simp only [Act.put, List.setIfInBounds_toArray, List.set_cons_zero, List.set_cons_succ])
  go_cut [19] (fun v19 wc => ∃ (kq : Nat) (x19_3 : Bool), v19 = .bool x19_3 ∧ Aside0 (chargeparklaw20_ShareAcked.j0 kq a1 t130 x19_3 a0_0 a0_1 l0_2 l0_3 = some r) ∧ Aside0 (kq ≤ k) ∧ Aside0 (wc.heap[gb129]? = some (.cells #[.int .i64 a0_0, .int .i64 a0_1, (.slice A0_2 l0_2.length c0_2), (.slice A0_3 l0_3.length c0_3)] 25 (0, 0))) ∧ Aside0 (Below w.heap.size w wc))
  case first =>
    have H := HC4.out
    clear HC4
    replace H := Option.bind_eq_some_iff.mp H
    obtain ⟨t131, A70, H⟩ := H
    replace H : (if t131 = true then ((chargeparkref20_Valid.f k a0_0 a0_1 l0_2 l0_3).bind fun t132 => (chargeparklaw20_ShareAcked.j0 k a1 t130 (!t132) a0_0 a0_1 l0_2 l0_3)) else (chargeparklaw20_ShareAcked.j0 k a1 t130 true a0_0 a0_1 l0_2 l0_3)) = some r := H
    have A7 := Aside0.mk A70
    clear A70
    by_cases c8 : t131 = true
    · subst c8
      have H1 : ((chargeparkref20_Valid.f k a0_0 a0_1 l0_2 l0_3).bind fun t132 => (chargeparklaw20_ShareAcked.j0 k a1 t130 (!t132) a0_0 a0_1 l0_2 l0_3)) = some r := by rw [if_pos rfl] at H; exact H
      clear H
      have H := H1
      clear H1
      replace H := Option.bind_eq_some_iff.mp H
      obtain ⟨t132, A90, H⟩ := H
      replace H : (chargeparklaw20_ShareAcked.j0 k a1 t130 (!t132) a0_0 a0_1 l0_2 l0_3) = some r := H
      have A9 := Aside0.mk A90
      clear A90
      have H' := Aside0.mk H
      clear H
      have hcz10_0 : w6.cell? ⟨gb129, 0, none⟩ = some (.int .i64 a0_0) := (blk_cell BK129.out 0).trans rfl
      have hcz10_1 : w6.cell? ⟨gb129, 1, none⟩ = some (.int .i64 a0_1) := (blk_cell BK129.out 1).trans rfl
      have hcz10_2 : w6.cell? ⟨gb129, 2, none⟩ = some (.slice A0_2 l0_2.length c0_2) := (blk_cell BK129.out 2).trans rfl
      have hcz10_3 : w6.cell? ⟨gb129, 3, none⟩ = some (.slice A0_3 l0_3.length c0_3) := (blk_cell BK129.out 3).trans rfl
      have hfz10_0 := blk_frozen BK129.out 0
      have hfz10_1 := blk_frozen BK129.out 1
      have hfz10_2 := blk_frozen BK129.out 2
      have hfz10_3 := blk_frozen BK129.out 3
      go_wp2_with (first | ((with_reducible refine gate_callee (f := 10) rfl ?_); refine goesL_ (some 13) rfl rfl Try.func10 (by kernel_rfl) rfl #[.agg #[.int .i64 a0_0, .int .i64 a0_1, .slice A0_2 l0_2.length c0_2, .slice A0_3 l0_3.length c0_3]] rfl (by (try simp only [List.map_toArray, List.map_cons, List.map_nil]); first | done | rfl | (simp only [List.length_drop, List.length_take]; rfl)) ?_; (with_reducible refine (chargeparkref20_Few.calls a0_0 a0_1 _ _ l0_2 _ _ l0_3 true _ ?side1 ?side2 ?side3 ?side4 A7.out).mono ?_); (case side1 => repeat (first | exact (Kd.C_below HR0_2.out HB.out) | (with_reducible refine Kd.C_alloc ?_ _) | (with_reducible refine Kd.C_drewN ?_ _) | (with_reducible refine Kd.C_drew ?_))); (case side2 => exact HC0_2.out); (case side3 => repeat (first | exact (Kd.C_below HR0_3.out HB.out) | (with_reducible refine Kd.C_alloc ?_ _) | (with_reducible refine Kd.C_drewN ?_ _) | (with_reducible refine Kd.C_drew ?_))); (case side4 => exact HC0_3.out); rintro e w11 ⟨rfl, hb⟩; refine ⟨_, rfl, ?_⟩; have n0_ := Aside0.mk (blk_below (g := gb129) (o := .cells #[.int .i64 a0_0, .int .i64 a0_1, .slice A0_2 l0_2.length c0_2, .slice A0_3 l0_3.length c0_3] 25 (0, 0)) (by (with_reducible repeat (first | refine blk_drewN ?_ _ | refine blk_drew ?_ | refine blk_alloc ?_ _)); exact BK129.out) hb); have n1_ := Aside0.mk (below_step (by repeat (first | (with_reducible first | exact HB.out | apply below_alloc | apply pw_below_drewN | apply below_drew1 | refine below_set ?_ GE129.out) | exact HB.out)) hb); clear BK129; clear HB; have BK129 := n0_; have HB := n1_; clear n0_ n1_; (try clear hb); (try clear hb2); (try clear hk); (try clear hi); have hcz12_0 : w11.cell? ⟨gb129, 0, none⟩ = some (.int .i64 a0_0) := (blk_cell BK129.out 0).trans rfl; have hcz12_1 : w11.cell? ⟨gb129, 1, none⟩ = some (.int .i64 a0_1) := (blk_cell BK129.out 1).trans rfl; have hcz12_2 : w11.cell? ⟨gb129, 2, none⟩ = some (.slice A0_2 l0_2.length c0_2) := (blk_cell BK129.out 2).trans rfl; have hcz12_3 : w11.cell? ⟨gb129, 3, none⟩ = some (.slice A0_3 l0_3.length c0_3) := (blk_cell BK129.out 3).trans rfl; have hfz12_0 := blk_frozen BK129.out 0; have hfz12_1 := blk_frozen BK129.out 1; have hfz12_2 := blk_frozen BK129.out 2; have hfz12_3 := blk_frozen BK129.out 3) | (go_at_call 19; (with_reducible refine (chargeparkref20_Valid.calls k a0_0 a0_1 _ _ l0_2 _ _ l0_3 t132 _ ?side1 ?side2 ?side3 ?side4 A9.out).mono ?_); (case side1 => repeat (first | exact (Kd.C_below HR0_2.out HB.out) | (with_reducible refine Kd.C_alloc ?_ _) | (with_reducible refine Kd.C_drewN ?_ _) | (with_reducible refine Kd.C_drew ?_))); (case side2 => exact HC0_2.out); (case side3 => repeat (first | exact (Kd.C_below HR0_3.out HB.out) | (with_reducible refine Kd.C_alloc ?_ _) | (with_reducible refine Kd.C_drewN ?_ _) | (with_reducible refine Kd.C_drew ?_))); (case side4 => exact HC0_3.out); rintro e w13 ⟨rfl, hb⟩; have n0_ := Aside0.mk (blk_below (g := gb129) (o := .cells #[.int .i64 a0_0, .int .i64 a0_1, .slice A0_2 l0_2.length c0_2, .slice A0_3 l0_3.length c0_3] 25 (0, 0)) (by (with_reducible repeat (first | refine blk_drewN ?_ _ | refine blk_drew ?_ | refine blk_alloc ?_ _)); exact BK129.out) hb); have n1_ := Aside0.mk (below_step (by repeat (first | (with_reducible first | exact HB.out | apply below_alloc | apply pw_below_drewN | apply below_drew1 | refine below_set ?_ GE129.out) | exact HB.out)) hb); clear BK129; clear HB; have BK129 := n0_; have HB := n1_; clear n0_ n1_; (try clear hb); (try clear hb2); (try clear hk); (try clear hi)))
      go_meet
      case rel => exact ⟨_, (!t132), (by first | rfl | (simp; done) | (simp [*]; done)), H', ⟨by first | omega | exact Nat.le_refl _⟩, ⟨by (with_reducible repeat (first | refine blk_drewN ?_ _ | refine blk_drew ?_ | refine blk_alloc ?_ _)); exact BK129.out⟩, ⟨by repeat (first | (with_reducible first | exact HB.out | apply below_alloc | apply pw_below_drewN | apply below_drew1 | refine below_set ?_ GE129.out) | exact HB.out)⟩⟩
    · replace c8 := Bool.eq_false_iff.mpr c8
      subst c8
      have H1 : (chargeparklaw20_ShareAcked.j0 k a1 t130 true a0_0 a0_1 l0_2 l0_3) = some r := by rw [if_neg (show ¬ (false = true) by decide)] at H; exact H
      clear H
      have H := H1
      clear H1
      have H' := Aside0.mk H
      clear H
      have hcz14_0 : w6.cell? ⟨gb129, 0, none⟩ = some (.int .i64 a0_0) := (blk_cell BK129.out 0).trans rfl
      have hcz14_1 : w6.cell? ⟨gb129, 1, none⟩ = some (.int .i64 a0_1) := (blk_cell BK129.out 1).trans rfl
      have hcz14_2 : w6.cell? ⟨gb129, 2, none⟩ = some (.slice A0_2 l0_2.length c0_2) := (blk_cell BK129.out 2).trans rfl
      have hcz14_3 : w6.cell? ⟨gb129, 3, none⟩ = some (.slice A0_3 l0_3.length c0_3) := (blk_cell BK129.out 3).trans rfl
      have hfz14_0 := blk_frozen BK129.out 0
      have hfz14_1 := blk_frozen BK129.out 1
      have hfz14_2 := blk_frozen BK129.out 2
      have hfz14_3 := blk_frozen BK129.out 3
      go_wp2_with (first | ((with_reducible refine gate_callee (f := 10) rfl ?_); refine goesL_ (some 13) rfl rfl Try.func10 (by kernel_rfl) rfl #[.agg #[.int .i64 a0_0, .int .i64 a0_1, .slice A0_2 l0_2.length c0_2, .slice A0_3 l0_3.length c0_3]] rfl (by (try simp only [List.map_toArray, List.map_cons, List.map_nil]); first | done | rfl | (simp only [List.length_drop, List.length_take]; rfl)) ?_; (with_reducible refine (chargeparkref20_Few.calls a0_0 a0_1 _ _ l0_2 _ _ l0_3 false _ ?side1 ?side2 ?side3 ?side4 A7.out).mono ?_); (case side1 => repeat (first | exact (Kd.C_below HR0_2.out HB.out) | (with_reducible refine Kd.C_alloc ?_ _) | (with_reducible refine Kd.C_drewN ?_ _) | (with_reducible refine Kd.C_drew ?_))); (case side2 => exact HC0_2.out); (case side3 => repeat (first | exact (Kd.C_below HR0_3.out HB.out) | (with_reducible refine Kd.C_alloc ?_ _) | (with_reducible refine Kd.C_drewN ?_ _) | (with_reducible refine Kd.C_drew ?_))); (case side4 => exact HC0_3.out); rintro e w15 ⟨rfl, hb⟩; refine ⟨_, rfl, ?_⟩; have n0_ := Aside0.mk (blk_below (g := gb129) (o := .cells #[.int .i64 a0_0, .int .i64 a0_1, .slice A0_2 l0_2.length c0_2, .slice A0_3 l0_3.length c0_3] 25 (0, 0)) (by (with_reducible repeat (first | refine blk_drewN ?_ _ | refine blk_drew ?_ | refine blk_alloc ?_ _)); exact BK129.out) hb); have n1_ := Aside0.mk (below_step (by repeat (first | (with_reducible first | exact HB.out | apply below_alloc | apply pw_below_drewN | apply below_drew1 | refine below_set ?_ GE129.out) | exact HB.out)) hb); clear BK129; clear HB; have BK129 := n0_; have HB := n1_; clear n0_ n1_; (try clear hb); (try clear hb2); (try clear hk); (try clear hi)))
      go_meet
      case rel => exact ⟨_, (true), (by first | rfl | (simp; done) | (simp [*]; done)), H', ⟨by first | omega | exact Nat.le_refl _⟩, ⟨by (with_reducible repeat (first | refine blk_drewN ?_ _ | refine blk_drew ?_ | refine blk_alloc ?_ _)); exact BK129.out⟩, ⟨by repeat (first | (with_reducible first | exact HB.out | apply below_alloc | apply pw_below_drewN | apply below_drew1 | refine below_set ?_ GE129.out) | exact HB.out)⟩⟩
  case rest =>
    clear HC4
    try clear c1
    try clear p2
    try clear c8
    try clear c9
    try clear c10
    try clear hcz10_0
    try clear hcz10_1
    try clear hcz10_2
    try clear hcz10_3
    try clear hcz12_0
    try clear hcz12_1
    try clear hcz12_2
    try clear hcz12_3
    try clear hcz14_0
    try clear hcz14_1
    try clear hcz14_2
    try clear hcz14_3
    try clear hfz10_0
    try clear hfz10_1
    try clear hfz10_2
    try clear hfz10_3
    try clear hfz12_0
    try clear hfz12_1
    try clear hfz12_2
    try clear hfz12_3
    try clear hfz14_0
    try clear hfz14_1
    try clear hfz14_2
    try clear hfz14_3
    obtain ⟨kq, x19_3, rfl, HA, HJ3, BK129, HB⟩ := hcut
    cases kq with
    | zero => exact absurd HA.out (by simp [chargeparklaw20_ShareAcked.j0])
    | succ kj3 =>
      have H := HA.out
      clear HA
      simp only [chargeparklaw20_ShareAcked.j0] at H
      by_cases c16 : x19_3 = true
      · subst c16
        have H1 : (some t130) = some r := by rw [if_pos rfl] at H; exact H
        clear H
        have H := H1
        clear H1
        obtain rfl := Option.some.inj H
        go_wp2
        go_ret
        exact ⟨by first | rfl | (simp [errW_none, errW_some] <;> rfl) | (simp [*, errW_none, errW_some] <;> rfl), by repeat (first | (with_reducible first | exact HB.out | apply below_alloc | apply pw_below_drewN | apply below_drew1 | refine below_set ?_ GE129.out) | exact HB.out)⟩
      · replace c16 := Bool.eq_false_iff.mpr c16
        subst c16
        have H1 : ((share_Acked.f a0_0 a0_1 l0_2 l0_3 a1).bind fun bt133 => (chargeparklaw20_ShareAcked.l0 kj3 a1 t130 bt133.2.2.2.2 ([] : List (S27)) l0_2 (l0_2.length : Int) 0 a0_0 a0_1 l0_2 l0_3 bt133.1 bt133.2.1 bt133.2.2.1 bt133.2.2.2.1)) = some r := by rw [if_neg (show ¬ (false = true) by decide)] at H; exact H
        clear H
        have H := H1
        clear H1
        replace H := Option.bind_eq_some_iff.mp H
        obtain ⟨⟨t133, t134, t135, t138, t141⟩, A170, H⟩ := H
        replace H : (chargeparklaw20_ShareAcked.l0 kj3 a1 t130 t141 ([] : List (S27)) l0_2 (l0_2.length : Int) 0 a0_0 a0_1 l0_2 l0_3 t133 t134 t135 t138) = some r := H
        have A17 := Aside0.mk A170
        clear A170
        have H' := Aside0.mk H
        clear H
        have hcz18_0 : wc.cell? ⟨gb129, 0, none⟩ = some (.int .i64 a0_0) := (blk_cell BK129.out 0).trans rfl
        have hcz18_1 : wc.cell? ⟨gb129, 1, none⟩ = some (.int .i64 a0_1) := (blk_cell BK129.out 1).trans rfl
        have hcz18_2 : wc.cell? ⟨gb129, 2, none⟩ = some (.slice A0_2 l0_2.length c0_2) := (blk_cell BK129.out 2).trans rfl
        have hcz18_3 : wc.cell? ⟨gb129, 3, none⟩ = some (.slice A0_3 l0_3.length c0_3) := (blk_cell BK129.out 3).trans rfl
        have hfz18_0 := blk_frozen BK129.out 0
        have hfz18_1 := blk_frozen BK129.out 1
        have hfz18_2 := blk_frozen BK129.out 2
        have hfz18_3 := blk_frozen BK129.out 3
        go_wp2_with (first | ((with_reducible refine gate_callee (f := 15) rfl ?_); refine goesL_ (some 24) rfl rfl Try.func15 (by kernel_rfl) rfl #[.agg #[.int .i64 a0_0, .int .i64 a0_1, .slice A0_2 l0_2.length c0_2, .slice A0_3 l0_3.length c0_3], .int .i64 a1] rfl (by (try simp only [List.map_toArray, List.map_cons, List.map_nil]); first | done | rfl | (simp only [List.length_drop, List.length_take]; rfl)) ?_; (with_reducible refine (share_Acked.calls a0_0 a0_1 _ _ l0_2 _ _ l0_3 a1 t133 t134 t135 t138 t141 _ ?side1 ?side2 ?side3 ?side4 A17.out).mono ?_); (case side1 => repeat (first | exact (Kd.C_below HR0_2.out HB.out) | (with_reducible refine Kd.C_alloc ?_ _) | (with_reducible refine Kd.C_drewN ?_ _) | (with_reducible refine Kd.C_drew ?_))); (case side2 => exact HC0_2.out); (case side3 => repeat (first | exact (Kd.C_below HR0_3.out HB.out) | (with_reducible refine Kd.C_alloc ?_ _) | (with_reducible refine Kd.C_drewN ?_ _) | (with_reducible refine Kd.C_drew ?_))); (case side4 => exact HC0_3.out); rintro e w19 ⟨v136, v139, rfl, ho0, ho1, hb⟩; refine ⟨_, rfl, ?_⟩; have n0_ := Aside0.mk (Kd.R_lower ho0 (below_size (by repeat (first | (with_reducible first | exact HB.out | apply below_alloc | apply pw_below_drewN | apply below_drew1 | refine below_set ?_ GE129.out) | exact HB.out)))); have n1_ := Aside0.mk (Kd.R_lower ho1 (below_size (by repeat (first | (with_reducible first | exact HB.out | apply below_alloc | apply pw_below_drewN | apply below_drew1 | refine below_set ?_ GE129.out) | exact HB.out)))); have n2_ := Aside0.mk (blk_below (g := gb129) (o := .cells #[.int .i64 a0_0, .int .i64 a0_1, .slice A0_2 l0_2.length c0_2, .slice A0_3 l0_3.length c0_3] 25 (0, 0)) (by (with_reducible repeat (first | refine blk_drewN ?_ _ | refine blk_drew ?_ | refine blk_alloc ?_ _)); exact BK129.out) hb); have n3_ := Aside0.mk (below_step (by repeat (first | (with_reducible first | exact HB.out | apply below_alloc | apply pw_below_drewN | apply below_drew1 | refine below_set ?_ GE129.out) | exact HB.out)) hb); clear BK129; clear HB; have HO137 := n0_; have HO140 := n1_; have BK129 := n2_; have HB := n3_; clear n0_ n1_ n2_ n3_; (try clear hb); (try clear hb2); (try clear hk); (try clear hi); (try clear ho0); (try clear ho1)) | ((with_reducible refine gate_dst (N := 6) rfl ?_); refine box_event ?hg (N := 6) ?hd (cs := #[.int .i64 0, .int .i64 0, .slice none 0 0, .slice none 0 0]) (t := 25) ?hr ?_; (case hd => rfl); (case hg => rfl); (case hr => first | (go_simp; done) | (go_simp; rfl)); intro gb142 hg w20 hbox hb; have n0_ := Aside0.mk (Kd.R_below (by (with_reducible repeat (first | apply Kd.R_alloc | apply Kd.R_drewN | apply Kd.R_drew)); exact HO137.out) hb); have n1_ := Aside0.mk (Kd.R_below (by (with_reducible repeat (first | apply Kd.R_alloc | apply Kd.R_drewN | apply Kd.R_drew)); exact HO140.out) hb); have n2_ := Aside0.mk (blk_below (g := gb129) (o := .cells #[.int .i64 a0_0, .int .i64 a0_1, .slice A0_2 l0_2.length c0_2, .slice A0_3 l0_3.length c0_3] 25 (0, 0)) (by (with_reducible repeat (first | refine blk_drewN ?_ _ | refine blk_drew ?_ | refine blk_alloc ?_ _)); exact BK129.out) hb); have n3_ := Aside0.mk (below_step (by repeat (first | (with_reducible first | exact HB.out | apply below_alloc | apply pw_below_drewN | apply below_drew1 | refine below_set ?_ GE129.out) | exact HB.out)) hb); have n4_ := Aside0.mk (hbox); have n5_ := Aside0.mk ((by rw [hg]; exact (below_size (by repeat (first | (with_reducible first | exact HB.out | apply below_alloc | apply pw_below_drewN | apply below_drew1 | refine below_set ?_ GE129.out) | exact HB.out))) : w.heap.size ≤ gb142)); have n6_ := Aside0.mk ((by rw [hg]; exact (below_size (by repeat (first | (with_reducible first | exact HB.out | apply below_alloc | apply pw_below_drewN | apply below_drew1 | refine below_set ?_ GE129.out) | exact HB.out))) : w.heap.size ≤ gb142)); have n7_ := Aside0.mk ((by rw [hg]; exact Nat.ne_of_lt (blk_lt (g := gb129) (o := .cells #[.int .i64 a0_0, .int .i64 a0_1, .slice A0_2 l0_2.length c0_2, .slice A0_3 l0_3.length c0_3] 25 (0, 0)) (by (with_reducible repeat (first | refine blk_drewN ?_ _ | refine blk_drew ?_ | refine blk_alloc ?_ _)); exact BK129.out)) : gb129 ≠ gb142)); have n8_ := Aside0.mk ((by rw [hg]; exact Nat.ne_of_gt (blk_lt (g := gb129) (o := .cells #[.int .i64 a0_0, .int .i64 a0_1, .slice A0_2 l0_2.length c0_2, .slice A0_3 l0_3.length c0_3] 25 (0, 0)) (by (with_reducible repeat (first | refine blk_drewN ?_ _ | refine blk_drew ?_ | refine blk_alloc ?_ _)); exact BK129.out)) : gb142 ≠ gb129)); clear HO137; clear HO140; clear BK129; clear HB; have HO137 := n0_; have HO140 := n1_; have BK129 := n2_; have HB := n3_; have BK142 := n4_; have GW142 := n5_; have GE142 := n6_; have NB129_142 := n7_; have NB142_129 := n8_; clear n0_ n1_ n2_ n3_ n4_ n5_ n6_ n7_ n8_; clear hb hbox hg; have hnb21 := NB142_129.out; have hnc21 := NB129_142.out; have hcz22_0 : w20.cell? ⟨gb142, 0, none⟩ = some (.int .i64 0) := (blk_cell BK142.out 0).trans rfl; have hcz22_1 : w20.cell? ⟨gb142, 1, none⟩ = some (.int .i64 0) := (blk_cell BK142.out 1).trans rfl; have hcz22_2 : w20.cell? ⟨gb142, 2, none⟩ = some (.slice none 0 0) := (blk_cell BK142.out 2).trans rfl; have hcz22_3 : w20.cell? ⟨gb142, 3, none⟩ = some (.slice none 0 0) := (blk_cell BK142.out 3).trans rfl; have hfz22_0 := blk_frozen BK142.out 0; have hfz22_1 := blk_frozen BK142.out 1; have hfz22_2 := blk_frozen BK142.out 2; have hfz22_3 := blk_frozen BK142.out 3; obtain ⟨Ao23, co23, eo23⟩ := Kd.R_slice HO137.out; subst eo23; obtain ⟨Ao24, co24, eo24⟩ := Kd.R_slice HO140.out; subst eo24; have hcz25_0 : w20.cell? ⟨gb129, 0, none⟩ = some (.int .i64 a0_0) := (blk_cell BK129.out 0).trans rfl; have hcz25_1 : w20.cell? ⟨gb129, 1, none⟩ = some (.int .i64 a0_1) := (blk_cell BK129.out 1).trans rfl; have hcz25_2 : w20.cell? ⟨gb129, 2, none⟩ = some (.slice A0_2 l0_2.length c0_2) := (blk_cell BK129.out 2).trans rfl; have hcz25_3 : w20.cell? ⟨gb129, 3, none⟩ = some (.slice A0_3 l0_3.length c0_3) := (blk_cell BK129.out 3).trans rfl; have hfz25_0 := blk_frozen BK129.out 0; have hfz25_1 := blk_frozen BK129.out 1; have hfz25_2 := blk_frozen BK129.out 2; have hfz25_3 := blk_frozen BK129.out 3))
        go_loopg [8, 30] kj3 (fun kq v8 v30 w' => ∃ (x8_2 : List (S27)) (x30_2 : Int), v30 = .int .i64 x30_2 ∧ Aside0 (chargeparklaw20_ShareAcked.l0 kq a1 t130 t141 x8_2 l0_2 (l0_2.length : Int) x30_2 a0_0 a0_1 l0_2 l0_3 t133 t134 t135 t138 = some r) ∧ Aside0 (kq ≤ kj3) ∧ Aside0 (Kd.R k27 27 w' w.heap.size (fun k_ => some k_ ≠ ((.slice Ao23 t135.length co23) : Value).ownBlock) v8 x8_2) ∧ Aside0 (Kd.R k27 27 w' w.heap.size (fun k_ => some k_ ≠ (v8 : Value).ownBlock) (.slice Ao23 t135.length co23) t135) ∧ Aside0 (Kd.R (Kd.int .i64) 3 w' w.heap.size (fun _ => True) (.slice Ao24 t138.length co24) t138) ∧ Aside0 (w'.heap[gb129]? = some (.cells #[.int .i64 a0_0, .int .i64 a0_1, (.slice A0_2 l0_2.length c0_2), (.slice A0_3 l0_3.length c0_3)] 25 (0, 0))) ∧ Aside0 (w'.heap[gb142]? = some (.cells #[.int .i64 t133, .int .i64 t134, (.slice Ao23 t135.length co23), (.slice Ao24 t138.length co24)] 25 (0, 0))) ∧ Aside0 (Below w.heap.size w w'))
        case atStart => exact ⟨(([] : List (S27))), (0), (by first | rfl | (simp; done) | (simp [*]; done)), H', ⟨Nat.le_refl _⟩, ⟨by first | exact Kd.R_nil _ _ _ _ _ | exact Kd.N_nil _ _ _ _ _ | exact Kd.V_nil _ _ _ _ _ | exact Kd.Q_nil _ _ _ _ _ | exact Kd.S_nil _ _ _ _ _⟩, ⟨by (with_reducible repeat (first | apply Kd.R_alloc | apply Kd.R_drewN | apply Kd.R_drew)); exact Kd.R_mono (Kd.R_far (p := ⟨gb142, 3, none⟩) (Kd.R_far (p := ⟨gb142, 2, none⟩) (Kd.R_far (p := ⟨gb142, 1, none⟩) (Kd.R_far (p := ⟨gb142, 0, none⟩) (Kd.R_types HO137.out BK142.out (by decide)) (fun _ hk => hk.2) (.int .i64 t133)) (fun _ hk => hk.2) (.int .i64 t134)) (fun _ hk => hk.2) (.slice Ao23 t135.length co23)) (fun _ hk => hk.2) (.slice Ao24 t138.length co24)) (fun _ hk => (by simp [Value.ownBlock]))⟩, ⟨by (with_reducible repeat (first | apply Kd.R_alloc | apply Kd.R_drewN | apply Kd.R_drew)); exact Kd.R_mono (Kd.R_far (p := ⟨gb142, 3, none⟩) (Kd.R_far (p := ⟨gb142, 2, none⟩) (Kd.R_far (p := ⟨gb142, 1, none⟩) (Kd.R_far (p := ⟨gb142, 0, none⟩) (Kd.R_types HO140.out BK142.out (by decide)) (fun _ hk => hk.2) (.int .i64 t133)) (fun _ hk => hk.2) (.int .i64 t134)) (fun _ hk => hk.2) (.slice Ao23 t135.length co23)) (fun _ hk => hk.2) (.slice Ao24 t138.length co24)) (fun _ hk => trivial)⟩, ⟨by (with_reducible repeat (first | refine blk_drewN ?_ _ | refine blk_drew ?_ | refine blk_alloc ?_ _)); refine blk_far ?_ NB129_142.out _; (with_reducible repeat (first | refine blk_drewN ?_ _ | refine blk_drew ?_ | refine blk_alloc ?_ _)); refine blk_far ?_ NB129_142.out _; (with_reducible repeat (first | refine blk_drewN ?_ _ | refine blk_drew ?_ | refine blk_alloc ?_ _)); refine blk_far ?_ NB129_142.out _; (with_reducible repeat (first | refine blk_drewN ?_ _ | refine blk_drew ?_ | refine blk_alloc ?_ _)); refine blk_far ?_ NB129_142.out _; (with_reducible repeat (first | refine blk_drewN ?_ _ | refine blk_drew ?_ | refine blk_alloc ?_ _)); exact BK129.out⟩, ⟨by (with_reducible repeat (first | refine blk_drewN ?_ _ | refine blk_drew ?_ | refine blk_alloc ?_ _)); refine blk_put (cs := #[.int .i64 t133, .int .i64 t134, .slice Ao23 t135.length co23, .slice none 0 0]) ?_ 3 _ rfl; (with_reducible repeat (first | refine blk_drewN ?_ _ | refine blk_drew ?_ | refine blk_alloc ?_ _)); refine blk_put (cs := #[.int .i64 t133, .int .i64 t134, .slice none 0 0, .slice none 0 0]) ?_ 2 _ rfl; (with_reducible repeat (first | refine blk_drewN ?_ _ | refine blk_drew ?_ | refine blk_alloc ?_ _)); refine blk_put (cs := #[.int .i64 t133, .int .i64 0, .slice none 0 0, .slice none 0 0]) ?_ 1 _ rfl; (with_reducible repeat (first | refine blk_drewN ?_ _ | refine blk_drew ?_ | refine blk_alloc ?_ _)); refine blk_put (cs := #[.int .i64 0, .int .i64 0, .slice none 0 0, .slice none 0 0]) ?_ 0 _ rfl; (with_reducible repeat (first | refine blk_drewN ?_ _ | refine blk_drew ?_ | refine blk_alloc ?_ _)); exact BK142.out⟩, ⟨by repeat (first | (with_reducible first | exact HB.out | apply below_alloc | apply pw_below_drewN | apply below_drew1 | refine below_set ?_ GE129.out | refine below_set ?_ GE142.out) | exact HB.out)⟩⟩
        case round =>
          clear H'
          try clear c1
          try clear c2
          try clear p2
          try clear c8
          try clear c9
          try clear c10
          try clear c15
          try clear c16
          try clear c21
          try clear hcz10_0
          try clear hcz10_1
          try clear hcz10_2
          try clear hcz10_3
          try clear hcz12_0
          try clear hcz12_1
          try clear hcz12_2
          try clear hcz12_3
          try clear hcz14_0
          try clear hcz14_1
          try clear hcz14_2
          try clear hcz14_3
          try clear hcz18_0
          try clear hcz18_1
          try clear hcz18_2
          try clear hcz18_3
          try clear hcz22_0
          try clear hcz22_1
          try clear hcz22_2
          try clear hcz22_3
          try clear hcz25_0
          try clear hcz25_1
          try clear hcz25_2
          try clear hcz25_3
          try clear hfz10_0
          try clear hfz10_1
          try clear hfz10_2
          try clear hfz10_3
          try clear hfz12_0
          try clear hfz12_1
          try clear hfz12_2
          try clear hfz12_3
          try clear hfz14_0
          try clear hfz14_1
          try clear hfz14_2
          try clear hfz14_3
          try clear hfz18_0
          try clear hfz18_1
          try clear hfz18_2
          try clear hfz18_3
          try clear hfz22_0
          try clear hfz22_1
          try clear hfz22_2
          try clear hfz22_3
          try clear hfz25_0
          try clear hfz25_1
          try clear hfz25_2
          try clear hfz25_3
          try clear p2
          obtain ⟨x8_2, x30_2, rfl, HA, HK2, HO_8, HO_143002, HO_143003, BK129, BK142, HB⟩ := hrel
          cases gk with
          | zero => exact absurd HA.out (by simp [chargeparklaw20_ShareAcked.l0])
          | succ k2 =>
            have H := HA.out
            clear HA
            simp only [chargeparklaw20_ShareAcked.l0] at H
            by_cases c26 : x30_2 < (l0_2.length : Int)
            · rw [if_pos c26] at H
              have c26b0 : decide (x30_2 < (l0_2.length : Int)) = true := decide_eq_true c26
              clear c26
              by_cases c27 : 0 ≤ x30_2
              · rw [if_pos c27] at H
                have c27b0 : decide (0 ≤ x30_2) = true := decide_eq_true c27
                clear c27
                by_cases c28 : x30_2 < (l0_2.length : Int)
                · rw [if_pos c28] at H
                  have c28b0 : decide (x30_2 < (l0_2.length : Int)) = true := decide_eq_true c28
                  clear c28
                  by_cases c29 : ((rd_T27 l0_2 x30_2).f0) = a1
                  · rw [if_pos c29] at H
                    have c29b0 : (((rd_T27 l0_2 x30_2).f0) == a1) = true := beq_iff_eq.mpr c29
                    have c29b1 : (((rd_T27 l0_2 x30_2).f0) != a1) = false := bne_eq_false_iff_eq.mpr c29
                    clear c29
                    have H' := Aside0.mk H
                    clear H
                    have p143 : 0 ≤ (x30_2 : Int) := of_decide_eq_true (by first | (with_reducible assumption) | assumption)
                    have q143 : x30_2 < (l0_2.length : Int) := of_decide_eq_true (by first | (with_reducible assumption) | assumption)
                    obtain ⟨ad143, e143, hx143_0, hx143_1⟩ := at_T27 HR0_2.out x30_2 p143 q143
                    cases e143
                    replace hx143_0 := (HB.out.cell (World.block_lt_of_cell? w _ hx143_0)).trans hx143_0
                    replace hx143_1 := (HB.out.cell (World.block_lt_of_cell? w _ hx143_1)).trans hx143_1
                    replace p143 := eq_true p143
                    replace q143 := eq_true q143
                    go_wp2_with (first | ((with_reducible refine gate_dst (N := 10) rfl ?_); refine box_event ?hg (N := 10) ?hd (cs := #[.int .i64 0, .int .i64 0]) (t := 27) ?hr ?_; (case hd => rfl); (case hg => rfl); (case hr => first | (go_simp; done) | (go_simp; rfl)); intro gb144 hg w30 hbox hb; have n0_ := Aside0.mk (Kd.R_below (Kd.R_elderB (by (with_reducible repeat (first | apply Kd.R_alloc | apply Kd.R_drewN | apply Kd.R_drew)); exact HO_8.out) gb144 (Nat.le_of_eq hg.symm)) hb); have n1_ := Aside0.mk (Kd.R_below (Kd.R_elderB (by (with_reducible repeat (first | apply Kd.R_alloc | apply Kd.R_drewN | apply Kd.R_drew)); exact HO_143002.out) gb144 (Nat.le_of_eq hg.symm)) hb); have n2_ := Aside0.mk (Kd.R_below (by (with_reducible repeat (first | apply Kd.R_alloc | apply Kd.R_drewN | apply Kd.R_drew)); exact HO_143003.out) hb); have n3_ := Aside0.mk (blk_below (g := gb129) (o := .cells #[.int .i64 a0_0, .int .i64 a0_1, .slice (some ad143) l0_2.length c0_2, .slice A0_3 l0_3.length c0_3] 25 (0, 0)) (by (with_reducible repeat (first | refine blk_drewN ?_ _ | refine blk_drew ?_ | refine blk_alloc ?_ _)); exact BK129.out) hb); have n4_ := Aside0.mk (blk_below (g := gb142) (o := .cells #[.int .i64 t133, .int .i64 t134, .slice Ao23 t135.length co23, .slice Ao24 t138.length co24] 25 (0, 0)) (by (with_reducible repeat (first | refine blk_drewN ?_ _ | refine blk_drew ?_ | refine blk_alloc ?_ _)); exact BK142.out) hb); have n5_ := Aside0.mk (below_step (by repeat (first | (with_reducible first | exact HB.out | apply below_alloc | apply pw_below_drewN | apply below_drew1 | refine below_set ?_ GE129.out | refine below_set ?_ GE142.out) | exact HB.out)) hb); have n6_ := Aside0.mk (hbox); have n7_ := Aside0.mk ((by rw [hg]; exact (below_size (by repeat (first | (with_reducible first | exact HB.out | apply below_alloc | apply pw_below_drewN | apply below_drew1 | refine below_set ?_ GE129.out | refine below_set ?_ GE142.out) | exact HB.out))) : w.heap.size ≤ gb144)); have n8_ := Aside0.mk ((by rw [hg]; exact (below_size (by repeat (first | (with_reducible first | exact HB.out | apply below_alloc | apply pw_below_drewN | apply below_drew1 | refine below_set ?_ GE129.out | refine below_set ?_ GE142.out) | exact HB.out))) : w.heap.size ≤ gb144)); have n9_ := Aside0.mk ((by rw [hg]; exact Nat.ne_of_lt (blk_lt (g := gb129) (o := .cells #[.int .i64 a0_0, .int .i64 a0_1, .slice (some ad143) l0_2.length c0_2, .slice A0_3 l0_3.length c0_3] 25 (0, 0)) (by (with_reducible repeat (first | refine blk_drewN ?_ _ | refine blk_drew ?_ | refine blk_alloc ?_ _)); exact BK129.out)) : gb129 ≠ gb144)); have n10_ := Aside0.mk ((by rw [hg]; exact Nat.ne_of_gt (blk_lt (g := gb129) (o := .cells #[.int .i64 a0_0, .int .i64 a0_1, .slice (some ad143) l0_2.length c0_2, .slice A0_3 l0_3.length c0_3] 25 (0, 0)) (by (with_reducible repeat (first | refine blk_drewN ?_ _ | refine blk_drew ?_ | refine blk_alloc ?_ _)); exact BK129.out)) : gb144 ≠ gb129)); have n11_ := Aside0.mk ((by rw [hg]; exact Nat.ne_of_lt (blk_lt (g := gb142) (o := .cells #[.int .i64 t133, .int .i64 t134, .slice Ao23 t135.length co23, .slice Ao24 t138.length co24] 25 (0, 0)) (by (with_reducible repeat (first | refine blk_drewN ?_ _ | refine blk_drew ?_ | refine blk_alloc ?_ _)); exact BK142.out)) : gb142 ≠ gb144)); have n12_ := Aside0.mk ((by rw [hg]; exact Nat.ne_of_gt (blk_lt (g := gb142) (o := .cells #[.int .i64 t133, .int .i64 t134, .slice Ao23 t135.length co23, .slice Ao24 t138.length co24] 25 (0, 0)) (by (with_reducible repeat (first | refine blk_drewN ?_ _ | refine blk_drew ?_ | refine blk_alloc ?_ _)); exact BK142.out)) : gb144 ≠ gb142)); clear HO_8; clear HO_143002; clear HO_143003; clear BK129; clear BK142; clear HB; have HO_8 := n0_; have HO_143002 := n1_; have HO_143003 := n2_; have BK129 := n3_; have BK142 := n4_; have HB := n5_; have BK144 := n6_; have GW144 := n7_; have GE144 := n8_; have NB129_144 := n9_; have NB144_129 := n10_; have NB142_144 := n11_; have NB144_142 := n12_; clear n0_ n1_ n2_ n3_ n4_ n5_ n6_ n7_ n8_ n9_ n10_ n11_ n12_; clear hb hbox hg; have hnb31 := NB144_129.out; have hnc31 := NB129_144.out; have hnb32 := NB144_142.out; have hnc32 := NB142_144.out; have hcz33_0 : w30.cell? ⟨gb144, 0, none⟩ = some (.int .i64 0) := (blk_cell BK144.out 0).trans rfl; have hcz33_1 : w30.cell? ⟨gb144, 1, none⟩ = some (.int .i64 0) := (blk_cell BK144.out 1).trans rfl; have hfz33_0 := blk_frozen BK144.out 0; have hfz33_1 := blk_frozen BK144.out 1))
                    go_roundg k2
                    case measure => have := HJ3.out; have := HK2.out; omega
                    case rel => exact ⟨(x8_2), (wrap64 (x30_2 + 1)), (by first | rfl | (simp; done) | (simp [*]; done)), H', ⟨by have := HJ3.out; have := HK2.out; omega⟩, ⟨by (with_reducible repeat (first | apply Kd.R_alloc | apply Kd.R_drewN | apply Kd.R_drew)); exact Kd.R_mono (Kd.R_far (p := ⟨gb144, 1, none⟩) (Kd.R_far (p := ⟨gb144, 0, none⟩) (Kd.R_mono HO_8.out (fun k_ hk => (⟨hk, hk.2⟩ : _ ∧ k_ ≠ gb144))) (fun _ hk => hk.2) (.int .i64 ((rd_T27 l0_2 x30_2).f0))) (fun _ hk => hk.2) (.int .i64 ((rd_T27 l0_2 x30_2).f1))) (fun _ hk => hk.1.1)⟩, ⟨by (with_reducible repeat (first | apply Kd.R_alloc | apply Kd.R_drewN | apply Kd.R_drew)); exact Kd.R_mono (Kd.R_far (p := ⟨gb144, 1, none⟩) (Kd.R_far (p := ⟨gb144, 0, none⟩) (Kd.R_mono HO_143002.out (fun k_ hk => (⟨hk, hk.2⟩ : _ ∧ k_ ≠ gb144))) (fun _ hk => hk.2) (.int .i64 ((rd_T27 l0_2 x30_2).f0))) (fun _ hk => hk.2) (.int .i64 ((rd_T27 l0_2 x30_2).f1))) (fun _ hk => hk.1.1)⟩, ⟨by (with_reducible repeat (first | apply Kd.R_alloc | apply Kd.R_drewN | apply Kd.R_drew)); exact Kd.R_mono (Kd.R_far (p := ⟨gb144, 1, none⟩) (Kd.R_far (p := ⟨gb144, 0, none⟩) (Kd.R_types HO_143003.out BK144.out (by decide)) (fun _ hk => hk.2) (.int .i64 ((rd_T27 l0_2 x30_2).f0))) (fun _ hk => hk.2) (.int .i64 ((rd_T27 l0_2 x30_2).f1))) (fun _ hk => trivial)⟩, ⟨by (with_reducible repeat (first | refine blk_drewN ?_ _ | refine blk_drew ?_ | refine blk_alloc ?_ _)); refine blk_far ?_ NB129_144.out _; (with_reducible repeat (first | refine blk_drewN ?_ _ | refine blk_drew ?_ | refine blk_alloc ?_ _)); refine blk_far ?_ NB129_144.out _; (with_reducible repeat (first | refine blk_drewN ?_ _ | refine blk_drew ?_ | refine blk_alloc ?_ _)); exact BK129.out⟩, ⟨by (with_reducible repeat (first | refine blk_drewN ?_ _ | refine blk_drew ?_ | refine blk_alloc ?_ _)); refine blk_far ?_ NB142_144.out _; (with_reducible repeat (first | refine blk_drewN ?_ _ | refine blk_drew ?_ | refine blk_alloc ?_ _)); refine blk_far ?_ NB142_144.out _; (with_reducible repeat (first | refine blk_drewN ?_ _ | refine blk_drew ?_ | refine blk_alloc ?_ _)); exact BK142.out⟩, ⟨by repeat (first | (with_reducible first | exact HB.out | apply below_alloc | apply pw_below_drewN | apply below_drew1 | refine below_set ?_ GE129.out | refine below_set ?_ GE142.out | refine below_set ?_ GE144.out) | exact HB.out)⟩⟩
                  · rw [if_neg c29] at H
                    have c29b0 : (((rd_T27 l0_2 x30_2).f0) == a1) = false := beq_eq_false_iff_ne.mpr c29
                    have c29b1 : (((rd_T27 l0_2 x30_2).f0) != a1) = true := bne_iff_ne.mpr c29
                    by_cases c34 : x8_2.length < 8796093022208
                    · rw [if_pos c34] at H
                      have LMc34 := Aside0.mk c34
                      clear c34
                      obtain ⟨y145, hy145⟩ : ∃ y_ : List (S27), y_ = (x8_2 ++ [(⟨(rd_T27 l0_2 x30_2).f0, (rd_T27 l0_2 x30_2).f1⟩ : S27)]) := ⟨_, rfl⟩
                      replace H : (chargeparklaw20_ShareAcked.l0 k2 a1 t130 t141 y145 l0_2 (l0_2.length : Int) (wrap64 (x30_2 + 1)) a0_0 a0_1 l0_2 l0_3 t133 t134 t135 t138) = some r := by first | (rw [hy145]; with_reducible exact H) | (have H2_ := (Option.bind_some _ _).symm.trans H; rw [hy145]; with_reducible exact H2_) | (have H2_ := (Option.bind_some _ _).symm.trans H; with_reducible exact H2_) | with_reducible exact H | (rw [hy145]; exact H) | exact H
                      have Ny145 := Aside0.mk hy145
                      clear hy145
                      have H' := Aside0.mk H
                      clear H
                      have p143 : 0 ≤ (x30_2 : Int) := of_decide_eq_true (by first | (with_reducible assumption) | assumption)
                      have q143 : x30_2 < (l0_2.length : Int) := of_decide_eq_true (by first | (with_reducible assumption) | assumption)
                      obtain ⟨ad143, e143, hx143_0, hx143_1⟩ := at_T27 HR0_2.out x30_2 p143 q143
                      cases e143
                      replace hx143_0 := (HB.out.cell (World.block_lt_of_cell? w _ hx143_0)).trans hx143_0
                      replace hx143_1 := (HB.out.cell (World.block_lt_of_cell? w _ hx143_1)).trans hx143_1
                      replace p143 := eq_true p143
                      replace q143 := eq_true q143
                      go_wp2_with (first | ((with_reducible refine gate_dst (N := 10) rfl ?_); refine box_event ?hg (N := 10) ?hd (cs := #[.int .i64 0, .int .i64 0]) (t := 27) ?hr ?_; (case hd => rfl); (case hg => rfl); (case hr => first | (go_simp; done) | (go_simp; rfl)); intro gb144 hg w35 hbox hb; have n0_ := Aside0.mk (Kd.R_below (Kd.R_elderB (by (with_reducible repeat (first | apply Kd.R_alloc | apply Kd.R_drewN | apply Kd.R_drew)); exact HO_8.out) gb144 (Nat.le_of_eq hg.symm)) hb); have n1_ := Aside0.mk (Kd.R_below (Kd.R_elderB (by (with_reducible repeat (first | apply Kd.R_alloc | apply Kd.R_drewN | apply Kd.R_drew)); exact HO_143002.out) gb144 (Nat.le_of_eq hg.symm)) hb); have n2_ := Aside0.mk (Kd.R_below (by (with_reducible repeat (first | apply Kd.R_alloc | apply Kd.R_drewN | apply Kd.R_drew)); exact HO_143003.out) hb); have n3_ := Aside0.mk (blk_below (g := gb129) (o := .cells #[.int .i64 a0_0, .int .i64 a0_1, .slice (some ad143) l0_2.length c0_2, .slice A0_3 l0_3.length c0_3] 25 (0, 0)) (by (with_reducible repeat (first | refine blk_drewN ?_ _ | refine blk_drew ?_ | refine blk_alloc ?_ _)); exact BK129.out) hb); have n4_ := Aside0.mk (blk_below (g := gb142) (o := .cells #[.int .i64 t133, .int .i64 t134, .slice Ao23 t135.length co23, .slice Ao24 t138.length co24] 25 (0, 0)) (by (with_reducible repeat (first | refine blk_drewN ?_ _ | refine blk_drew ?_ | refine blk_alloc ?_ _)); exact BK142.out) hb); have n5_ := Aside0.mk (below_step (by repeat (first | (with_reducible first | exact HB.out | apply below_alloc | apply pw_below_drewN | apply below_drew1 | refine below_set ?_ GE129.out | refine below_set ?_ GE142.out) | exact HB.out)) hb); have n6_ := Aside0.mk (hbox); have n7_ := Aside0.mk ((by rw [hg]; exact (below_size (by repeat (first | (with_reducible first | exact HB.out | apply below_alloc | apply pw_below_drewN | apply below_drew1 | refine below_set ?_ GE129.out | refine below_set ?_ GE142.out) | exact HB.out))) : w.heap.size ≤ gb144)); have n8_ := Aside0.mk ((by rw [hg]; exact (below_size (by repeat (first | (with_reducible first | exact HB.out | apply below_alloc | apply pw_below_drewN | apply below_drew1 | refine below_set ?_ GE129.out | refine below_set ?_ GE142.out) | exact HB.out))) : w.heap.size ≤ gb144)); have n9_ := Aside0.mk ((by rw [hg]; exact Nat.ne_of_lt (blk_lt (g := gb129) (o := .cells #[.int .i64 a0_0, .int .i64 a0_1, .slice (some ad143) l0_2.length c0_2, .slice A0_3 l0_3.length c0_3] 25 (0, 0)) (by (with_reducible repeat (first | refine blk_drewN ?_ _ | refine blk_drew ?_ | refine blk_alloc ?_ _)); exact BK129.out)) : gb129 ≠ gb144)); have n10_ := Aside0.mk ((by rw [hg]; exact Nat.ne_of_gt (blk_lt (g := gb129) (o := .cells #[.int .i64 a0_0, .int .i64 a0_1, .slice (some ad143) l0_2.length c0_2, .slice A0_3 l0_3.length c0_3] 25 (0, 0)) (by (with_reducible repeat (first | refine blk_drewN ?_ _ | refine blk_drew ?_ | refine blk_alloc ?_ _)); exact BK129.out)) : gb144 ≠ gb129)); have n11_ := Aside0.mk ((by rw [hg]; exact Nat.ne_of_lt (blk_lt (g := gb142) (o := .cells #[.int .i64 t133, .int .i64 t134, .slice Ao23 t135.length co23, .slice Ao24 t138.length co24] 25 (0, 0)) (by (with_reducible repeat (first | refine blk_drewN ?_ _ | refine blk_drew ?_ | refine blk_alloc ?_ _)); exact BK142.out)) : gb142 ≠ gb144)); have n12_ := Aside0.mk ((by rw [hg]; exact Nat.ne_of_gt (blk_lt (g := gb142) (o := .cells #[.int .i64 t133, .int .i64 t134, .slice Ao23 t135.length co23, .slice Ao24 t138.length co24] 25 (0, 0)) (by (with_reducible repeat (first | refine blk_drewN ?_ _ | refine blk_drew ?_ | refine blk_alloc ?_ _)); exact BK142.out)) : gb144 ≠ gb142)); clear HO_8; clear HO_143002; clear HO_143003; clear BK129; clear BK142; clear HB; have HO_8 := n0_; have HO_143002 := n1_; have HO_143003 := n2_; have BK129 := n3_; have BK142 := n4_; have HB := n5_; have BK144 := n6_; have GW144 := n7_; have GE144 := n8_; have NB129_144 := n9_; have NB144_129 := n10_; have NB142_144 := n11_; have NB144_142 := n12_; clear n0_ n1_ n2_ n3_ n4_ n5_ n6_ n7_ n8_ n9_ n10_ n11_ n12_; clear hb hbox hg; have hnb36 := NB144_129.out; have hnc36 := NB129_144.out; have hnb37 := NB144_142.out; have hnc37 := NB142_144.out; have hcz38_0 : w35.cell? ⟨gb144, 0, none⟩ = some (.int .i64 0) := (blk_cell BK144.out 0).trans rfl; have hcz38_1 : w35.cell? ⟨gb144, 1, none⟩ = some (.int .i64 0) := (blk_cell BK144.out 1).trans rfl; have hfz38_0 := blk_frozen BK144.out 0; have hfz38_1 := blk_frozen BK144.out 1) | ((with_reducible refine gate_builtin (b := .append) (xs := #[.tmp 38, .tmp 40]) rfl ?_); at_builtin; refine Kd.R_append k27 (w0 := w) w.heap.size rfl (.tmp 38) (.tmp 40) 22 27 (.agg #[(.int .i64 0), (.int .i64 0)]) 16 rfl Try.underlying22 info27 rfl (by decide) (by omega) u8 x8_2 (⟨(rd_T27 l0_2 x30_2).f0, (rd_T27 l0_2 x30_2).f1⟩ : S27) [.int .i64 ((rd_T27 l0_2 x30_2).f0), .int .i64 ((rd_T27 l0_2 x30_2).f1)] (fun k_ => some k_ ≠ (.slice Ao23 t135.length co23 : Value).ownBlock ∧ k_ ≠ gb144) (fun _ => False) rfl (by first | (go_simp; done) | (go_simp; rfl)) ?aP (fun _ hk => hk.elim) ?aF ?aO ?aB ?aS ?aL ?_; (case aP => exact k27_mkM _ _ _ (⟨(rd_T27 l0_2 x30_2).f0, (rd_T27 l0_2 x30_2).f1⟩ : S27)); (case aB => exact (by repeat (first | (with_reducible first | exact HB.out | apply below_alloc | apply pw_below_drewN | apply below_drew1 | refine below_set ?_ GE129.out | refine below_set ?_ GE142.out | refine below_set ?_ GE144.out) | exact HB.out))); (case aF => exact (fun k_ hk => ⟨Kd.fresh' (Kd.R_lt (by (with_reducible repeat (first | apply Kd.R_alloc | apply Kd.R_drewN | apply Kd.R_drew)); exact (Kd.R_mono (Kd.R_far (p := ⟨gb144, 1, none⟩) (Kd.R_far (p := ⟨gb144, 0, none⟩) (Kd.R_mono HO_143002.out (fun k_ hk => (⟨hk, hk.2⟩ : _ ∧ k_ ≠ gb144))) (fun _ hk => hk.2) (.int .i64 ((rd_T27 l0_2 x30_2).f0))) (fun _ hk => hk.2) (.int .i64 ((rd_T27 l0_2 x30_2).f1))) (fun _ h_ => h_.1)))) k_ hk, Kd.freshB (g := gb144) (o := .cells #[.int .i64 ((rd_T27 l0_2 x30_2).f0), .int .i64 ((rd_T27 l0_2 x30_2).f1)] 27 (0, 0)) (by (with_reducible repeat (first | refine blk_drewN ?_ _ | refine blk_drew ?_ | refine blk_alloc ?_ _)); refine blk_put (cs := #[.int .i64 ((rd_T27 l0_2 x30_2).f0), .int .i64 0]) ?_ 1 _ rfl; (with_reducible repeat (first | refine blk_drewN ?_ _ | refine blk_drew ?_ | refine blk_alloc ?_ _)); refine blk_put (cs := #[.int .i64 0, .int .i64 0]) ?_ 0 _ rfl; (with_reducible repeat (first | refine blk_drewN ?_ _ | refine blk_drew ?_ | refine blk_alloc ?_ _)); exact BK144.out) k_ hk⟩)); (case aO => exact (by (with_reducible repeat (first | apply Kd.R_alloc | apply Kd.R_drewN | apply Kd.R_drew)); exact Kd.R_mono (Kd.R_far (p := ⟨gb144, 1, none⟩) (Kd.R_far (p := ⟨gb144, 0, none⟩) (Kd.R_mono HO_8.out (fun k_ hk => (⟨hk, hk.2⟩ : _ ∧ k_ ≠ gb144))) (fun _ hk => hk.2) (.int .i64 ((rd_T27 l0_2 x30_2).f0))) (fun _ hk => hk.2) (.int .i64 ((rd_T27 l0_2 x30_2).f1))) (fun _ hk => ⟨hk.1.1, hk.1.2⟩))); (case aS => exact (below_size (by repeat (first | (with_reducible first | exact HB.out | apply below_alloc | apply pw_below_drewN | apply below_drew1 | refine below_set ?_ GE129.out | refine below_set ?_ GE142.out | refine below_set ?_ GE144.out) | exact HB.out)))); (case aL => have := LMc34.out; omega); intro v146 w39 ho hb hg hat; rw [← Ny145.out] at ho; have n0_ := Aside0.mk (Kd.R_after (ok := (fun k_ => k_ ≠ gb144)) (by (with_reducible repeat (first | apply Kd.R_alloc | apply Kd.R_drewN | apply Kd.R_drew)); exact Kd.R_mono (Kd.R_far (p := ⟨gb144, 1, none⟩) (Kd.R_far (p := ⟨gb144, 0, none⟩) (Kd.R_mono HO_143002.out (fun k_ hk => (⟨hk, hk.2⟩ : _ ∧ k_ ≠ gb144))) (fun _ hk => hk.2) (.int .i64 ((rd_T27 l0_2 x30_2).f0))) (fun _ hk => hk.2) (.int .i64 ((rd_T27 l0_2 x30_2).f1))) (fun _ hk => ⟨hk.1.2, hk.1.1⟩)) hg hat); have n1_ := Aside0.mk (Kd.R_over' (by (with_reducible repeat (first | apply Kd.R_alloc | apply Kd.R_drewN | apply Kd.R_drew)); exact (Kd.R_mono (Kd.R_far (p := ⟨gb144, 1, none⟩) (Kd.R_far (p := ⟨gb144, 0, none⟩) (Kd.R_types HO_143003.out BK144.out (by decide)) (fun _ hk => hk.2) (.int .i64 ((rd_T27 l0_2 x30_2).f0))) (fun _ hk => hk.2) (.int .i64 ((rd_T27 l0_2 x30_2).f1))) (fun _ h_ => h_.1))) (Kd.R_typed (by (with_reducible repeat (first | apply Kd.R_alloc | apply Kd.R_drewN | apply Kd.R_drew)); exact (Kd.R_mono (Kd.R_far (p := ⟨gb144, 1, none⟩) (Kd.R_far (p := ⟨gb144, 0, none⟩) (Kd.R_mono HO_8.out (fun k_ hk => (⟨hk, hk.2⟩ : _ ∧ k_ ≠ gb144))) (fun _ hk => hk.2) (.int .i64 ((rd_T27 l0_2 x30_2).f0))) (fun _ hk => hk.2) (.int .i64 ((rd_T27 l0_2 x30_2).f1))) (fun _ h_ => h_.1)))) (by decide) hg); have n2_ := Aside0.mk (blk_grown (g := gb129) (o := .cells #[.int .i64 a0_0, .int .i64 a0_1, .slice (some ad143) l0_2.length c0_2, .slice A0_3 l0_3.length c0_3] 25 (0, 0)) (by (with_reducible repeat (first | refine blk_drewN ?_ _ | refine blk_drew ?_ | refine blk_alloc ?_ _)); refine blk_far ?_ NB129_144.out _; (with_reducible repeat (first | refine blk_drewN ?_ _ | refine blk_drew ?_ | refine blk_alloc ?_ _)); refine blk_far ?_ NB129_144.out _; (with_reducible repeat (first | refine blk_drewN ?_ _ | refine blk_drew ?_ | refine blk_alloc ?_ _)); exact BK129.out) hg (Kd.R_ne HO_8.out BK129.out (by decide))); have n3_ := Aside0.mk (blk_grown (g := gb142) (o := .cells #[.int .i64 t133, .int .i64 t134, .slice Ao23 t135.length co23, .slice Ao24 t138.length co24] 25 (0, 0)) (by (with_reducible repeat (first | refine blk_drewN ?_ _ | refine blk_drew ?_ | refine blk_alloc ?_ _)); refine blk_far ?_ NB142_144.out _; (with_reducible repeat (first | refine blk_drewN ?_ _ | refine blk_drew ?_ | refine blk_alloc ?_ _)); refine blk_far ?_ NB142_144.out _; (with_reducible repeat (first | refine blk_drewN ?_ _ | refine blk_drew ?_ | refine blk_alloc ?_ _)); exact BK142.out) hg (Kd.R_ne HO_8.out BK142.out (by decide))); have n4_ := Aside0.mk (blk_grown (g := gb144) (o := .cells #[.int .i64 ((rd_T27 l0_2 x30_2).f0), .int .i64 ((rd_T27 l0_2 x30_2).f1)] 27 (0, 0)) (by (with_reducible repeat (first | refine blk_drewN ?_ _ | refine blk_drew ?_ | refine blk_alloc ?_ _)); refine blk_put (cs := #[.int .i64 ((rd_T27 l0_2 x30_2).f0), .int .i64 0]) ?_ 1 _ rfl; (with_reducible repeat (first | refine blk_drewN ?_ _ | refine blk_drew ?_ | refine blk_alloc ?_ _)); refine blk_put (cs := #[.int .i64 0, .int .i64 0]) ?_ 0 _ rfl; (with_reducible repeat (first | refine blk_drewN ?_ _ | refine blk_drew ?_ | refine blk_alloc ?_ _)); exact BK144.out) hg (Kd.R_away HO_8.out (fun _ hk => hk.2))); have n5_ := Aside0.mk (hb); have n6_ := Aside0.mk (ho); clear HO_143002; clear HO_143003; clear BK129; clear BK142; clear BK144; clear HB; clear HO_8; have HO_143002 := n0_; have HO_143003 := n1_; have BK129 := n2_; have BK142 := n3_; have BK144 := n4_; have HB := n5_; have HO147 := n6_; clear n0_ n1_ n2_ n3_ n4_ n5_ n6_; clear ho hb hg hat))
                      go_roundg k2
                      case measure => have := HJ3.out; have := HK2.out; omega
                      case rel => exact ⟨(y145), (wrap64 (x30_2 + 1)), (by first | rfl | (simp; done) | (simp [*]; done)), H', ⟨by have := HJ3.out; have := HK2.out; omega⟩, ⟨by (with_reducible repeat (first | apply Kd.R_alloc | apply Kd.R_drewN | apply Kd.R_drew)); exact Kd.R_mono HO147.out (fun _ hk => hk.1)⟩, ⟨by (with_reducible repeat (first | apply Kd.R_alloc | apply Kd.R_drewN | apply Kd.R_drew)); exact Kd.R_mono HO_143002.out (fun _ hk => hk.2)⟩, ⟨by (with_reducible repeat (first | apply Kd.R_alloc | apply Kd.R_drewN | apply Kd.R_drew)); exact HO_143003.out⟩, ⟨by (with_reducible repeat (first | refine blk_drewN ?_ _ | refine blk_drew ?_ | refine blk_alloc ?_ _)); exact BK129.out⟩, ⟨by (with_reducible repeat (first | refine blk_drewN ?_ _ | refine blk_drew ?_ | refine blk_alloc ?_ _)); exact BK142.out⟩, ⟨by repeat (first | (with_reducible first | exact HB.out | apply below_alloc | apply pw_below_drewN | apply below_drew1 | refine below_set ?_ GE129.out | refine below_set ?_ GE142.out | refine below_set ?_ GE144.out) | exact HB.out)⟩⟩
                    · rw [if_neg c34] at H
                      exact absurd H (by simp)
                · rw [if_neg c28] at H
                  exact absurd H (by simp)
              · rw [if_neg c27] at H
                exact absurd H (by simp)
            · rw [if_neg c26] at H
              have c26b0 : decide (x30_2 < (l0_2.length : Int)) = false := decide_eq_false c26
              clear c26
              by_cases c40 : (x8_2.length : Int) = (l0_2.length : Int)
              · rw [if_pos c40] at H
                have c40b0 : ((x8_2.length : Int) == (l0_2.length : Int)) = true := beq_iff_eq.mpr c40
                have c40b1 : ((x8_2.length : Int) != (l0_2.length : Int)) = false := bne_eq_false_iff_eq.mpr c40
                have c40b2 : (x8_2.length == l0_2.length) = true := by first | simpa using c40 | (simp at c40 ⊢; omega)
                clear c40
                by_cases c41 : t130 = true
                · subst c41
                  have H1 : (if t141 = 4 then ((chargeparkref20_Same.f k2 t133 t134 t135 t138 0 0 ([] : List (S27)) ([] : List Int)).bind fun t148 => (some t148)) else (some false)) = some r := by rw [if_pos rfl] at H; exact H
                  clear H
                  have H := H1
                  clear H1
                  by_cases c42 : t141 = 4
                  · rw [if_pos c42] at H
                    have c42b0 : (t141 == 4) = true := beq_iff_eq.mpr c42
                    have c42b1 : (t141 != 4) = false := bne_eq_false_iff_eq.mpr c42
                    clear c42
                    replace H := Option.bind_eq_some_iff.mp H
                    obtain ⟨t148, A430, H⟩ := H
                    replace H : (some t148) = some r := H
                    have A43 := Aside0.mk A430
                    clear A430
                    obtain rfl := Option.some.inj H
                    obtain ⟨Ao44, co44, eo44⟩ := Kd.R_slice HO_8.out
                    subst eo44
                    have hnb45 := NB129_142.out
                    have hnc45 := NB142_129.out
                    have hcz46_0 : wr.cell? ⟨gb129, 0, none⟩ = some (.int .i64 a0_0) := (blk_cell BK129.out 0).trans rfl
                    have hcz46_1 : wr.cell? ⟨gb129, 1, none⟩ = some (.int .i64 a0_1) := (blk_cell BK129.out 1).trans rfl
                    have hcz46_2 : wr.cell? ⟨gb129, 2, none⟩ = some (.slice A0_2 l0_2.length c0_2) := (blk_cell BK129.out 2).trans rfl
                    have hcz46_3 : wr.cell? ⟨gb129, 3, none⟩ = some (.slice A0_3 l0_3.length c0_3) := (blk_cell BK129.out 3).trans rfl
                    have hfz46_0 := blk_frozen BK129.out 0
                    have hfz46_1 := blk_frozen BK129.out 1
                    have hfz46_2 := blk_frozen BK129.out 2
                    have hfz46_3 := blk_frozen BK129.out 3
                    have hcz47_0 : wr.cell? ⟨gb142, 0, none⟩ = some (.int .i64 t133) := (blk_cell BK142.out 0).trans rfl
                    have hcz47_1 : wr.cell? ⟨gb142, 1, none⟩ = some (.int .i64 t134) := (blk_cell BK142.out 1).trans rfl
                    have hcz47_2 : wr.cell? ⟨gb142, 2, none⟩ = some (.slice Ao23 t135.length co23) := (blk_cell BK142.out 2).trans rfl
                    have hcz47_3 : wr.cell? ⟨gb142, 3, none⟩ = some (.slice Ao24 t138.length co24) := (blk_cell BK142.out 3).trans rfl
                    have hfz47_0 := blk_frozen BK142.out 0
                    have hfz47_1 := blk_frozen BK142.out 1
                    have hfz47_2 := blk_frozen BK142.out 2
                    have hfz47_3 := blk_frozen BK142.out 3
                    go_wp2_with (first | (go_at_call 17; (refine (chargeparkref20_Same.calls k2 t133 t134 _ _ t135 _ _ t138 0 0 _ _ ([] : List (S27)) _ _ ([] : List Int) t148 _ ?side1 ?side2 ?side3 ?side4 ?side5 ?side6 ?side7 ?side8 A43.out).mono ?_); (case side1 => repeat (first | exact (Kd.R_reads' HO_143002.out).2.2 | (with_reducible refine Kd.C_alloc ?_ _) | (with_reducible refine Kd.C_drewN ?_ _) | (with_reducible refine Kd.C_drew ?_))); (case side2 => exact (Kd.R_reads' HO_143002.out).2.1); (case side3 => repeat (first | exact (Kd.R_reads' HO_143003.out).2.2 | (with_reducible refine Kd.C_alloc ?_ _) | (with_reducible refine Kd.C_drewN ?_ _) | (with_reducible refine Kd.C_drew ?_))); (case side4 => exact (Kd.R_reads' HO_143003.out).2.1); (case side5 => exact Kd.C_nil _ _); (case side6 => exact Nat.le_refl _); (case side7 => exact Kd.C_nil _ _); (case side8 => exact Nat.le_refl _); rintro e w48 ⟨rfl, hb⟩; have n0_ := Aside0.mk (Kd.R_below (by (with_reducible repeat (first | apply Kd.R_alloc | apply Kd.R_drewN | apply Kd.R_drew)); exact HO_8.out) hb); have n1_ := Aside0.mk (Kd.R_below (by (with_reducible repeat (first | apply Kd.R_alloc | apply Kd.R_drewN | apply Kd.R_drew)); exact HO_143002.out) hb); have n2_ := Aside0.mk (Kd.R_below (by (with_reducible repeat (first | apply Kd.R_alloc | apply Kd.R_drewN | apply Kd.R_drew)); exact HO_143003.out) hb); have n3_ := Aside0.mk (blk_below (g := gb129) (o := .cells #[.int .i64 a0_0, .int .i64 a0_1, .slice A0_2 l0_2.length c0_2, .slice A0_3 l0_3.length c0_3] 25 (0, 0)) (by (with_reducible repeat (first | refine blk_drewN ?_ _ | refine blk_drew ?_ | refine blk_alloc ?_ _)); exact BK129.out) hb); have n4_ := Aside0.mk (blk_below (g := gb142) (o := .cells #[.int .i64 t133, .int .i64 t134, .slice Ao23 t135.length co23, .slice Ao24 t138.length co24] 25 (0, 0)) (by (with_reducible repeat (first | refine blk_drewN ?_ _ | refine blk_drew ?_ | refine blk_alloc ?_ _)); exact BK142.out) hb); have n5_ := Aside0.mk (below_step (by repeat (first | (with_reducible first | exact HB.out | apply below_alloc | apply pw_below_drewN | apply below_drew1 | refine below_set ?_ GE129.out | refine below_set ?_ GE142.out) | exact HB.out)) hb); clear HO_8; clear HO_143002; clear HO_143003; clear BK129; clear BK142; clear HB; have HO_8 := n0_; have HO_143002 := n1_; have HO_143003 := n2_; have BK129 := n3_; have BK142 := n4_; have HB := n5_; clear n0_ n1_ n2_ n3_ n4_ n5_; (try clear hb); (try clear hb2); (try clear hk); (try clear hi)))
                    go_ret
                    exact ⟨by first | rfl | (simp [errW_none, errW_some] <;> rfl) | (simp [*, errW_none, errW_some] <;> rfl), by repeat (first | (with_reducible first | exact HB.out | apply below_alloc | apply pw_below_drewN | apply below_drew1 | refine below_set ?_ GE129.out | refine below_set ?_ GE142.out) | exact HB.out)⟩
                  · rw [if_neg c42] at H
                    have c42b0 : (t141 == 4) = false := beq_eq_false_iff_ne.mpr c42
                    have c42b1 : (t141 != 4) = true := bne_iff_ne.mpr c42
                    obtain rfl := Option.some.inj H
                    obtain ⟨Ao49, co49, eo49⟩ := Kd.R_slice HO_8.out
                    subst eo49
                    have hnb50 := NB129_142.out
                    have hnc50 := NB142_129.out
                    have hcz51_0 : wr.cell? ⟨gb129, 0, none⟩ = some (.int .i64 a0_0) := (blk_cell BK129.out 0).trans rfl
                    have hcz51_1 : wr.cell? ⟨gb129, 1, none⟩ = some (.int .i64 a0_1) := (blk_cell BK129.out 1).trans rfl
                    have hcz51_2 : wr.cell? ⟨gb129, 2, none⟩ = some (.slice A0_2 l0_2.length c0_2) := (blk_cell BK129.out 2).trans rfl
                    have hcz51_3 : wr.cell? ⟨gb129, 3, none⟩ = some (.slice A0_3 l0_3.length c0_3) := (blk_cell BK129.out 3).trans rfl
                    have hfz51_0 := blk_frozen BK129.out 0
                    have hfz51_1 := blk_frozen BK129.out 1
                    have hfz51_2 := blk_frozen BK129.out 2
                    have hfz51_3 := blk_frozen BK129.out 3
                    go_wp2
                    go_ret
                    exact ⟨by first | rfl | (simp [errW_none, errW_some] <;> rfl) | (simp [*, errW_none, errW_some] <;> rfl), by repeat (first | (with_reducible first | exact HB.out | apply below_alloc | apply pw_below_drewN | apply below_drew1 | refine below_set ?_ GE129.out | refine below_set ?_ GE142.out) | exact HB.out)⟩
                · replace c41 := Bool.eq_false_iff.mpr c41
                  subst c41
                  have H1 : (some false) = some r := by rw [if_neg (show ¬ (false = true) by decide)] at H; exact H
                  clear H
                  have H := H1
                  clear H1
                  obtain rfl := Option.some.inj H
                  obtain ⟨Ao52, co52, eo52⟩ := Kd.R_slice HO_8.out
                  subst eo52
                  have hnb53 := NB129_142.out
                  have hnc53 := NB142_129.out
                  have hcz54_0 : wr.cell? ⟨gb129, 0, none⟩ = some (.int .i64 a0_0) := (blk_cell BK129.out 0).trans rfl
                  have hcz54_1 : wr.cell? ⟨gb129, 1, none⟩ = some (.int .i64 a0_1) := (blk_cell BK129.out 1).trans rfl
                  have hcz54_2 : wr.cell? ⟨gb129, 2, none⟩ = some (.slice A0_2 l0_2.length c0_2) := (blk_cell BK129.out 2).trans rfl
                  have hcz54_3 : wr.cell? ⟨gb129, 3, none⟩ = some (.slice A0_3 l0_3.length c0_3) := (blk_cell BK129.out 3).trans rfl
                  have hfz54_0 := blk_frozen BK129.out 0
                  have hfz54_1 := blk_frozen BK129.out 1
                  have hfz54_2 := blk_frozen BK129.out 2
                  have hfz54_3 := blk_frozen BK129.out 3
                  go_wp2
                  go_ret
                  exact ⟨by first | rfl | (simp [errW_none, errW_some] <;> rfl) | (simp [*, errW_none, errW_some] <;> rfl), by repeat (first | (with_reducible first | exact HB.out | apply below_alloc | apply pw_below_drewN | apply below_drew1 | refine below_set ?_ GE129.out | refine below_set ?_ GE142.out) | exact HB.out)⟩
              · rw [if_neg c40] at H
                have c40b0 : ((x8_2.length : Int) == (l0_2.length : Int)) = false := beq_eq_false_iff_ne.mpr c40
                have c40b1 : ((x8_2.length : Int) != (l0_2.length : Int)) = true := bne_iff_ne.mpr c40
                have c40b2 : (x8_2.length == l0_2.length) = false := by first | simpa using c40 | (simp at c40 ⊢; omega)
                by_cases c55 : t130 = true
                · subst c55
                  have H1 : (if t141 = 0 then ((share_Valid.f t133 t134 t135 t138).bind fun t149 => (if t149 = true then ((chargeparkref20_Same.f k2 t133 t134 t135 t138 a0_0 a0_1 x8_2 l0_3).bind fun t150 => (some t150)) else (some false))) else (some false)) = some r := by rw [if_pos rfl] at H; exact H
                  clear H
                  have H := H1
                  clear H1
                  by_cases c56 : t141 = 0
                  · rw [if_pos c56] at H
                    have c56b0 : (t141 == 0) = true := beq_iff_eq.mpr c56
                    have c56b1 : (t141 != 0) = false := bne_eq_false_iff_eq.mpr c56
                    clear c56
                    replace H := Option.bind_eq_some_iff.mp H
                    obtain ⟨t149, A570, H⟩ := H
                    replace H : (if t149 = true then ((chargeparkref20_Same.f k2 t133 t134 t135 t138 a0_0 a0_1 x8_2 l0_3).bind fun t150 => (some t150)) else (some false)) = some r := H
                    have A57 := Aside0.mk A570
                    clear A570
                    by_cases c58 : t149 = true
                    · subst c58
                      have H1 : ((chargeparkref20_Same.f k2 t133 t134 t135 t138 a0_0 a0_1 x8_2 l0_3).bind fun t150 => (some t150)) = some r := by rw [if_pos rfl] at H; exact H
                      clear H
                      have H := H1
                      clear H1
                      replace H := Option.bind_eq_some_iff.mp H
                      obtain ⟨t150, A590, H⟩ := H
                      replace H : (some t150) = some r := H
                      have A59 := Aside0.mk A590
                      clear A590
                      obtain rfl := Option.some.inj H
                      obtain ⟨Ao60, co60, eo60⟩ := Kd.R_slice HO_8.out
                      subst eo60
                      have hnb61 := NB129_142.out
                      have hnc61 := NB142_129.out
                      have hcz62_0 : wr.cell? ⟨gb129, 0, none⟩ = some (.int .i64 a0_0) := (blk_cell BK129.out 0).trans rfl
                      have hcz62_1 : wr.cell? ⟨gb129, 1, none⟩ = some (.int .i64 a0_1) := (blk_cell BK129.out 1).trans rfl
                      have hcz62_2 : wr.cell? ⟨gb129, 2, none⟩ = some (.slice A0_2 l0_2.length c0_2) := (blk_cell BK129.out 2).trans rfl
                      have hcz62_3 : wr.cell? ⟨gb129, 3, none⟩ = some (.slice A0_3 l0_3.length c0_3) := (blk_cell BK129.out 3).trans rfl
                      have hfz62_0 := blk_frozen BK129.out 0
                      have hfz62_1 := blk_frozen BK129.out 1
                      have hfz62_2 := blk_frozen BK129.out 2
                      have hfz62_3 := blk_frozen BK129.out 3
                      have hcz63_0 : wr.cell? ⟨gb142, 0, none⟩ = some (.int .i64 t133) := (blk_cell BK142.out 0).trans rfl
                      have hcz63_1 : wr.cell? ⟨gb142, 1, none⟩ = some (.int .i64 t134) := (blk_cell BK142.out 1).trans rfl
                      have hcz63_2 : wr.cell? ⟨gb142, 2, none⟩ = some (.slice Ao23 t135.length co23) := (blk_cell BK142.out 2).trans rfl
                      have hcz63_3 : wr.cell? ⟨gb142, 3, none⟩ = some (.slice Ao24 t138.length co24) := (blk_cell BK142.out 3).trans rfl
                      have hfz63_0 := blk_frozen BK142.out 0
                      have hfz63_1 := blk_frozen BK142.out 1
                      have hfz63_2 := blk_frozen BK142.out 2
                      have hfz63_3 := blk_frozen BK142.out 3
                      go_wp2_with (first | (go_at_call 18; (with_reducible refine (share_Valid.calls t133 t134 _ _ t135 _ _ t138 true _ ?side1 ?side2 ?side3 ?side4 A57.out).mono ?_); (case side1 => repeat (first | exact (Kd.R_reads' HO_143002.out).2.2 | (with_reducible refine Kd.C_alloc ?_ _) | (with_reducible refine Kd.C_drewN ?_ _) | (with_reducible refine Kd.C_drew ?_))); (case side2 => exact (Kd.R_reads' HO_143002.out).2.1); (case side3 => repeat (first | exact (Kd.R_reads' HO_143003.out).2.2 | (with_reducible refine Kd.C_alloc ?_ _) | (with_reducible refine Kd.C_drewN ?_ _) | (with_reducible refine Kd.C_drew ?_))); (case side4 => exact (Kd.R_reads' HO_143003.out).2.1); rintro e w64 ⟨rfl, hb⟩; have n0_ := Aside0.mk (Kd.R_below (by (with_reducible repeat (first | apply Kd.R_alloc | apply Kd.R_drewN | apply Kd.R_drew)); exact HO_8.out) hb); have n1_ := Aside0.mk (Kd.R_below (by (with_reducible repeat (first | apply Kd.R_alloc | apply Kd.R_drewN | apply Kd.R_drew)); exact HO_143002.out) hb); have n2_ := Aside0.mk (Kd.R_below (by (with_reducible repeat (first | apply Kd.R_alloc | apply Kd.R_drewN | apply Kd.R_drew)); exact HO_143003.out) hb); have n3_ := Aside0.mk (blk_below (g := gb129) (o := .cells #[.int .i64 a0_0, .int .i64 a0_1, .slice A0_2 l0_2.length c0_2, .slice A0_3 l0_3.length c0_3] 25 (0, 0)) (by (with_reducible repeat (first | refine blk_drewN ?_ _ | refine blk_drew ?_ | refine blk_alloc ?_ _)); exact BK129.out) hb); have n4_ := Aside0.mk (blk_below (g := gb142) (o := .cells #[.int .i64 t133, .int .i64 t134, .slice Ao23 t135.length co23, .slice Ao24 t138.length co24] 25 (0, 0)) (by (with_reducible repeat (first | refine blk_drewN ?_ _ | refine blk_drew ?_ | refine blk_alloc ?_ _)); exact BK142.out) hb); have n5_ := Aside0.mk (below_step (by repeat (first | (with_reducible first | exact HB.out | apply below_alloc | apply pw_below_drewN | apply below_drew1 | refine below_set ?_ GE129.out | refine below_set ?_ GE142.out) | exact HB.out)) hb); clear HO_8; clear HO_143002; clear HO_143003; clear BK129; clear BK142; clear HB; have HO_8 := n0_; have HO_143002 := n1_; have HO_143003 := n2_; have BK129 := n3_; have BK142 := n4_; have HB := n5_; clear n0_ n1_ n2_ n3_ n4_ n5_; (try clear hb); (try clear hb2); (try clear hk); (try clear hi); have hcz65_0 : w64.cell? ⟨gb142, 0, none⟩ = some (.int .i64 t133) := (blk_cell BK142.out 0).trans rfl; have hcz65_1 : w64.cell? ⟨gb142, 1, none⟩ = some (.int .i64 t134) := (blk_cell BK142.out 1).trans rfl; have hcz65_2 : w64.cell? ⟨gb142, 2, none⟩ = some (.slice Ao23 t135.length co23) := (blk_cell BK142.out 2).trans rfl; have hcz65_3 : w64.cell? ⟨gb142, 3, none⟩ = some (.slice Ao24 t138.length co24) := (blk_cell BK142.out 3).trans rfl; have hfz65_0 := blk_frozen BK142.out 0; have hfz65_1 := blk_frozen BK142.out 1; have hfz65_2 := blk_frozen BK142.out 2; have hfz65_3 := blk_frozen BK142.out 3; have hcz66_0 : w64.cell? ⟨gb129, 0, none⟩ = some (.int .i64 a0_0) := (blk_cell BK129.out 0).trans rfl; have hcz66_1 : w64.cell? ⟨gb129, 1, none⟩ = some (.int .i64 a0_1) := (blk_cell BK129.out 1).trans rfl; have hcz66_2 : w64.cell? ⟨gb129, 2, none⟩ = some (.slice A0_2 l0_2.length c0_2) := (blk_cell BK129.out 2).trans rfl; have hcz66_3 : w64.cell? ⟨gb129, 3, none⟩ = some (.slice A0_3 l0_3.length c0_3) := (blk_cell BK129.out 3).trans rfl; have hfz66_0 := blk_frozen BK129.out 0; have hfz66_1 := blk_frozen BK129.out 1; have hfz66_2 := blk_frozen BK129.out 2; have hfz66_3 := blk_frozen BK129.out 3) | (go_at_call 17; (with_reducible refine (chargeparkref20_Same.calls k2 t133 t134 _ _ t135 _ _ t138 a0_0 a0_1 _ _ x8_2 _ _ l0_3 t150 _ ?side1 ?side2 ?side3 ?side4 ?side5 ?side6 ?side7 ?side8 A59.out).mono ?_); (case side1 => repeat (first | exact (Kd.R_reads' HO_143002.out).2.2 | (with_reducible refine Kd.C_alloc ?_ _) | (with_reducible refine Kd.C_drewN ?_ _) | (with_reducible refine Kd.C_drew ?_))); (case side2 => exact (Kd.R_reads' HO_143002.out).2.1); (case side3 => repeat (first | exact (Kd.R_reads' HO_143003.out).2.2 | (with_reducible refine Kd.C_alloc ?_ _) | (with_reducible refine Kd.C_drewN ?_ _) | (with_reducible refine Kd.C_drew ?_))); (case side4 => exact (Kd.R_reads' HO_143003.out).2.1); (case side5 => repeat (first | exact (Kd.R_reads' HO_8.out).2.2 | (with_reducible refine Kd.C_alloc ?_ _) | (with_reducible refine Kd.C_drewN ?_ _) | (with_reducible refine Kd.C_drew ?_))); (case side6 => exact (Kd.R_reads' HO_8.out).2.1); (case side7 => repeat (first | exact (Kd.C_below HR0_3.out HB.out) | (with_reducible refine Kd.C_alloc ?_ _) | (with_reducible refine Kd.C_drewN ?_ _) | (with_reducible refine Kd.C_drew ?_))); (case side8 => exact HC0_3.out); rintro e w67 ⟨rfl, hb⟩; have n0_ := Aside0.mk (Kd.R_below (by (with_reducible repeat (first | apply Kd.R_alloc | apply Kd.R_drewN | apply Kd.R_drew)); exact HO_8.out) hb); have n1_ := Aside0.mk (Kd.R_below (by (with_reducible repeat (first | apply Kd.R_alloc | apply Kd.R_drewN | apply Kd.R_drew)); exact HO_143002.out) hb); have n2_ := Aside0.mk (Kd.R_below (by (with_reducible repeat (first | apply Kd.R_alloc | apply Kd.R_drewN | apply Kd.R_drew)); exact HO_143003.out) hb); have n3_ := Aside0.mk (blk_below (g := gb129) (o := .cells #[.int .i64 a0_0, .int .i64 a0_1, .slice A0_2 l0_2.length c0_2, .slice A0_3 l0_3.length c0_3] 25 (0, 0)) (by (with_reducible repeat (first | refine blk_drewN ?_ _ | refine blk_drew ?_ | refine blk_alloc ?_ _)); exact BK129.out) hb); have n4_ := Aside0.mk (blk_below (g := gb142) (o := .cells #[.int .i64 t133, .int .i64 t134, .slice Ao23 t135.length co23, .slice Ao24 t138.length co24] 25 (0, 0)) (by (with_reducible repeat (first | refine blk_drewN ?_ _ | refine blk_drew ?_ | refine blk_alloc ?_ _)); exact BK142.out) hb); have n5_ := Aside0.mk (below_step (by repeat (first | (with_reducible first | exact HB.out | apply below_alloc | apply pw_below_drewN | apply below_drew1 | refine below_set ?_ GE129.out | refine below_set ?_ GE142.out) | exact HB.out)) hb); clear HO_8; clear HO_143002; clear HO_143003; clear BK129; clear BK142; clear HB; have HO_8 := n0_; have HO_143002 := n1_; have HO_143003 := n2_; have BK129 := n3_; have BK142 := n4_; have HB := n5_; clear n0_ n1_ n2_ n3_ n4_ n5_; (try clear hb); (try clear hb2); (try clear hk); (try clear hi)))
                      go_ret
                      exact ⟨by first | rfl | (simp [errW_none, errW_some] <;> rfl) | (simp [*, errW_none, errW_some] <;> rfl), by repeat (first | (with_reducible first | exact HB.out | apply below_alloc | apply pw_below_drewN | apply below_drew1 | refine below_set ?_ GE129.out | refine below_set ?_ GE142.out) | exact HB.out)⟩
                    · replace c58 := Bool.eq_false_iff.mpr c58
                      subst c58
                      have H1 : (some false) = some r := by rw [if_neg (show ¬ (false = true) by decide)] at H; exact H
                      clear H
                      have H := H1
                      clear H1
                      obtain rfl := Option.some.inj H
                      obtain ⟨Ao68, co68, eo68⟩ := Kd.R_slice HO_8.out
                      subst eo68
                      have hnb69 := NB129_142.out
                      have hnc69 := NB142_129.out
                      have hcz70_0 : wr.cell? ⟨gb129, 0, none⟩ = some (.int .i64 a0_0) := (blk_cell BK129.out 0).trans rfl
                      have hcz70_1 : wr.cell? ⟨gb129, 1, none⟩ = some (.int .i64 a0_1) := (blk_cell BK129.out 1).trans rfl
                      have hcz70_2 : wr.cell? ⟨gb129, 2, none⟩ = some (.slice A0_2 l0_2.length c0_2) := (blk_cell BK129.out 2).trans rfl
                      have hcz70_3 : wr.cell? ⟨gb129, 3, none⟩ = some (.slice A0_3 l0_3.length c0_3) := (blk_cell BK129.out 3).trans rfl
                      have hfz70_0 := blk_frozen BK129.out 0
                      have hfz70_1 := blk_frozen BK129.out 1
                      have hfz70_2 := blk_frozen BK129.out 2
                      have hfz70_3 := blk_frozen BK129.out 3
                      have hcz71_0 : wr.cell? ⟨gb142, 0, none⟩ = some (.int .i64 t133) := (blk_cell BK142.out 0).trans rfl
                      have hcz71_1 : wr.cell? ⟨gb142, 1, none⟩ = some (.int .i64 t134) := (blk_cell BK142.out 1).trans rfl
                      have hcz71_2 : wr.cell? ⟨gb142, 2, none⟩ = some (.slice Ao23 t135.length co23) := (blk_cell BK142.out 2).trans rfl
                      have hcz71_3 : wr.cell? ⟨gb142, 3, none⟩ = some (.slice Ao24 t138.length co24) := (blk_cell BK142.out 3).trans rfl
                      have hfz71_0 := blk_frozen BK142.out 0
                      have hfz71_1 := blk_frozen BK142.out 1
                      have hfz71_2 := blk_frozen BK142.out 2
                      have hfz71_3 := blk_frozen BK142.out 3
                      go_wp2_with (first | (go_at_call 18; (with_reducible refine (share_Valid.calls t133 t134 _ _ t135 _ _ t138 false _ ?side1 ?side2 ?side3 ?side4 A57.out).mono ?_); (case side1 => repeat (first | exact (Kd.R_reads' HO_143002.out).2.2 | (with_reducible refine Kd.C_alloc ?_ _) | (with_reducible refine Kd.C_drewN ?_ _) | (with_reducible refine Kd.C_drew ?_))); (case side2 => exact (Kd.R_reads' HO_143002.out).2.1); (case side3 => repeat (first | exact (Kd.R_reads' HO_143003.out).2.2 | (with_reducible refine Kd.C_alloc ?_ _) | (with_reducible refine Kd.C_drewN ?_ _) | (with_reducible refine Kd.C_drew ?_))); (case side4 => exact (Kd.R_reads' HO_143003.out).2.1); rintro e w72 ⟨rfl, hb⟩; have n0_ := Aside0.mk (Kd.R_below (by (with_reducible repeat (first | apply Kd.R_alloc | apply Kd.R_drewN | apply Kd.R_drew)); exact HO_8.out) hb); have n1_ := Aside0.mk (Kd.R_below (by (with_reducible repeat (first | apply Kd.R_alloc | apply Kd.R_drewN | apply Kd.R_drew)); exact HO_143002.out) hb); have n2_ := Aside0.mk (Kd.R_below (by (with_reducible repeat (first | apply Kd.R_alloc | apply Kd.R_drewN | apply Kd.R_drew)); exact HO_143003.out) hb); have n3_ := Aside0.mk (blk_below (g := gb129) (o := .cells #[.int .i64 a0_0, .int .i64 a0_1, .slice A0_2 l0_2.length c0_2, .slice A0_3 l0_3.length c0_3] 25 (0, 0)) (by (with_reducible repeat (first | refine blk_drewN ?_ _ | refine blk_drew ?_ | refine blk_alloc ?_ _)); exact BK129.out) hb); have n4_ := Aside0.mk (blk_below (g := gb142) (o := .cells #[.int .i64 t133, .int .i64 t134, .slice Ao23 t135.length co23, .slice Ao24 t138.length co24] 25 (0, 0)) (by (with_reducible repeat (first | refine blk_drewN ?_ _ | refine blk_drew ?_ | refine blk_alloc ?_ _)); exact BK142.out) hb); have n5_ := Aside0.mk (below_step (by repeat (first | (with_reducible first | exact HB.out | apply below_alloc | apply pw_below_drewN | apply below_drew1 | refine below_set ?_ GE129.out | refine below_set ?_ GE142.out) | exact HB.out)) hb); clear HO_8; clear HO_143002; clear HO_143003; clear BK129; clear BK142; clear HB; have HO_8 := n0_; have HO_143002 := n1_; have HO_143003 := n2_; have BK129 := n3_; have BK142 := n4_; have HB := n5_; clear n0_ n1_ n2_ n3_ n4_ n5_; (try clear hb); (try clear hb2); (try clear hk); (try clear hi)))
                      go_ret
                      exact ⟨by first | rfl | (simp [errW_none, errW_some] <;> rfl) | (simp [*, errW_none, errW_some] <;> rfl), by repeat (first | (with_reducible first | exact HB.out | apply below_alloc | apply pw_below_drewN | apply below_drew1 | refine below_set ?_ GE129.out | refine below_set ?_ GE142.out) | exact HB.out)⟩
                  · rw [if_neg c56] at H
                    have c56b0 : (t141 == 0) = false := beq_eq_false_iff_ne.mpr c56
                    have c56b1 : (t141 != 0) = true := bne_iff_ne.mpr c56
                    obtain rfl := Option.some.inj H
                    obtain ⟨Ao73, co73, eo73⟩ := Kd.R_slice HO_8.out
                    subst eo73
                    have hnb74 := NB129_142.out
                    have hnc74 := NB142_129.out
                    have hcz75_0 : wr.cell? ⟨gb129, 0, none⟩ = some (.int .i64 a0_0) := (blk_cell BK129.out 0).trans rfl
                    have hcz75_1 : wr.cell? ⟨gb129, 1, none⟩ = some (.int .i64 a0_1) := (blk_cell BK129.out 1).trans rfl
                    have hcz75_2 : wr.cell? ⟨gb129, 2, none⟩ = some (.slice A0_2 l0_2.length c0_2) := (blk_cell BK129.out 2).trans rfl
                    have hcz75_3 : wr.cell? ⟨gb129, 3, none⟩ = some (.slice A0_3 l0_3.length c0_3) := (blk_cell BK129.out 3).trans rfl
                    have hfz75_0 := blk_frozen BK129.out 0
                    have hfz75_1 := blk_frozen BK129.out 1
                    have hfz75_2 := blk_frozen BK129.out 2
                    have hfz75_3 := blk_frozen BK129.out 3
                    go_wp2
                    go_ret
                    exact ⟨by first | rfl | (simp [errW_none, errW_some] <;> rfl) | (simp [*, errW_none, errW_some] <;> rfl), by repeat (first | (with_reducible first | exact HB.out | apply below_alloc | apply pw_below_drewN | apply below_drew1 | refine below_set ?_ GE129.out | refine below_set ?_ GE142.out) | exact HB.out)⟩
                · replace c55 := Bool.eq_false_iff.mpr c55
                  subst c55
                  have H1 : (some false) = some r := by rw [if_neg (show ¬ (false = true) by decide)] at H; exact H
                  clear H
                  have H := H1
                  clear H1
                  obtain rfl := Option.some.inj H
                  obtain ⟨Ao76, co76, eo76⟩ := Kd.R_slice HO_8.out
                  subst eo76
                  have hnb77 := NB129_142.out
                  have hnc77 := NB142_129.out
                  have hcz78_0 : wr.cell? ⟨gb129, 0, none⟩ = some (.int .i64 a0_0) := (blk_cell BK129.out 0).trans rfl
                  have hcz78_1 : wr.cell? ⟨gb129, 1, none⟩ = some (.int .i64 a0_1) := (blk_cell BK129.out 1).trans rfl
                  have hcz78_2 : wr.cell? ⟨gb129, 2, none⟩ = some (.slice A0_2 l0_2.length c0_2) := (blk_cell BK129.out 2).trans rfl
                  have hcz78_3 : wr.cell? ⟨gb129, 3, none⟩ = some (.slice A0_3 l0_3.length c0_3) := (blk_cell BK129.out 3).trans rfl
                  have hfz78_0 := blk_frozen BK129.out 0
                  have hfz78_1 := blk_frozen BK129.out 1
                  have hfz78_2 := blk_frozen BK129.out 2
                  have hfz78_3 := blk_frozen BK129.out 3
                  go_wp2
                  go_ret
                  exact ⟨by first | rfl | (simp [errW_none, errW_some] <;> rfl) | (simp [*, errW_none, errW_some] <;> rfl), by repeat (first | (with_reducible first | exact HB.out | apply below_alloc | apply pw_below_drewN | apply below_drew1 | refine below_set ?_ GE129.out | refine below_set ?_ GE142.out) | exact HB.out)⟩

end Go.Proofs.Ythoimnockinfbaa.Pr
