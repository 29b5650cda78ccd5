-- Written by a program of this session over the kit's print.
import Derived.Test.YtfjbbmgnfpeogaaPr0
import Derived.Test.YtfjbbmgnfpeogaaPr1
import Derived.Test.YtfjbbmgnfpeogaaPr2
import Derived.Test.YtfjbbmgnfpeogaaPr3
import Derived.Test.YtfjbbmgnfpeogaaMost
namespace Go.Proofs.Ytfjbbmgnfpeogaa.Pr
open Go.RowKit Go.Proofs.YtfjbbmgnfpeogaaW.PrintWords Go.Proofs.YtfjbbmgnfpeogaaW.PrintLast Go.Proofs.YtfjbbmgnfpeogaaW.PrintMore
attribute [local go_sem] max2_int min2_int max_two min_two max_three min_three max_four min_four   -- for this text's walks alone
set_option linter.unusedVariables false
set_option linter.unusedSimpArgs false

/-! ### chargeparklaw21_head: function 10 -/
mutual
def chargeparklaw21_head.j0 : Nat → List Int → List Bool → Bool → Int → List (S39) → Option (Bool)
  | 0, _, _, _, _, _ => none
  | k + 1, x3, x4, x18, x140000, x140001 => if (x3.length : Int) = 2 then (chargeparklaw21_head.j1 k x3 x4 x18 ((x4.length : Int) != 3) x140000 x140001) else (chargeparklaw21_head.j1 k x3 x4 x18 true x140000 x140001)
def chargeparklaw21_head.j1 : Nat → List Int → List Bool → Bool → Bool → Int → List (S39) → Option (Bool)
  | 0, _, _, _, _, _, _ => none
  | k + 1, x3, x4, x18, x84, x140000, x140001 => if x84 = true then (some false) else (if x18 = true then (if 0 < (x3.length : Int) then (if (rd x3 0) = 3 then (if 1 < (x3.length : Int) then (if (rd x3 1) = 3 then (if 0 < (x4.length : Int) then (if rdOf false x4 0 = true then (if 1 < (x4.length : Int) then (if rdOf false x4 1 = true then (if 2 < (x4.length : Int) then (chargeparklaw21_head.j2 k (!(rdOf false x4 2)) x140000 x140001) else (none)) else (chargeparklaw21_head.j2 k false x140000 x140001)) else (none)) else (chargeparklaw21_head.j2 k false x140000 x140001)) else (none)) else (chargeparklaw21_head.j2 k false x140000 x140001)) else (none)) else (chargeparklaw21_head.j2 k false x140000 x140001)) else (none)) else (chargeparklaw21_head.j2 k false x140000 x140001))
def chargeparklaw21_head.j2 : Nat → Bool → Int → List (S39) → Option (Bool)
  | 0, _, _, _ => none
  | k + 1, x18, x140000, x140001 => if x18 = true then ((flow_Valid.f k x140000 x140001).bind fun t181 => (if t181 = true then ((flow_Valid.f k 0 ([] : List (S39))).bind fun t182 => (if t182 = true then (some false) else ((flow_Check.f k x140000 x140001 0 2 (([3, 3] : List Int)) (([true, true, false] : List Bool))).bind fun t189 => (if t189 = true then ((flow_Check.f k x140000 x140001 0 2 (([2, 2] : List Int)) (([true, true, false] : List Bool))).bind fun t196 => (some (!t196))) else (some false))))) else (some false))) else (some false)
end
def chargeparklaw21_head.f (k : Nat)  : Option (Bool) := (some (([(⟨0, 1, 5⟩ : S39), (⟨1, 2, 3⟩ : S39)] : List (S39)) : List (S39))).bind fun y136 => ((flow_Most.f 3 y136 0 2).bind fun bt140 => ((chargeparklaw21_example.f).bind fun bt148 => ((flow_Most.f bt148.1 bt148.2 0 3).bind fun bt152 => ((flow_Most.f 2 ([] : List (S39)) 0 1).bind fun bt160 => ((flow_Most.f 3 y136 1 1).bind fun bt168 => (if bt140.2.2.2 = 0 then (if bt152.2.2.2 = 0 then (if bt160.2.2.2 = 0 then (if bt168.2.2.2 = 1 then (if bt140.1 = 3 then (if bt152.1 = 9 then (chargeparklaw21_head.j0 k bt140.2.1 bt140.2.2.1 (bt160.1 == 0) 3 y136) else (chargeparklaw21_head.j0 k bt140.2.1 bt140.2.2.1 false 3 y136)) else (chargeparklaw21_head.j0 k bt140.2.1 bt140.2.2.1 false 3 y136)) else (chargeparklaw21_head.j0 k bt140.2.1 bt140.2.2.1 false 3 y136)) else (chargeparklaw21_head.j0 k bt140.2.1 bt140.2.2.1 false 3 y136)) else (chargeparklaw21_head.j0 k bt140.2.1 bt140.2.2.1 false 3 y136)) else (chargeparklaw21_head.j0 k bt140.2.1 bt140.2.2.1 false 3 y136)))))))
theorem chargeparklaw21_head.mono_l : ∀ k, (∀ y0 y1 y2 y3 y4, LeO (chargeparklaw21_head.j0 k y0 y1 y2 y3 y4) (chargeparklaw21_head.j0 (k + 1) y0 y1 y2 y3 y4)) ∧ (∀ y0 y1 y2 y3 y4 y5, LeO (chargeparklaw21_head.j1 k y0 y1 y2 y3 y4 y5) (chargeparklaw21_head.j1 (k + 1) y0 y1 y2 y3 y4 y5)) ∧ (∀ y0 y1 y2, LeO (chargeparklaw21_head.j2 k y0 y1 y2) (chargeparklaw21_head.j2 (k + 1) y0 y1 y2))
  | 0 => ⟨fun _ _ _ _ _ r h => by simp [chargeparklaw21_head.j0] at h, fun _ _ _ _ _ _ r h => by simp [chargeparklaw21_head.j1] at h, fun _ _ _ r h => by simp [chargeparklaw21_head.j2] at h⟩
  | k + 1 => by
    obtain ⟨ih0, ih1, ih2⟩ := chargeparklaw21_head.mono_l k
    refine ⟨?_, ?_, ?_⟩
    · intro y0 y1 y2 y3 y4
      unfold chargeparklaw21_head.j0
      repeat' first
      | (with_reducible exact ih0 _ _ _ _ _)
      | (with_reducible exact ih1 _ _ _ _ _ _)
      | (with_reducible exact ih2 _ _ _)
      | (with_reducible exact flow_Check.mono _ _ _ _ _ _ _)
      | (with_reducible exact flow_Valid.mono _ _ _)
      | (with_reducible exact LeO.refl _)
      | (with_reducible exact LeO.none _)
      | (with_reducible refine LeO.ite ?_ ?_)
      | (with_reducible refine LeO.bind ?_ (fun _ => ?_))
      | exact ih0 _ _ _ _ _
      | exact ih1 _ _ _ _ _ _
      | exact ih2 _ _ _
      | exact flow_Check.mono _ _ _ _ _ _ _
      | exact flow_Valid.mono _ _ _
      | exact LeO.none _
      | refine LeO.ite ?_ ?_
      | refine LeO.bind ?_ (fun _ => ?_)
    · intro y0 y1 y2 y3 y4 y5
      unfold chargeparklaw21_head.j1
      repeat' first
      | (with_reducible exact ih0 _ _ _ _ _)
      | (with_reducible exact ih1 _ _ _ _ _ _)
      | (with_reducible exact ih2 _ _ _)
      | (with_reducible exact flow_Check.mono _ _ _ _ _ _ _)
      | (with_reducible exact flow_Valid.mono _ _ _)
      | (with_reducible exact LeO.refl _)
      | (with_reducible exact LeO.none _)
      | (with_reducible refine LeO.ite ?_ ?_)
      | (with_reducible refine LeO.bind ?_ (fun _ => ?_))
      | exact ih0 _ _ _ _ _
      | exact ih1 _ _ _ _ _ _
      | exact ih2 _ _ _
      | exact flow_Check.mono _ _ _ _ _ _ _
      | exact flow_Valid.mono _ _ _
      | exact LeO.none _
      | refine LeO.ite ?_ ?_
      | refine LeO.bind ?_ (fun _ => ?_)
    · intro y0 y1 y2
      unfold chargeparklaw21_head.j2
      repeat' first
      | (with_reducible exact ih0 _ _ _ _ _)
      | (with_reducible exact ih1 _ _ _ _ _ _)
      | (with_reducible exact ih2 _ _ _)
      | (with_reducible exact flow_Check.mono _ _ _ _ _ _ _)
      | (with_reducible exact flow_Valid.mono _ _ _)
      | (with_reducible exact LeO.refl _)
      | (with_reducible exact LeO.none _)
      | (with_reducible refine LeO.ite ?_ ?_)
      | (with_reducible refine LeO.bind ?_ (fun _ => ?_))
      | exact ih0 _ _ _ _ _
      | exact ih1 _ _ _ _ _ _
      | exact ih2 _ _ _
      | exact flow_Check.mono _ _ _ _ _ _ _
      | exact flow_Valid.mono _ _ _
      | exact LeO.none _
      | refine LeO.ite ?_ ?_
      | refine LeO.bind ?_ (fun _ => ?_)
theorem chargeparklaw21_head.mono : ∀ k, LeO (chargeparklaw21_head.f k ) (chargeparklaw21_head.f (k + 1) ) := by
  intro  k
  obtain ⟨ih0, ih1, ih2⟩ := chargeparklaw21_head.mono_l k
  unfold chargeparklaw21_head.f
  repeat' first
      | (with_reducible exact ih0 _ _ _ _ _)
      | (with_reducible exact ih1 _ _ _ _ _ _)
      | (with_reducible exact ih2 _ _ _)
      | (with_reducible exact flow_Check.mono _ _ _ _ _ _ _)
      | (with_reducible exact flow_Valid.mono _ _ _)
      | (with_reducible exact LeO.refl _)
      | (with_reducible exact LeO.none _)
      | (with_reducible refine LeO.ite ?_ ?_)
      | (with_reducible refine LeO.bind ?_ (fun _ => ?_))
      | exact ih0 _ _ _ _ _
      | exact ih1 _ _ _ _ _ _
      | exact ih2 _ _ _
      | exact flow_Check.mono _ _ _ _ _ _ _
      | exact flow_Valid.mono _ _ _
      | exact LeO.none _
      | refine LeO.ite ?_ ?_
      | refine LeO.bind ?_ (fun _ => ?_)
set_option maxHeartbeats 8000000 in
set_option maxRecDepth 100000 in
theorem chargeparklaw21_head.calls (k : Nat)  (r : Bool) (w : World) (h : chargeparklaw21_head.f k  = some r) :
    Calls Try.prog 10 #[] w fun e w' => e = .returned (.bool r) ∧ Below w.heap.size w w' := by
  have hu39 := Try.underlying39
  have hu24 := Try.underlying24
  have HB := Aside0.mk (Below.refl w.heap.size w)
  have H : ((some (([(⟨0, 1, 5⟩ : S39), (⟨1, 2, 3⟩ : S39)] : List (S39)) : List (S39))).bind fun y136 => ((flow_Most.f 3 y136 0 2).bind fun bt140 => ((chargeparklaw21_example.f).bind fun bt148 => ((flow_Most.f bt148.1 bt148.2 0 3).bind fun bt152 => ((flow_Most.f 2 ([] : List (S39)) 0 1).bind fun bt160 => ((flow_Most.f 3 y136 1 1).bind fun bt168 => (if bt140.2.2.2 = 0 then (if bt152.2.2.2 = 0 then (if bt160.2.2.2 = 0 then (if bt168.2.2.2 = 1 then (if bt140.1 = 3 then (if bt152.1 = 9 then (chargeparklaw21_head.j0 k bt140.2.1 bt140.2.2.1 (bt160.1 == 0) 3 y136) else (chargeparklaw21_head.j0 k bt140.2.1 bt140.2.2.1 false 3 y136)) else (chargeparklaw21_head.j0 k bt140.2.1 bt140.2.2.1 false 3 y136)) else (chargeparklaw21_head.j0 k bt140.2.1 bt140.2.2.1 false 3 y136)) else (chargeparklaw21_head.j0 k bt140.2.1 bt140.2.2.1 false 3 y136)) else (chargeparklaw21_head.j0 k bt140.2.1 bt140.2.2.1 false 3 y136)) else (chargeparklaw21_head.j0 k bt140.2.1 bt140.2.2.1 false 3 y136)))))))) = some r := h
  clear h
  obtain ⟨y136, hy136⟩ : ∃ y_ : List (S39), y_ = (([(⟨0, 1, 5⟩ : S39), (⟨1, 2, 3⟩ : S39)] : List (S39))) := ⟨_, rfl⟩
  replace H : ((flow_Most.f 3 y136 0 2).bind fun bt140 => ((chargeparklaw21_example.f).bind fun bt148 => ((flow_Most.f bt148.1 bt148.2 0 3).bind fun bt152 => ((flow_Most.f 2 ([] : List (S39)) 0 1).bind fun bt160 => ((flow_Most.f 3 y136 1 1).bind fun bt168 => (if bt140.2.2.2 = 0 then (if bt152.2.2.2 = 0 then (if bt160.2.2.2 = 0 then (if bt168.2.2.2 = 1 then (if bt140.1 = 3 then (if bt152.1 = 9 then (chargeparklaw21_head.j0 k bt140.2.1 bt140.2.2.1 (bt160.1 == 0) 3 y136) else (chargeparklaw21_head.j0 k bt140.2.1 bt140.2.2.1 false 3 y136)) else (chargeparklaw21_head.j0 k bt140.2.1 bt140.2.2.1 false 3 y136)) else (chargeparklaw21_head.j0 k bt140.2.1 bt140.2.2.1 false 3 y136)) else (chargeparklaw21_head.j0 k bt140.2.1 bt140.2.2.1 false 3 y136)) else (chargeparklaw21_head.j0 k bt140.2.1 bt140.2.2.1 false 3 y136)) else (chargeparklaw21_head.j0 k bt140.2.1 bt140.2.2.1 false 3 y136))))))) = some r := by first | (rw [hy136]; with_reducible exact H) | (have H2_ := (Option.bind_some _ _).symm.trans H; rw [hy136]; with_reducible exact H2_) | (have H2_ := (Option.bind_some _ _).symm.trans H; with_reducible exact H2_) | with_reducible exact H | (rw [hy136]; exact H) | exact H
  have Ny136 := Aside0.mk hy136
  clear hy136
  replace H := Option.bind_eq_some_iff.mp H
  obtain ⟨⟨t140, t141, t144, t147⟩, A10, H⟩ := H
  replace H : ((chargeparklaw21_example.f).bind fun bt148 => ((flow_Most.f bt148.1 bt148.2 0 3).bind fun bt152 => ((flow_Most.f 2 ([] : List (S39)) 0 1).bind fun bt160 => ((flow_Most.f 3 y136 1 1).bind fun bt168 => (if t147 = 0 then (if bt152.2.2.2 = 0 then (if bt160.2.2.2 = 0 then (if bt168.2.2.2 = 1 then (if t140 = 3 then (if bt152.1 = 9 then (chargeparklaw21_head.j0 k t141 t144 (bt160.1 == 0) 3 y136) else (chargeparklaw21_head.j0 k t141 t144 false 3 y136)) else (chargeparklaw21_head.j0 k t141 t144 false 3 y136)) else (chargeparklaw21_head.j0 k t141 t144 false 3 y136)) else (chargeparklaw21_head.j0 k t141 t144 false 3 y136)) else (chargeparklaw21_head.j0 k t141 t144 false 3 y136)) else (chargeparklaw21_head.j0 k t141 t144 false 3 y136)))))) = some r := H
  have A1 := Aside0.mk A10
  clear A10
  replace H := Option.bind_eq_some_iff.mp H
  obtain ⟨⟨t148, t149⟩, A20, H⟩ := H
  replace H : ((flow_Most.f t148 t149 0 3).bind fun bt152 => ((flow_Most.f 2 ([] : List (S39)) 0 1).bind fun bt160 => ((flow_Most.f 3 y136 1 1).bind fun bt168 => (if t147 = 0 then (if bt152.2.2.2 = 0 then (if bt160.2.2.2 = 0 then (if bt168.2.2.2 = 1 then (if t140 = 3 then (if bt152.1 = 9 then (chargeparklaw21_head.j0 k t141 t144 (bt160.1 == 0) 3 y136) else (chargeparklaw21_head.j0 k t141 t144 false 3 y136)) else (chargeparklaw21_head.j0 k t141 t144 false 3 y136)) else (chargeparklaw21_head.j0 k t141 t144 false 3 y136)) else (chargeparklaw21_head.j0 k t141 t144 false 3 y136)) else (chargeparklaw21_head.j0 k t141 t144 false 3 y136)) else (chargeparklaw21_head.j0 k t141 t144 false 3 y136))))) = some r := H
  have A2 := Aside0.mk A20
  clear A20
  replace H := Option.bind_eq_some_iff.mp H
  obtain ⟨⟨t152, t153, t156, t159⟩, A30, H⟩ := H
  replace H : ((flow_Most.f 2 ([] : List (S39)) 0 1).bind fun bt160 => ((flow_Most.f 3 y136 1 1).bind fun bt168 => (if t147 = 0 then (if t159 = 0 then (if bt160.2.2.2 = 0 then (if bt168.2.2.2 = 1 then (if t140 = 3 then (if t152 = 9 then (chargeparklaw21_head.j0 k t141 t144 (bt160.1 == 0) 3 y136) else (chargeparklaw21_head.j0 k t141 t144 false 3 y136)) else (chargeparklaw21_head.j0 k t141 t144 false 3 y136)) else (chargeparklaw21_head.j0 k t141 t144 false 3 y136)) else (chargeparklaw21_head.j0 k t141 t144 false 3 y136)) else (chargeparklaw21_head.j0 k t141 t144 false 3 y136)) else (chargeparklaw21_head.j0 k t141 t144 false 3 y136)))) = some r := H
  have A3 := Aside0.mk A30
  clear A30
  replace H := Option.bind_eq_some_iff.mp H
  obtain ⟨⟨t160, t161, t164, t167⟩, A40, H⟩ := H
  replace H : ((flow_Most.f 3 y136 1 1).bind fun bt168 => (if t147 = 0 then (if t159 = 0 then (if t167 = 0 then (if bt168.2.2.2 = 1 then (if t140 = 3 then (if t152 = 9 then (chargeparklaw21_head.j0 k t141 t144 (t160 == 0) 3 y136) else (chargeparklaw21_head.j0 k t141 t144 false 3 y136)) else (chargeparklaw21_head.j0 k t141 t144 false 3 y136)) else (chargeparklaw21_head.j0 k t141 t144 false 3 y136)) else (chargeparklaw21_head.j0 k t141 t144 false 3 y136)) else (chargeparklaw21_head.j0 k t141 t144 false 3 y136)) else (chargeparklaw21_head.j0 k t141 t144 false 3 y136))) = some r := H
  have A4 := Aside0.mk A40
  clear A40
  replace H := Option.bind_eq_some_iff.mp H
  obtain ⟨⟨t168, t169, t172, t175⟩, A50, H⟩ := H
  replace H : (if t147 = 0 then (if t159 = 0 then (if t167 = 0 then (if t175 = 1 then (if t140 = 3 then (if t152 = 9 then (chargeparklaw21_head.j0 k t141 t144 (t160 == 0) 3 y136) else (chargeparklaw21_head.j0 k t141 t144 false 3 y136)) else (chargeparklaw21_head.j0 k t141 t144 false 3 y136)) else (chargeparklaw21_head.j0 k t141 t144 false 3 y136)) else (chargeparklaw21_head.j0 k t141 t144 false 3 y136)) else (chargeparklaw21_head.j0 k t141 t144 false 3 y136)) else (chargeparklaw21_head.j0 k t141 t144 false 3 y136)) = some r := H
  have A5 := Aside0.mk A50
  clear A50
  have HC6 := Aside0.mk H
  clear H
  go_enter Try.func10, Try.ntmps10
  go_upto_region 6 with (first | ((with_reducible refine gate_dst (N := 21) rfl ?_); (try (refine gate_guard (by rfl) ?_; dsimp only)); refine Kd.R_lit k39 _ 39 ?hg (N := 21) ?hd (xs := ([(⟨0, 1, 5⟩ : S39), (⟨1, 2, 3⟩ : S39)] : List (S39))) (inner := [.int .i64 0, .int .i64 1, .int .i64 5, .int .i64 1, .int .i64 2, .int .i64 3]) (ok := fun _ => True) (okp := fun _ => True) ?hr ?hp (fun _ hk => hk) trivial (Below.refl _ _) (Nat.le_refl _) (by simp) ?_; (case hd => rfl); (case hg => rfl); (case hr => first | (go_simp; done) | (go_simp; rfl)); (case hp => exact (Reps.c3 (show Kd.M k39 _ _ _ (⟨0, 1, 5⟩ : S39) [.int .i64 0, .int .i64 1, .int .i64 5] from (k39_mkM _ _ _ (⟨0, 1, 5⟩ : S39) )) (Reps.c3 (show Kd.M k39 _ _ _ (⟨1, 2, 3⟩ : S39) [.int .i64 1, .int .i64 2, .int .i64 3] from (k39_mkM _ _ _ (⟨1, 2, 3⟩ : S39) )) (Reps.none _ _)))); intro v137 w7 ho8 hb hg_ hnew_; clear hg_ hnew_; (first | rw [← Ny136.out] at ho8 | (simp only [Int.reduceToNat] at ho8; rw [← Ny136.out] at ho8)); have n0_ := Aside0.mk (Kd.R_lower ho8 (below_size (by repeat (first | (with_reducible first | exact HB.out | apply below_alloc | apply pw_below_drewN | apply below_drew1) | exact HB.out)))); have n1_ := Aside0.mk (below_step (by repeat (first | (with_reducible first | exact HB.out | apply below_alloc | apply pw_below_drewN | apply below_drew1) | exact HB.out)) hb); clear HB; have HO138 := n0_; have HB := n1_; clear n0_ n1_; clear hb ho8; obtain ⟨Ao9, co9, eo9⟩ := Kd.R_slice HO138.out; subst eo9) | ((with_reducible refine gate_dst (N := 1) rfl ?_); (try (refine gate_guard (by rfl) ?_; dsimp only)); refine box_event ?hg (N := 1) ?hd (cs := #[.int .i64 0, .slice none 0 0]) (t := 24) ?hr ?_; (case hd => rfl); (case hg => rfl); (case hr => first | (go_simp; done) | (go_simp; rfl)); intro gb139 hg w10 hbox hb; have n0_ := Aside0.mk (Kd.R_below (by (with_reducible repeat (first | apply Kd.R_alloc | apply Kd.R_drewN | apply Kd.R_drew)); exact HO138.out) hb); have n1_ := Aside0.mk (below_step (by repeat (first | (with_reducible first | exact HB.out | apply below_alloc | apply pw_below_drewN | apply below_drew1) | exact HB.out)) hb); have n2_ := Aside0.mk (hbox); have n3_ := Aside0.mk ((by rw [hg]; exact (below_size (by repeat (first | (with_reducible first | exact HB.out | apply below_alloc | apply pw_below_drewN | apply below_drew1) | exact HB.out))) : w.heap.size ≤ gb139)); have n4_ := Aside0.mk ((by rw [hg]; exact (below_size (by repeat (first | (with_reducible first | exact HB.out | apply below_alloc | apply pw_below_drewN | apply below_drew1) | exact HB.out))) : w.heap.size ≤ gb139)); clear HO138; clear HB; have HO138 := n0_; have HB := n1_; have BK139 := n2_; have GW139 := n3_; have GE139 := n4_; clear n0_ n1_ n2_ n3_ n4_; clear hb hbox hg; have hcz11_0 : w10.cell? ⟨gb139, 0, none⟩ = some (.int .i64 0) := (blk_cell BK139.out 0).trans rfl; have hcz11_1 : w10.cell? ⟨gb139, 1, none⟩ = some (.slice none 0 0) := (blk_cell BK139.out 1).trans rfl; have hfz11_0 := blk_frozen BK139.out 0; have hfz11_1 := blk_frozen BK139.out 1) | ((with_reducible refine gate_callee (f := 14) rfl ?_); refine goesL_ (some 25) rfl rfl Try.func14 (by kernel_rfl) rfl #[.agg #[.int .i64 3, .slice Ao9 y136.length co9], .int .i64 0, .int .i64 2] rfl (by (try simp only [List.map_toArray, List.map_cons, List.map_nil]); first | done | rfl | (simp only [List.length_drop, List.length_take]; rfl)) ?_; (with_reducible refine (flow_Most.calls 3 _ _ y136 0 2 t140 t141 t144 t147 _ ?side1 ?side2 A1.out).mono ?_); (case side1 => refine (Kd.R_reads' (e := 39) (base := w.heap.size) (ok := fun k_ => True) (n := y136.length) (c := co9) ?_).2.2; exact (by (with_reducible repeat (first | apply Kd.R_alloc | apply Kd.R_drewN | apply Kd.R_drew)); exact (Kd.R_mono (Kd.R_far (p := ⟨gb139, 1, none⟩) (Kd.R_far (p := ⟨gb139, 0, none⟩) (Kd.R_types HO138.out BK139.out (by decide)) (fun _ hk => hk.2) (.int .i64 3)) (fun _ hk => hk.2) (.slice Ao9 y136.length co9)) (fun _ h_ => h_.1)))); (case side2 => exact (Kd.R_reads' HO138.out).2.1); rintro e w12 ⟨v142, v145, rfl, ho0, ho1, hb⟩; refine ⟨_, rfl, ?_⟩; have n0_ := Aside0.mk (Kd.R_below (by (with_reducible repeat (first | apply Kd.R_alloc | apply Kd.R_drewN | apply Kd.R_drew)); exact (Kd.R_mono (Kd.R_far (p := ⟨gb139, 1, none⟩) (Kd.R_far (p := ⟨gb139, 0, none⟩) (Kd.R_types HO138.out BK139.out (by decide)) (fun _ hk => hk.2) (.int .i64 3)) (fun _ hk => hk.2) (.slice Ao9 y136.length co9)) (fun _ h_ => h_.1))) hb); have n1_ := Aside0.mk (Kd.R_lower ho0 (below_size (by repeat (first | (with_reducible first | exact HB.out | apply below_alloc | apply pw_below_drewN | apply below_drew1 | refine below_set ?_ GE139.out) | exact HB.out)))); have n2_ := Aside0.mk (Kd.R_lower ho1 (below_size (by repeat (first | (with_reducible first | exact HB.out | apply below_alloc | apply pw_below_drewN | apply below_drew1 | refine below_set ?_ GE139.out) | exact HB.out)))); have n3_ := Aside0.mk (blk_below (g := gb139) (o := .cells #[.int .i64 3, .slice Ao9 y136.length co9] 24 (0, 0)) (by (with_reducible repeat (first | refine blk_drewN ?_ _ | refine blk_drew ?_ | refine blk_alloc ?_ _)); refine blk_put (cs := #[.int .i64 3, .slice none 0 0]) ?_ 1 _ rfl; (with_reducible repeat (first | refine blk_drewN ?_ _ | refine blk_drew ?_ | refine blk_alloc ?_ _)); refine blk_put (cs := #[.int .i64 0, .slice none 0 0]) ?_ 0 _ rfl; (with_reducible repeat (first | refine blk_drewN ?_ _ | refine blk_drew ?_ | refine blk_alloc ?_ _)); exact BK139.out) hb); have n4_ := Aside0.mk (below_step (by repeat (first | (with_reducible first | exact HB.out | apply below_alloc | apply pw_below_drewN | apply below_drew1 | refine below_set ?_ GE139.out) | exact HB.out)) hb); clear HO138; clear BK139; clear HB; have HO138 := n0_; have HO143 := n1_; have HO146 := n2_; have BK139 := n3_; have HB := n4_; clear n0_ n1_ n2_ n3_ n4_; (try clear hb); (try clear hb2); (try clear hk); (try clear hi); (try clear ho0); (try clear ho1)) | ((with_reducible refine gate_callee (f := 23) rfl ?_); refine goesL_ (some 31) rfl rfl Try.func23 (by kernel_rfl) rfl #[] rfl (by (try simp only [List.map_toArray, List.map_cons, List.map_nil]); first | done | rfl | (simp only [List.length_drop, List.length_take]; rfl)) ?_; (with_reducible refine (chargeparklaw21_example.calls  t148 t149 _ A2.out).mono ?_); rintro e w13 ⟨v150, rfl, ho0, hb⟩; refine ⟨_, rfl, ?_⟩; have n0_ := Aside0.mk (Kd.R_elder' (by (with_reducible repeat (first | apply Kd.R_alloc | apply Kd.R_drewN | apply Kd.R_drew)); exact HO138.out) (Kd.R_base ho0) hb); have n1_ := Aside0.mk (Kd.R_below (by (with_reducible repeat (first | apply Kd.R_alloc | apply Kd.R_drewN | apply Kd.R_drew)); exact HO143.out) hb); have n2_ := Aside0.mk (Kd.R_below (by (with_reducible repeat (first | apply Kd.R_alloc | apply Kd.R_drewN | apply Kd.R_drew)); exact HO146.out) hb); have n3_ := Aside0.mk (Kd.R_lower (Kd.R_new' ho0 (Kd.R_lt (by (with_reducible repeat (first | apply Kd.R_alloc | apply Kd.R_drewN | apply Kd.R_drew)); exact HO138.out))) (below_size (by repeat (first | (with_reducible first | exact HB.out | apply below_alloc | apply pw_below_drewN | apply below_drew1 | refine below_set ?_ GE139.out) | exact HB.out)))); have n4_ := Aside0.mk (blk_below (g := gb139) (o := .cells #[.int .i64 3, .slice Ao9 y136.length co9] 24 (0, 0)) (by (with_reducible repeat (first | refine blk_drewN ?_ _ | refine blk_drew ?_ | refine blk_alloc ?_ _)); exact BK139.out) hb); have n5_ := Aside0.mk (below_step (by repeat (first | (with_reducible first | exact HB.out | apply below_alloc | apply pw_below_drewN | apply below_drew1 | refine below_set ?_ GE139.out) | exact HB.out)) hb); clear HO138; clear HO143; clear HO146; clear BK139; clear HB; have HO138 := n0_; have HO143 := n1_; have HO146 := n2_; have HO151 := n3_; have BK139 := n4_; have HB := n5_; clear n0_ n1_ n2_ n3_ n4_ n5_; (try clear hb); (try clear hb2); (try clear hk); (try clear hi); (try clear ho0); obtain ⟨Ao14, co14, eo14⟩ := Kd.R_slice HO151.out; subst eo14) | ((with_reducible refine gate_callee (f := 14) rfl ?_); refine goesL_ (some 32) rfl rfl Try.func14 (by kernel_rfl) rfl #[.agg #[.int .i64 t148, .slice Ao14 t149.length co14], .int .i64 0, .int .i64 3] rfl (by (try simp only [List.map_toArray, List.map_cons, List.map_nil]); first | done | rfl | (simp only [List.length_drop, List.length_take]; rfl)) ?_; (with_reducible refine (flow_Most.calls t148 _ _ t149 0 3 t152 t153 t156 t159 _ ?side1 ?side2 A3.out).mono ?_); (case side1 => repeat (first | exact (Kd.R_reads' HO151.out).2.2 | (with_reducible refine Kd.C_alloc ?_ _) | (with_reducible refine Kd.C_drewN ?_ _) | (with_reducible refine Kd.C_drew ?_))); (case side2 => exact (Kd.R_reads' HO151.out).2.1); rintro e w15 ⟨v154, v157, rfl, ho0, ho1, hb⟩; refine ⟨_, rfl, ?_⟩; have n0_ := Aside0.mk (Kd.R_below (by (with_reducible repeat (first | apply Kd.R_alloc | apply Kd.R_drewN | apply Kd.R_drew)); exact HO138.out) hb); have n1_ := Aside0.mk (Kd.R_elder' (by (with_reducible repeat (first | apply Kd.R_alloc | apply Kd.R_drewN | apply Kd.R_drew)); exact HO143.out) (Kd.R_base ho0) hb); have n2_ := Aside0.mk (Kd.R_elder' (by (with_reducible repeat (first | apply Kd.R_alloc | apply Kd.R_drewN | apply Kd.R_drew)); exact HO146.out) (Kd.R_base ho1) hb); have n3_ := Aside0.mk (Kd.R_below (by (with_reducible repeat (first | apply Kd.R_alloc | apply Kd.R_drewN | apply Kd.R_drew)); exact HO151.out) hb); have n4_ := Aside0.mk (Kd.R_lower (Kd.R_new' ho0 (Kd.R_lt (by (with_reducible repeat (first | apply Kd.R_alloc | apply Kd.R_drewN | apply Kd.R_drew)); exact HO143.out))) (below_size (by repeat (first | (with_reducible first | exact HB.out | apply below_alloc | apply pw_below_drewN | apply below_drew1 | refine below_set ?_ GE139.out) | exact HB.out)))); have n5_ := Aside0.mk (Kd.R_lower (Kd.R_new' ho1 (Kd.R_lt (by (with_reducible repeat (first | apply Kd.R_alloc | apply Kd.R_drewN | apply Kd.R_drew)); exact HO146.out))) (below_size (by repeat (first | (with_reducible first | exact HB.out | apply below_alloc | apply pw_below_drewN | apply below_drew1 | refine below_set ?_ GE139.out) | exact HB.out)))); have n6_ := Aside0.mk (blk_below (g := gb139) (o := .cells #[.int .i64 3, .slice Ao9 y136.length co9] 24 (0, 0)) (by (with_reducible repeat (first | refine blk_drewN ?_ _ | refine blk_drew ?_ | refine blk_alloc ?_ _)); exact BK139.out) hb); have n7_ := Aside0.mk (below_step (by repeat (first | (with_reducible first | exact HB.out | apply below_alloc | apply pw_below_drewN | apply below_drew1 | refine below_set ?_ GE139.out) | exact HB.out)) hb); clear HO138; clear HO143; clear HO146; clear HO151; clear BK139; clear HB; have HO138 := n0_; have HO143 := n1_; have HO146 := n2_; have HO151 := n3_; have HO155 := n4_; have HO158 := n5_; have BK139 := n6_; have HB := n7_; clear n0_ n1_ n2_ n3_ n4_ n5_ n6_ n7_; (try clear hb); (try clear hb2); (try clear hk); (try clear hi); (try clear ho0); (try clear ho1)) | ((with_reducible refine gate_callee (f := 14) rfl ?_); refine goesL_ (some 39) rfl rfl Try.func14 (by kernel_rfl) rfl #[.agg #[.int .i64 2, .slice none 0 0], .int .i64 0, .int .i64 1] rfl (by (try simp only [List.map_toArray, List.map_cons, List.map_nil]); first | done | rfl | (simp only [List.length_drop, List.length_take]; rfl)) ?_; (refine (flow_Most.calls 2 _ _ ([] : List (S39)) 0 1 t160 t161 t164 t167 _ ?side1 ?side2 A4.out).mono ?_); (case side1 => exact Kd.C_nil _ _); (case side2 => exact Nat.le_refl _); rintro e w16 ⟨v162, v165, rfl, ho0, ho1, hb⟩; refine ⟨_, rfl, ?_⟩; have n0_ := Aside0.mk (Kd.R_below (by (with_reducible repeat (first | apply Kd.R_alloc | apply Kd.R_drewN | apply Kd.R_drew)); exact HO138.out) hb); have n1_ := Aside0.mk (Kd.R_elder' (by (with_reducible repeat (first | apply Kd.R_alloc | apply Kd.R_drewN | apply Kd.R_drew)); exact HO143.out) (Kd.R_base ho0) hb); have n2_ := Aside0.mk (Kd.R_elder' (by (with_reducible repeat (first | apply Kd.R_alloc | apply Kd.R_drewN | apply Kd.R_drew)); exact HO146.out) (Kd.R_base ho1) hb); have n3_ := Aside0.mk (Kd.R_below (by (with_reducible repeat (first | apply Kd.R_alloc | apply Kd.R_drewN | apply Kd.R_drew)); exact HO151.out) hb); have n4_ := Aside0.mk (Kd.R_elder' (by (with_reducible repeat (first | apply Kd.R_alloc | apply Kd.R_drewN | apply Kd.R_drew)); exact HO155.out) (Kd.R_base ho0) hb); have n5_ := Aside0.mk (Kd.R_elder' (by (with_reducible repeat (first | apply Kd.R_alloc | apply Kd.R_drewN | apply Kd.R_drew)); exact HO158.out) (Kd.R_base ho1) hb); have n6_ := Aside0.mk (Kd.R_lower (Kd.R_new' (Kd.R_new' ho0 (Kd.R_lt (by (with_reducible repeat (first | apply Kd.R_alloc | apply Kd.R_drewN | apply Kd.R_drew)); exact HO143.out))) (Kd.R_lt (by (with_reducible repeat (first | apply Kd.R_alloc | apply Kd.R_drewN | apply Kd.R_drew)); exact HO155.out))) (below_size (by repeat (first | (with_reducible first | exact HB.out | apply below_alloc | apply pw_below_drewN | apply below_drew1 | refine below_set ?_ GE139.out) | exact HB.out)))); have n7_ := Aside0.mk (Kd.R_lower (Kd.R_new' (Kd.R_new' ho1 (Kd.R_lt (by (with_reducible repeat (first | apply Kd.R_alloc | apply Kd.R_drewN | apply Kd.R_drew)); exact HO146.out))) (Kd.R_lt (by (with_reducible repeat (first | apply Kd.R_alloc | apply Kd.R_drewN | apply Kd.R_drew)); exact HO158.out))) (below_size (by repeat (first | (with_reducible first | exact HB.out | apply below_alloc | apply pw_below_drewN | apply below_drew1 | refine below_set ?_ GE139.out) | exact HB.out)))); have n8_ := Aside0.mk (blk_below (g := gb139) (o := .cells #[.int .i64 3, .slice Ao9 y136.length co9] 24 (0, 0)) (by (with_reducible repeat (first | refine blk_drewN ?_ _ | refine blk_drew ?_ | refine blk_alloc ?_ _)); exact BK139.out) hb); have n9_ := Aside0.mk (below_step (by repeat (first | (with_reducible first | exact HB.out | apply below_alloc | apply pw_below_drewN | apply below_drew1 | refine below_set ?_ GE139.out) | exact HB.out)) hb); clear HO138; clear HO143; clear HO146; clear HO151; clear HO155; clear HO158; clear BK139; clear HB; have HO138 := n0_; have HO143 := n1_; have HO146 := n2_; have HO151 := n3_; have HO155 := n4_; have HO158 := n5_; have HO163 := n6_; have HO166 := n7_; have BK139 := n8_; have HB := n9_; clear n0_ n1_ n2_ n3_ n4_ n5_ n6_ n7_ n8_ n9_; (try clear hb); (try clear hb2); (try clear hk); (try clear hi); (try clear ho0); (try clear ho1); have hcz17_0 : w16.cell? ⟨gb139, 0, none⟩ = some (.int .i64 3) := (blk_cell BK139.out 0).trans rfl; have hcz17_1 : w16.cell? ⟨gb139, 1, none⟩ = some (.slice Ao9 y136.length co9) := (blk_cell BK139.out 1).trans rfl; have hfz17_0 := blk_frozen BK139.out 0; have hfz17_1 := blk_frozen BK139.out 1) | ((with_reducible refine gate_callee (f := 14) rfl ?_); refine goesL_ (some 46) rfl rfl Try.func14 (by kernel_rfl) rfl #[.agg #[.int .i64 3, .slice Ao9 y136.length co9], .int .i64 1, .int .i64 1] rfl (by (try simp only [List.map_toArray, List.map_cons, List.map_nil]); first | done | rfl | (simp only [List.length_drop, List.length_take]; rfl)) ?_; (with_reducible refine (flow_Most.calls 3 _ _ y136 1 1 t168 t169 t172 t175 _ ?side1 ?side2 A5.out).mono ?_); (case side1 => repeat (first | exact (Kd.R_reads' HO138.out).2.2 | (with_reducible refine Kd.C_alloc ?_ _) | (with_reducible refine Kd.C_drewN ?_ _) | (with_reducible refine Kd.C_drew ?_))); (case side2 => exact (Kd.R_reads' HO138.out).2.1); rintro e w18 ⟨v170, v173, rfl, ho0, ho1, hb⟩; refine ⟨_, rfl, ?_⟩; have n0_ := Aside0.mk (Kd.R_below (by (with_reducible repeat (first | apply Kd.R_alloc | apply Kd.R_drewN | apply Kd.R_drew)); exact HO138.out) hb); have n1_ := Aside0.mk (Kd.R_elder' (by (with_reducible repeat (first | apply Kd.R_alloc | apply Kd.R_drewN | apply Kd.R_drew)); exact HO143.out) (Kd.R_base ho0) hb); have n2_ := Aside0.mk (Kd.R_elder' (by (with_reducible repeat (first | apply Kd.R_alloc | apply Kd.R_drewN | apply Kd.R_drew)); exact HO146.out) (Kd.R_base ho1) hb); have n3_ := Aside0.mk (Kd.R_below (by (with_reducible repeat (first | apply Kd.R_alloc | apply Kd.R_drewN | apply Kd.R_drew)); exact HO151.out) hb); have n4_ := Aside0.mk (Kd.R_elder' (by (with_reducible repeat (first | apply Kd.R_alloc | apply Kd.R_drewN | apply Kd.R_drew)); exact HO155.out) (Kd.R_base ho0) hb); have n5_ := Aside0.mk (Kd.R_elder' (by (with_reducible repeat (first | apply Kd.R_alloc | apply Kd.R_drewN | apply Kd.R_drew)); exact HO158.out) (Kd.R_base ho1) hb); have n6_ := Aside0.mk (Kd.R_elder' (by (with_reducible repeat (first | apply Kd.R_alloc | apply Kd.R_drewN | apply Kd.R_drew)); exact HO163.out) (Kd.R_base ho0) hb); have n7_ := Aside0.mk (Kd.R_elder' (by (with_reducible repeat (first | apply Kd.R_alloc | apply Kd.R_drewN | apply Kd.R_drew)); exact HO166.out) (Kd.R_base ho1) hb); have n8_ := Aside0.mk (Kd.R_lower (Kd.R_new' (Kd.R_new' (Kd.R_new' ho0 (Kd.R_lt (by (with_reducible repeat (first | apply Kd.R_alloc | apply Kd.R_drewN | apply Kd.R_drew)); exact HO143.out))) (Kd.R_lt (by (with_reducible repeat (first | apply Kd.R_alloc | apply Kd.R_drewN | apply Kd.R_drew)); exact HO155.out))) (Kd.R_lt (by (with_reducible repeat (first | apply Kd.R_alloc | apply Kd.R_drewN | apply Kd.R_drew)); exact HO163.out))) (below_size (by repeat (first | (with_reducible first | exact HB.out | apply below_alloc | apply pw_below_drewN | apply below_drew1 | refine below_set ?_ GE139.out) | exact HB.out)))); have n9_ := Aside0.mk (Kd.R_lower (Kd.R_new' (Kd.R_new' (Kd.R_new' ho1 (Kd.R_lt (by (with_reducible repeat (first | apply Kd.R_alloc | apply Kd.R_drewN | apply Kd.R_drew)); exact HO146.out))) (Kd.R_lt (by (with_reducible repeat (first | apply Kd.R_alloc | apply Kd.R_drewN | apply Kd.R_drew)); exact HO158.out))) (Kd.R_lt (by (with_reducible repeat (first | apply Kd.R_alloc | apply Kd.R_drewN | apply Kd.R_drew)); exact HO166.out))) (below_size (by repeat (first | (with_reducible first | exact HB.out | apply below_alloc | apply pw_below_drewN | apply below_drew1 | refine below_set ?_ GE139.out) | exact HB.out)))); have n10_ := Aside0.mk (blk_below (g := gb139) (o := .cells #[.int .i64 3, .slice Ao9 y136.length co9] 24 (0, 0)) (by (with_reducible repeat (first | refine blk_drewN ?_ _ | refine blk_drew ?_ | refine blk_alloc ?_ _)); exact BK139.out) hb); have n11_ := Aside0.mk (below_step (by repeat (first | (with_reducible first | exact HB.out | apply below_alloc | apply pw_below_drewN | apply below_drew1 | refine below_set ?_ GE139.out) | exact HB.out)) hb); clear HO138; clear HO143; clear HO146; clear HO151; clear HO155; clear HO158; clear HO163; clear HO166; clear BK139; clear HB; have HO138 := n0_; have HO143 := n1_; have HO146 := n2_; have HO151 := n3_; have HO155 := n4_; have HO158 := n5_; have HO163 := n6_; have HO166 := n7_; have HO171 := n8_; have HO174 := n9_; have BK139 := n10_; have HB := n11_; clear n0_ n1_ n2_ n3_ n4_ n5_ n6_ n7_ n8_ n9_ n10_ n11_; (try clear hb); (try clear hb2); (try clear hk); (try clear hi); (try clear ho0); (try clear ho1)))
  (try simp only [Act.put, List.setIfInBounds_toArray, List.set_cons_zero, List.set_cons_succ])
  go_cut [18] (fun v18 wc => ∃ (kq : Nat) (x18_5 : Bool), v18 = .bool x18_5 ∧ Aside0 (chargeparklaw21_head.j0 kq t141 t144 x18_5 3 y136 = some r) ∧ Aside0 (kq ≤ k) ∧ Aside0 (Kd.R (Kd.int .i64) 3 wc w.heap.size (fun _ => True) v142 t141) ∧ Aside0 (Kd.R Kd.bool 4 wc w.heap.size (fun _ => True) v145 t144) ∧ Aside0 (Kd.R k39 39 wc w.heap.size (fun _ => True) (.slice Ao9 y136.length co9) y136) ∧ Aside0 (wc.heap[gb139]? = some (.cells #[.int .i64 3, (.slice Ao9 y136.length co9)] 24 (0, 0))) ∧ Aside0 (Below w.heap.size w wc))
  case first =>
    have H := HC6.out
    clear HC6
    by_cases c19 : t147 = 0
    · rw [if_pos c19] at H
      have c19b0 : (t147 == 0) = true := beq_iff_eq.mpr c19
      have c19b1 : (t147 != 0) = false := bne_eq_false_iff_eq.mpr c19
      clear c19
      (first | rw [c19b0] | (simp only [i64_w, i32_w]; rw [c19b0]) | skip)
      by_cases c20 : t159 = 0
      · rw [if_pos c20] at H
        have c20b0 : (t159 == 0) = true := beq_iff_eq.mpr c20
        have c20b1 : (t159 != 0) = false := bne_eq_false_iff_eq.mpr c20
        clear c20
        by_cases c21 : t167 = 0
        · rw [if_pos c21] at H
          have c21b0 : (t167 == 0) = true := beq_iff_eq.mpr c21
          have c21b1 : (t167 != 0) = false := bne_eq_false_iff_eq.mpr c21
          clear c21
          by_cases c22 : t175 = 1
          · rw [if_pos c22] at H
            have c22b0 : (t175 == 1) = true := beq_iff_eq.mpr c22
            have c22b1 : (t175 != 1) = false := bne_eq_false_iff_eq.mpr c22
            clear c22
            by_cases c23 : t140 = 3
            · rw [if_pos c23] at H
              have c23b0 : (t140 == 3) = true := beq_iff_eq.mpr c23
              have c23b1 : (t140 != 3) = false := bne_eq_false_iff_eq.mpr c23
              clear c23
              by_cases c24 : t152 = 9
              · rw [if_pos c24] at H
                have c24b0 : (t152 == 9) = true := beq_iff_eq.mpr c24
                have c24b1 : (t152 != 9) = false := bne_eq_false_iff_eq.mpr c24
                clear c24
                have H' := Aside0.mk H
                clear H
                go_wp2
                go_meet
                case rel => exact ⟨_, ((t160 == 0)), (by first | rfl | (simp; done) | (simp [*]; done)), H', ⟨by first | omega | exact Nat.le_refl _⟩, ⟨by (with_reducible repeat (first | apply Kd.R_alloc | apply Kd.R_drewN | apply Kd.R_drew)); exact Kd.R_mono HO143.out (fun _ hk => trivial)⟩, ⟨by (with_reducible repeat (first | apply Kd.R_alloc | apply Kd.R_drewN | apply Kd.R_drew)); exact Kd.R_mono HO146.out (fun _ hk => trivial)⟩, ⟨by (with_reducible repeat (first | apply Kd.R_alloc | apply Kd.R_drewN | apply Kd.R_drew)); exact Kd.R_mono HO138.out (fun _ hk => trivial)⟩, ⟨by (with_reducible repeat (first | refine blk_drewN ?_ _ | refine blk_drew ?_ | refine blk_alloc ?_ _)); exact BK139.out⟩, ⟨by repeat (first | (with_reducible first | exact HB.out | apply below_alloc | apply pw_below_drewN | apply below_drew1 | refine below_set ?_ GE139.out) | exact HB.out)⟩⟩
              · rw [if_neg c24] at H
                have c24b0 : (t152 == 9) = false := beq_eq_false_iff_ne.mpr c24
                have c24b1 : (t152 != 9) = true := bne_iff_ne.mpr c24
                have H' := Aside0.mk H
                clear H
                go_wp2
                go_meet
                case rel => exact ⟨_, (false), (by first | rfl | (simp; done) | (simp [*]; done)), H', ⟨by first | omega | exact Nat.le_refl _⟩, ⟨by (with_reducible repeat (first | apply Kd.R_alloc | apply Kd.R_drewN | apply Kd.R_drew)); exact Kd.R_mono HO143.out (fun _ hk => trivial)⟩, ⟨by (with_reducible repeat (first | apply Kd.R_alloc | apply Kd.R_drewN | apply Kd.R_drew)); exact Kd.R_mono HO146.out (fun _ hk => trivial)⟩, ⟨by (with_reducible repeat (first | apply Kd.R_alloc | apply Kd.R_drewN | apply Kd.R_drew)); exact Kd.R_mono HO138.out (fun _ hk => trivial)⟩, ⟨by (with_reducible repeat (first | refine blk_drewN ?_ _ | refine blk_drew ?_ | refine blk_alloc ?_ _)); exact BK139.out⟩, ⟨by repeat (first | (with_reducible first | exact HB.out | apply below_alloc | apply pw_below_drewN | apply below_drew1 | refine below_set ?_ GE139.out) | exact HB.out)⟩⟩
            · rw [if_neg c23] at H
              have c23b0 : (t140 == 3) = false := beq_eq_false_iff_ne.mpr c23
              have c23b1 : (t140 != 3) = true := bne_iff_ne.mpr c23
              have H' := Aside0.mk H
              clear H
              go_wp2
              go_meet
              case rel => exact ⟨_, (false), (by first | rfl | (simp; done) | (simp [*]; done)), H', ⟨by first | omega | exact Nat.le_refl _⟩, ⟨by (with_reducible repeat (first | apply Kd.R_alloc | apply Kd.R_drewN | apply Kd.R_drew)); exact Kd.R_mono HO143.out (fun _ hk => trivial)⟩, ⟨by (with_reducible repeat (first | apply Kd.R_alloc | apply Kd.R_drewN | apply Kd.R_drew)); exact Kd.R_mono HO146.out (fun _ hk => trivial)⟩, ⟨by (with_reducible repeat (first | apply Kd.R_alloc | apply Kd.R_drewN | apply Kd.R_drew)); exact Kd.R_mono HO138.out (fun _ hk => trivial)⟩, ⟨by (with_reducible repeat (first | refine blk_drewN ?_ _ | refine blk_drew ?_ | refine blk_alloc ?_ _)); exact BK139.out⟩, ⟨by repeat (first | (with_reducible first | exact HB.out | apply below_alloc | apply pw_below_drewN | apply below_drew1 | refine below_set ?_ GE139.out) | exact HB.out)⟩⟩
          · rw [if_neg c22] at H
            have c22b0 : (t175 == 1) = false := beq_eq_false_iff_ne.mpr c22
            have c22b1 : (t175 != 1) = true := bne_iff_ne.mpr c22
            have H' := Aside0.mk H
            clear H
            go_wp2
            go_meet
            case rel => exact ⟨_, (false), (by first | rfl | (simp; done) | (simp [*]; done)), H', ⟨by first | omega | exact Nat.le_refl _⟩, ⟨by (with_reducible repeat (first | apply Kd.R_alloc | apply Kd.R_drewN | apply Kd.R_drew)); exact Kd.R_mono HO143.out (fun _ hk => trivial)⟩, ⟨by (with_reducible repeat (first | apply Kd.R_alloc | apply Kd.R_drewN | apply Kd.R_drew)); exact Kd.R_mono HO146.out (fun _ hk => trivial)⟩, ⟨by (with_reducible repeat (first | apply Kd.R_alloc | apply Kd.R_drewN | apply Kd.R_drew)); exact Kd.R_mono HO138.out (fun _ hk => trivial)⟩, ⟨by (with_reducible repeat (first | refine blk_drewN ?_ _ | refine blk_drew ?_ | refine blk_alloc ?_ _)); exact BK139.out⟩, ⟨by repeat (first | (with_reducible first | exact HB.out | apply below_alloc | apply pw_below_drewN | apply below_drew1 | refine below_set ?_ GE139.out) | exact HB.out)⟩⟩
        · rw [if_neg c21] at H
          have c21b0 : (t167 == 0) = false := beq_eq_false_iff_ne.mpr c21
          have c21b1 : (t167 != 0) = true := bne_iff_ne.mpr c21
          have H' := Aside0.mk H
          clear H
          go_wp2
          go_meet
          case rel => exact ⟨_, (false), (by first | rfl | (simp; done) | (simp [*]; done)), H', ⟨by first | omega | exact Nat.le_refl _⟩, ⟨by (with_reducible repeat (first | apply Kd.R_alloc | apply Kd.R_drewN | apply Kd.R_drew)); exact Kd.R_mono HO143.out (fun _ hk => trivial)⟩, ⟨by (with_reducible repeat (first | apply Kd.R_alloc | apply Kd.R_drewN | apply Kd.R_drew)); exact Kd.R_mono HO146.out (fun _ hk => trivial)⟩, ⟨by (with_reducible repeat (first | apply Kd.R_alloc | apply Kd.R_drewN | apply Kd.R_drew)); exact Kd.R_mono HO138.out (fun _ hk => trivial)⟩, ⟨by (with_reducible repeat (first | refine blk_drewN ?_ _ | refine blk_drew ?_ | refine blk_alloc ?_ _)); exact BK139.out⟩, ⟨by repeat (first | (with_reducible first | exact HB.out | apply below_alloc | apply pw_below_drewN | apply below_drew1 | refine below_set ?_ GE139.out) | exact HB.out)⟩⟩
      · rw [if_neg c20] at H
        have c20b0 : (t159 == 0) = false := beq_eq_false_iff_ne.mpr c20
        have c20b1 : (t159 != 0) = true := bne_iff_ne.mpr c20
        have H' := Aside0.mk H
        clear H
        go_wp2
        go_meet
        case rel => exact ⟨_, (false), (by first | rfl | (simp; done) | (simp [*]; done)), H', ⟨by first | omega | exact Nat.le_refl _⟩, ⟨by (with_reducible repeat (first | apply Kd.R_alloc | apply Kd.R_drewN | apply Kd.R_drew)); exact Kd.R_mono HO143.out (fun _ hk => trivial)⟩, ⟨by (with_reducible repeat (first | apply Kd.R_alloc | apply Kd.R_drewN | apply Kd.R_drew)); exact Kd.R_mono HO146.out (fun _ hk => trivial)⟩, ⟨by (with_reducible repeat (first | apply Kd.R_alloc | apply Kd.R_drewN | apply Kd.R_drew)); exact Kd.R_mono HO138.out (fun _ hk => trivial)⟩, ⟨by (with_reducible repeat (first | refine blk_drewN ?_ _ | refine blk_drew ?_ | refine blk_alloc ?_ _)); exact BK139.out⟩, ⟨by repeat (first | (with_reducible first | exact HB.out | apply below_alloc | apply pw_below_drewN | apply below_drew1 | refine below_set ?_ GE139.out) | exact HB.out)⟩⟩
    · rw [if_neg c19] at H
      have c19b0 : (t147 == 0) = false := beq_eq_false_iff_ne.mpr c19
      have c19b1 : (t147 != 0) = true := bne_iff_ne.mpr c19
      (first | rw [c19b0] | (simp only [i64_w, i32_w]; rw [c19b0]) | skip)
      have H' := Aside0.mk H
      clear H
      go_wp2
      go_meet
      case rel => exact ⟨_, (false), (by first | rfl | (simp; done) | (simp [*]; done)), H', ⟨by first | omega | exact Nat.le_refl _⟩, ⟨by (with_reducible repeat (first | apply Kd.R_alloc | apply Kd.R_drewN | apply Kd.R_drew)); exact Kd.R_mono HO143.out (fun _ hk => trivial)⟩, ⟨by (with_reducible repeat (first | apply Kd.R_alloc | apply Kd.R_drewN | apply Kd.R_drew)); exact Kd.R_mono HO146.out (fun _ hk => trivial)⟩, ⟨by (with_reducible repeat (first | apply Kd.R_alloc | apply Kd.R_drewN | apply Kd.R_drew)); exact Kd.R_mono HO138.out (fun _ hk => trivial)⟩, ⟨by (with_reducible repeat (first | refine blk_drewN ?_ _ | refine blk_drew ?_ | refine blk_alloc ?_ _)); exact BK139.out⟩, ⟨by repeat (first | (with_reducible first | exact HB.out | apply below_alloc | apply pw_below_drewN | apply below_drew1 | refine below_set ?_ GE139.out) | exact HB.out)⟩⟩
  case rest =>
    clear HC6
    try clear c1
    try clear c2
    try clear p2
    try clear c3
    try clear c10
    try clear c14
    try clear c19
    try clear c19b0
    try clear c19b1
    try clear c20
    try clear c20b0
    try clear c20b1
    try clear c21
    try clear c21b0
    try clear c21b1
    try clear c22
    try clear c22b0
    try clear c22b1
    try clear c23
    try clear c23b0
    try clear c23b1
    try clear c24
    try clear c24b0
    try clear c24b1
    try clear hcz11_0
    try clear hcz11_1
    try clear hcz17_0
    try clear hcz17_1
    try clear hfz11_0
    try clear hfz11_1
    try clear hfz17_0
    try clear hfz17_1
    obtain ⟨kq, x18_5, rfl, HA, HJ5, HO_3, HO_4, HO_140001, BK139, HB⟩ := hcut
    cases kq with
    | zero => exact absurd HA.out (by simp [chargeparklaw21_head.j0])
    | succ kj5 =>
      have H := HA.out
      clear HA
      simp only [chargeparklaw21_head.j0] at H
      have HC25 := Aside0.mk H
      clear H
      go_upto_region 7 with (fail)
      go_cut [84] (fun v84 wc => ∃ (kq : Nat) (x84_24 : Bool), v84 = .bool x84_24 ∧ Aside0 (chargeparklaw21_head.j1 kq t141 t144 x18_5 x84_24 3 y136 = some r) ∧ Aside0 (kq ≤ kj5) ∧ Aside0 (Kd.R (Kd.int .i64) 3 wc w.heap.size (fun _ => True) v142 t141) ∧ Aside0 (Kd.R Kd.bool 4 wc w.heap.size (fun _ => True) v145 t144) ∧ Aside0 (Kd.R k39 39 wc w.heap.size (fun _ => True) (.slice Ao9 y136.length co9) y136) ∧ Aside0 (wc.heap[gb139]? = some (.cells #[.int .i64 3, (.slice Ao9 y136.length co9)] 24 (0, 0))) ∧ Aside0 (Below w.heap.size w wc))
      case first =>
        have H := HC25.out
        clear HC25
        by_cases c26 : (t141.length : Int) = 2
        · rw [if_pos c26] at H
          have c26b0 : ((t141.length : Int) == 2) = true := beq_iff_eq.mpr c26
          have c26b1 : ((t141.length : Int) != 2) = false := bne_eq_false_iff_eq.mpr c26
          clear c26
          (first | rw [c26b0] | (simp only [i64_w, i32_w]; rw [c26b0]) | skip)
          have H' := Aside0.mk H
          clear H
          obtain ⟨Ao27, co27, eo27⟩ := Kd.R_slice HO_3.out
          subst eo27
          obtain ⟨Ao28, co28, eo28⟩ := Kd.R_slice HO_4.out
          subst eo28
          go_wp2
          go_meet
          case rel => exact ⟨_, (((t144.length : Int) != 3)), (by first | rfl | (simp; done) | (simp [*]; done)), H', ⟨by have := HJ5.out; first | omega | exact Nat.le_refl _⟩, ⟨by (with_reducible repeat (first | apply Kd.R_alloc | apply Kd.R_drewN | apply Kd.R_drew)); exact HO_3.out⟩, ⟨by (with_reducible repeat (first | apply Kd.R_alloc | apply Kd.R_drewN | apply Kd.R_drew)); exact HO_4.out⟩, ⟨by (with_reducible repeat (first | apply Kd.R_alloc | apply Kd.R_drewN | apply Kd.R_drew)); exact HO_140001.out⟩, ⟨by (with_reducible repeat (first | refine blk_drewN ?_ _ | refine blk_drew ?_ | refine blk_alloc ?_ _)); exact BK139.out⟩, ⟨by repeat (first | (with_reducible first | exact HB.out | apply below_alloc | apply pw_below_drewN | apply below_drew1 | refine below_set ?_ GE139.out) | exact HB.out)⟩⟩
        · rw [if_neg c26] at H
          have c26b0 : ((t141.length : Int) == 2) = false := beq_eq_false_iff_ne.mpr c26
          have c26b1 : ((t141.length : Int) != 2) = true := bne_iff_ne.mpr c26
          (first | rw [c26b0] | (simp only [i64_w, i32_w]; rw [c26b0]) | skip)
          have H' := Aside0.mk H
          clear H
          obtain ⟨Ao29, co29, eo29⟩ := Kd.R_slice HO_3.out
          subst eo29
          go_wp2
          go_meet
          case rel => exact ⟨_, (true), (by first | rfl | (simp; done) | (simp [*]; done)), H', ⟨by have := HJ5.out; first | omega | exact Nat.le_refl _⟩, ⟨by (with_reducible repeat (first | apply Kd.R_alloc | apply Kd.R_drewN | apply Kd.R_drew)); exact HO_3.out⟩, ⟨by (with_reducible repeat (first | apply Kd.R_alloc | apply Kd.R_drewN | apply Kd.R_drew)); exact HO_4.out⟩, ⟨by (with_reducible repeat (first | apply Kd.R_alloc | apply Kd.R_drewN | apply Kd.R_drew)); exact HO_140001.out⟩, ⟨by (with_reducible repeat (first | refine blk_drewN ?_ _ | refine blk_drew ?_ | refine blk_alloc ?_ _)); exact BK139.out⟩, ⟨by repeat (first | (with_reducible first | exact HB.out | apply below_alloc | apply pw_below_drewN | apply below_drew1 | refine below_set ?_ GE139.out) | exact HB.out)⟩⟩
      case rest =>
        clear HC25
        try clear c1
        try clear c2
        try clear p2
        try clear c3
        try clear c10
        try clear c14
        try clear c19
        try clear c19b0
        try clear c19b1
        try clear c20
        try clear c20b0
        try clear c20b1
        try clear c21
        try clear c21b0
        try clear c21b1
        try clear c22
        try clear c22b0
        try clear c22b1
        try clear c23
        try clear c23b0
        try clear c23b1
        try clear c24
        try clear c24b0
        try clear c24b1
        try clear c26
        try clear c26b0
        try clear c26b1
        try clear hcz11_0
        try clear hcz11_1
        try clear hcz17_0
        try clear hcz17_1
        try clear hfz11_0
        try clear hfz11_1
        try clear hfz17_0
        try clear hfz17_1
        try clear p2
        obtain ⟨kq, x84_24, rfl, HA, HJ24, HO_3, HO_4, HO_140001, BK139, HB⟩ := hcut
        cases kq with
        | zero => exact absurd HA.out (by simp [chargeparklaw21_head.j1])
        | succ kj24 =>
          have H := HA.out
          clear HA
          simp only [chargeparklaw21_head.j1] at H
          by_cases c30 : x84_24 = true
          · subst c30
            have H1 : (some false) = some r := by rw [if_pos rfl] at H; exact H
            clear H
            have H := H1
            clear H1
            obtain rfl := Option.some.inj H
            go_wp2
            go_ret
            exact ⟨by first | rfl | (simp [errW_none, errW_some] <;> rfl) | (simp [*, errW_none, errW_some] <;> rfl), by repeat (first | (with_reducible first | exact HB.out | apply below_alloc | apply pw_below_drewN | apply below_drew1 | refine below_set ?_ GE139.out) | exact HB.out)⟩
          · replace c30 := Bool.eq_false_iff.mpr c30
            subst c30
            have H1 : (if x18_5 = true then (if 0 < (t141.length : Int) then (if (rd t141 0) = 3 then (if 1 < (t141.length : Int) then (if (rd t141 1) = 3 then (if 0 < (t144.length : Int) then (if rdOf false t144 0 = true then (if 1 < (t144.length : Int) then (if rdOf false t144 1 = true then (if 2 < (t144.length : Int) then (chargeparklaw21_head.j2 kj24 (!(rdOf false t144 2)) 3 y136) else (none)) else (chargeparklaw21_head.j2 kj24 false 3 y136)) else (none)) else (chargeparklaw21_head.j2 kj24 false 3 y136)) else (none)) else (chargeparklaw21_head.j2 kj24 false 3 y136)) else (none)) else (chargeparklaw21_head.j2 kj24 false 3 y136)) else (none)) else (chargeparklaw21_head.j2 kj24 false 3 y136)) = some r := by rw [if_neg (show ¬ (false = true) by decide)] at H; exact H
            clear H
            have H := H1
            clear H1
            have HC31 := Aside0.mk H
            clear H
            go_upto_region 9 with (fail)
            go_cut [18] (fun v18 wc => ∃ (kq : Nat) (x18_30 : Bool), v18 = .bool x18_30 ∧ Aside0 (chargeparklaw21_head.j2 kq x18_30 3 y136 = some r) ∧ Aside0 (kq ≤ kj24) ∧ Aside0 (Kd.R k39 39 wc w.heap.size (fun _ => True) (.slice Ao9 y136.length co9) y136) ∧ Aside0 (wc.heap[gb139]? = some (.cells #[.int .i64 3, (.slice Ao9 y136.length co9)] 24 (0, 0))) ∧ Aside0 (Below w.heap.size w wc))
            case first =>
              have H := HC31.out
              clear HC31
              by_cases c32 : x18_5 = true
              · subst c32
                have H1 : (if 0 < (t141.length : Int) then (if (rd t141 0) = 3 then (if 1 < (t141.length : Int) then (if (rd t141 1) = 3 then (if 0 < (t144.length : Int) then (if rdOf false t144 0 = true then (if 1 < (t144.length : Int) then (if rdOf false t144 1 = true then (if 2 < (t144.length : Int) then (chargeparklaw21_head.j2 kj24 (!(rdOf false t144 2)) 3 y136) else (none)) else (chargeparklaw21_head.j2 kj24 false 3 y136)) else (none)) else (chargeparklaw21_head.j2 kj24 false 3 y136)) else (none)) else (chargeparklaw21_head.j2 kj24 false 3 y136)) else (none)) else (chargeparklaw21_head.j2 kj24 false 3 y136)) else (none)) = some r := by rw [if_pos rfl] at H; exact H
                clear H
                have H := H1
                clear H1
                by_cases c33 : 0 < (t141.length : Int)
                · rw [if_pos c33] at H
                  have c33b0 : decide (0 < (t141.length : Int)) = true := decide_eq_true c33
                  have c33b1 : decide (0 < t141.length) = true := decide_eq_true (by omega)
                  clear c33
                  (first | rw [c33b0] | (simp only [i64_w, i32_w]; rw [c33b0]) | skip)
                  by_cases c34 : (rd t141 0) = 3
                  · rw [if_pos c34] at H
                    have c34b0 : ((rd t141 0) == 3) = true := beq_iff_eq.mpr c34
                    have c34b1 : ((rd t141 0) != 3) = false := bne_eq_false_iff_eq.mpr c34
                    clear c34
                    by_cases c35 : 1 < (t141.length : Int)
                    · rw [if_pos c35] at H
                      have c35b0 : decide (1 < (t141.length : Int)) = true := decide_eq_true c35
                      have c35b1 : decide (1 < t141.length) = true := decide_eq_true (by omega)
                      clear c35
                      by_cases c36 : (rd t141 1) = 3
                      · rw [if_pos c36] at H
                        have c36b0 : ((rd t141 1) == 3) = true := beq_iff_eq.mpr c36
                        have c36b1 : ((rd t141 1) != 3) = false := bne_eq_false_iff_eq.mpr c36
                        clear c36
                        by_cases c37 : 0 < (t144.length : Int)
                        · rw [if_pos c37] at H
                          have c37b0 : decide (0 < (t144.length : Int)) = true := decide_eq_true c37
                          have c37b1 : decide (0 < t144.length) = true := decide_eq_true (by omega)
                          clear c37
                          obtain ⟨bq38, hbq38⟩ : ∃ b_ : Bool, b_ = (rdOf false t144 0) := ⟨_, rfl⟩
                          replace H : (if bq38 = true then (if 1 < (t144.length : Int) then (if rdOf false t144 1 = true then (if 2 < (t144.length : Int) then (chargeparklaw21_head.j2 kj24 (!(rdOf false t144 2)) 3 y136) else (none)) else (chargeparklaw21_head.j2 kj24 false 3 y136)) else (none)) else (chargeparklaw21_head.j2 kj24 false 3 y136)) = some r := by rw [← hbq38] at H; exact H
                          have Nbq38 := Aside0.mk hbq38
                          clear hbq38
                          by_cases c39 : bq38 = true
                          · subst c39
                            have H1 : (if 1 < (t144.length : Int) then (if rdOf false t144 1 = true then (if 2 < (t144.length : Int) then (chargeparklaw21_head.j2 kj24 (!(rdOf false t144 2)) 3 y136) else (none)) else (chargeparklaw21_head.j2 kj24 false 3 y136)) else (none)) = some r := by rw [if_pos rfl] at H; exact H
                            clear H
                            have H := H1
                            clear H1
                            by_cases c40 : 1 < (t144.length : Int)
                            · rw [if_pos c40] at H
                              have c40b0 : decide (1 < (t144.length : Int)) = true := decide_eq_true c40
                              have c40b1 : decide (1 < t144.length) = true := decide_eq_true (by omega)
                              clear c40
                              obtain ⟨bq41, hbq41⟩ : ∃ b_ : Bool, b_ = (rdOf false t144 1) := ⟨_, rfl⟩
                              replace H : (if bq41 = true then (if 2 < (t144.length : Int) then (chargeparklaw21_head.j2 kj24 (!(rdOf false t144 2)) 3 y136) else (none)) else (chargeparklaw21_head.j2 kj24 false 3 y136)) = some r := by rw [← hbq41] at H; exact H
                              have Nbq41 := Aside0.mk hbq41
                              clear hbq41
                              by_cases c42 : bq41 = true
                              · subst c42
                                have H1 : (if 2 < (t144.length : Int) then (chargeparklaw21_head.j2 kj24 (!(rdOf false t144 2)) 3 y136) else (none)) = some r := by rw [if_pos rfl] at H; exact H
                                clear H
                                have H := H1
                                clear H1
                                by_cases c43 : 2 < (t144.length : Int)
                                · rw [if_pos c43] at H
                                  have c43b0 : decide (2 < (t144.length : Int)) = true := decide_eq_true c43
                                  have c43b1 : decide (2 < t144.length) = true := decide_eq_true (by omega)
                                  clear c43
                                  have H' := Aside0.mk H
                                  clear H
                                  obtain ⟨Ao44, co44, eo44⟩ := Kd.R_slice HO_3.out
                                  subst eo44
                                  have p176 : 0 ≤ (0 : Int) := (by omega)
                                  have q176 : 0 < (t141.length : Int) := of_decide_eq_true (by first | (with_reducible assumption) | assumption)
                                  obtain ⟨ad176, e176, hx176_0⟩ := Kd.at_int (Kd.R_reads' HO_3.out).2.2 0 p176 q176
                                  cases e176
                                  have qi176 : (0 < t141.length) = True := eq_true (by omega)
                                  (try rw [show ((0 : Int)).toNat = 0 from rfl] at hx176_0)
                                  (try rw [Addr.add_zero'] at hx176_0)
                                  replace p176 := eq_true p176
                                  replace q176 := eq_true q176
                                  have p177 : 0 ≤ (1 : Int) := (by omega)
                                  have q177 : 1 < (t141.length : Int) := of_decide_eq_true (by first | (with_reducible assumption) | assumption)
                                  obtain ⟨ad177, e177, hx177_0⟩ := Kd.at_int (Kd.R_reads' HO_3.out).2.2 1 p177 q177
                                  obtain rfl : ad176 = ad177 := (by injection e177)
                                  (try simp only [show (1 : Int).toNat = 1 from rfl, Nat.reduceMul, Nat.reduceEqDiff, Go.Addr.add, ↓reduceIte] at hx177_0)
                                  have qi177 : (1 < t141.length) = True := eq_true (by omega)
                                  (try rw [show ((1 : Int)).toNat = 1 from rfl] at hx177_0)
                                  replace p177 := eq_true p177
                                  replace q177 := eq_true q177
                                  obtain ⟨Ao45, co45, eo45⟩ := Kd.R_slice HO_4.out
                                  subst eo45
                                  have p178 : 0 ≤ (0 : Int) := (by omega)
                                  have q178 : 0 < (t144.length : Int) := of_decide_eq_true (by first | (with_reducible assumption) | assumption)
                                  obtain ⟨ad178, e178, hx178_0⟩ := Kd.at_bool (Kd.R_reads' HO_4.out).2.2 0 p178 q178
                                  (try rw [← Nbq38.out] at hx178_0)
                                  (try rw [← Nbq41.out] at hx178_0)
                                  cases e178
                                  have qi178 : (0 < t144.length) = True := eq_true (by omega)
                                  (try rw [show ((0 : Int)).toNat = 0 from rfl] at hx178_0)
                                  (try rw [Addr.add_zero'] at hx178_0)
                                  replace p178 := eq_true p178
                                  replace q178 := eq_true q178
                                  have p179 : 0 ≤ (1 : Int) := (by omega)
                                  have q179 : 1 < (t144.length : Int) := of_decide_eq_true (by first | (with_reducible assumption) | assumption)
                                  obtain ⟨ad179, e179, hx179_0⟩ := Kd.at_bool (Kd.R_reads' HO_4.out).2.2 1 p179 q179
                                  (try rw [← Nbq38.out] at hx179_0)
                                  (try rw [← Nbq41.out] at hx179_0)
                                  obtain rfl : ad178 = ad179 := (by injection e179)
                                  (try simp only [show (1 : Int).toNat = 1 from rfl, Nat.reduceMul, Nat.reduceEqDiff, Go.Addr.add, ↓reduceIte] at hx179_0)
                                  have qi179 : (1 < t144.length) = True := eq_true (by omega)
                                  (try rw [show ((1 : Int)).toNat = 1 from rfl] at hx179_0)
                                  replace p179 := eq_true p179
                                  replace q179 := eq_true q179
                                  have p180 : 0 ≤ (2 : Int) := (by omega)
                                  have q180 : 2 < (t144.length : Int) := of_decide_eq_true (by first | (with_reducible assumption) | assumption)
                                  obtain ⟨ad180, e180, hx180_0⟩ := Kd.at_bool (Kd.R_reads' HO_4.out).2.2 2 p180 q180
                                  (try rw [← Nbq38.out] at hx180_0)
                                  (try rw [← Nbq41.out] at hx180_0)
                                  obtain rfl : ad178 = ad180 := (by injection e180)
                                  (try simp only [show (2 : Int).toNat = 2 from rfl, Nat.reduceMul, Nat.reduceEqDiff, Go.Addr.add, ↓reduceIte] at hx180_0)
                                  have qi180 : (2 < t144.length) = True := eq_true (by omega)
                                  (try rw [show ((2 : Int)).toNat = 2 from rfl] at hx180_0)
                                  replace p180 := eq_true p180
                                  replace q180 := eq_true q180
                                  go_wp2
                                  go_meet
                                  case rel => exact ⟨_, (!(rdOf false t144 2)), (by first | rfl | (simp; done) | (simp [*]; done)), H', ⟨by have := HJ5.out; have := HJ24.out; first | omega | exact Nat.le_refl _⟩, ⟨by (with_reducible repeat (first | apply Kd.R_alloc | apply Kd.R_drewN | apply Kd.R_drew)); exact HO_140001.out⟩, ⟨by (with_reducible repeat (first | refine blk_drewN ?_ _ | refine blk_drew ?_ | refine blk_alloc ?_ _)); exact BK139.out⟩, ⟨by repeat (first | (with_reducible first | exact HB.out | apply below_alloc | apply pw_below_drewN | apply below_drew1 | refine below_set ?_ GE139.out) | exact HB.out)⟩⟩
                                · rw [if_neg c43] at H
                                  exact absurd H (by simp)
                              · replace c42 := Bool.eq_false_iff.mpr c42
                                subst c42
                                have H1 : (chargeparklaw21_head.j2 kj24 false 3 y136) = some r := by rw [if_neg (show ¬ (false = true) by decide)] at H; exact H
                                clear H
                                have H := H1
                                clear H1
                                have H' := Aside0.mk H
                                clear H
                                obtain ⟨Ao46, co46, eo46⟩ := Kd.R_slice HO_3.out
                                subst eo46
                                have p176 : 0 ≤ (0 : Int) := (by omega)
                                have q176 : 0 < (t141.length : Int) := of_decide_eq_true (by first | (with_reducible assumption) | assumption)
                                obtain ⟨ad176, e176, hx176_0⟩ := Kd.at_int (Kd.R_reads' HO_3.out).2.2 0 p176 q176
                                cases e176
                                have qi176 : (0 < t141.length) = True := eq_true (by omega)
                                (try rw [show ((0 : Int)).toNat = 0 from rfl] at hx176_0)
                                (try rw [Addr.add_zero'] at hx176_0)
                                replace p176 := eq_true p176
                                replace q176 := eq_true q176
                                have p177 : 0 ≤ (1 : Int) := (by omega)
                                have q177 : 1 < (t141.length : Int) := of_decide_eq_true (by first | (with_reducible assumption) | assumption)
                                obtain ⟨ad177, e177, hx177_0⟩ := Kd.at_int (Kd.R_reads' HO_3.out).2.2 1 p177 q177
                                obtain rfl : ad176 = ad177 := (by injection e177)
                                (try simp only [show (1 : Int).toNat = 1 from rfl, Nat.reduceMul, Nat.reduceEqDiff, Go.Addr.add, ↓reduceIte] at hx177_0)
                                have qi177 : (1 < t141.length) = True := eq_true (by omega)
                                (try rw [show ((1 : Int)).toNat = 1 from rfl] at hx177_0)
                                replace p177 := eq_true p177
                                replace q177 := eq_true q177
                                obtain ⟨Ao47, co47, eo47⟩ := Kd.R_slice HO_4.out
                                subst eo47
                                have p178 : 0 ≤ (0 : Int) := (by omega)
                                have q178 : 0 < (t144.length : Int) := of_decide_eq_true (by first | (with_reducible assumption) | assumption)
                                obtain ⟨ad178, e178, hx178_0⟩ := Kd.at_bool (Kd.R_reads' HO_4.out).2.2 0 p178 q178
                                (try rw [← Nbq38.out] at hx178_0)
                                (try rw [← Nbq41.out] at hx178_0)
                                cases e178
                                have qi178 : (0 < t144.length) = True := eq_true (by omega)
                                (try rw [show ((0 : Int)).toNat = 0 from rfl] at hx178_0)
                                (try rw [Addr.add_zero'] at hx178_0)
                                replace p178 := eq_true p178
                                replace q178 := eq_true q178
                                have p179 : 0 ≤ (1 : Int) := (by omega)
                                have q179 : 1 < (t144.length : Int) := of_decide_eq_true (by first | (with_reducible assumption) | assumption)
                                obtain ⟨ad179, e179, hx179_0⟩ := Kd.at_bool (Kd.R_reads' HO_4.out).2.2 1 p179 q179
                                (try rw [← Nbq38.out] at hx179_0)
                                (try rw [← Nbq41.out] at hx179_0)
                                obtain rfl : ad178 = ad179 := (by injection e179)
                                (try simp only [show (1 : Int).toNat = 1 from rfl, Nat.reduceMul, Nat.reduceEqDiff, Go.Addr.add, ↓reduceIte] at hx179_0)
                                have qi179 : (1 < t144.length) = True := eq_true (by omega)
                                (try rw [show ((1 : Int)).toNat = 1 from rfl] at hx179_0)
                                replace p179 := eq_true p179
                                replace q179 := eq_true q179
                                go_wp2
                                go_meet
                                case rel => exact ⟨_, (false), (by first | rfl | (simp; done) | (simp [*]; done)), H', ⟨by have := HJ5.out; have := HJ24.out; first | omega | exact Nat.le_refl _⟩, ⟨by (with_reducible repeat (first | apply Kd.R_alloc | apply Kd.R_drewN | apply Kd.R_drew)); exact HO_140001.out⟩, ⟨by (with_reducible repeat (first | refine blk_drewN ?_ _ | refine blk_drew ?_ | refine blk_alloc ?_ _)); exact BK139.out⟩, ⟨by repeat (first | (with_reducible first | exact HB.out | apply below_alloc | apply pw_below_drewN | apply below_drew1 | refine below_set ?_ GE139.out) | exact HB.out)⟩⟩
                            · rw [if_neg c40] at H
                              exact absurd H (by simp)
                          · replace c39 := Bool.eq_false_iff.mpr c39
                            subst c39
                            have H1 : (chargeparklaw21_head.j2 kj24 false 3 y136) = some r := by rw [if_neg (show ¬ (false = true) by decide)] at H; exact H
                            clear H
                            have H := H1
                            clear H1
                            have H' := Aside0.mk H
                            clear H
                            obtain ⟨Ao48, co48, eo48⟩ := Kd.R_slice HO_3.out
                            subst eo48
                            have p176 : 0 ≤ (0 : Int) := (by omega)
                            have q176 : 0 < (t141.length : Int) := of_decide_eq_true (by first | (with_reducible assumption) | assumption)
                            obtain ⟨ad176, e176, hx176_0⟩ := Kd.at_int (Kd.R_reads' HO_3.out).2.2 0 p176 q176
                            cases e176
                            have qi176 : (0 < t141.length) = True := eq_true (by omega)
                            (try rw [show ((0 : Int)).toNat = 0 from rfl] at hx176_0)
                            (try rw [Addr.add_zero'] at hx176_0)
                            replace p176 := eq_true p176
                            replace q176 := eq_true q176
                            have p177 : 0 ≤ (1 : Int) := (by omega)
                            have q177 : 1 < (t141.length : Int) := of_decide_eq_true (by first | (with_reducible assumption) | assumption)
                            obtain ⟨ad177, e177, hx177_0⟩ := Kd.at_int (Kd.R_reads' HO_3.out).2.2 1 p177 q177
                            obtain rfl : ad176 = ad177 := (by injection e177)
                            (try simp only [show (1 : Int).toNat = 1 from rfl, Nat.reduceMul, Nat.reduceEqDiff, Go.Addr.add, ↓reduceIte] at hx177_0)
                            have qi177 : (1 < t141.length) = True := eq_true (by omega)
                            (try rw [show ((1 : Int)).toNat = 1 from rfl] at hx177_0)
                            replace p177 := eq_true p177
                            replace q177 := eq_true q177
                            obtain ⟨Ao49, co49, eo49⟩ := Kd.R_slice HO_4.out
                            subst eo49
                            have p178 : 0 ≤ (0 : Int) := (by omega)
                            have q178 : 0 < (t144.length : Int) := of_decide_eq_true (by first | (with_reducible assumption) | assumption)
                            obtain ⟨ad178, e178, hx178_0⟩ := Kd.at_bool (Kd.R_reads' HO_4.out).2.2 0 p178 q178
                            (try rw [← Nbq38.out] at hx178_0)
                            cases e178
                            have qi178 : (0 < t144.length) = True := eq_true (by omega)
                            (try rw [show ((0 : Int)).toNat = 0 from rfl] at hx178_0)
                            (try rw [Addr.add_zero'] at hx178_0)
                            replace p178 := eq_true p178
                            replace q178 := eq_true q178
                            go_wp2
                            go_meet
                            case rel => exact ⟨_, (false), (by first | rfl | (simp; done) | (simp [*]; done)), H', ⟨by have := HJ5.out; have := HJ24.out; first | omega | exact Nat.le_refl _⟩, ⟨by (with_reducible repeat (first | apply Kd.R_alloc | apply Kd.R_drewN | apply Kd.R_drew)); exact HO_140001.out⟩, ⟨by (with_reducible repeat (first | refine blk_drewN ?_ _ | refine blk_drew ?_ | refine blk_alloc ?_ _)); exact BK139.out⟩, ⟨by repeat (first | (with_reducible first | exact HB.out | apply below_alloc | apply pw_below_drewN | apply below_drew1 | refine below_set ?_ GE139.out) | exact HB.out)⟩⟩
                        · rw [if_neg c37] at H
                          exact absurd H (by simp)
                      · rw [if_neg c36] at H
                        have c36b0 : ((rd t141 1) == 3) = false := beq_eq_false_iff_ne.mpr c36
                        have c36b1 : ((rd t141 1) != 3) = true := bne_iff_ne.mpr c36
                        have H' := Aside0.mk H
                        clear H
                        obtain ⟨Ao50, co50, eo50⟩ := Kd.R_slice HO_3.out
                        subst eo50
                        have p176 : 0 ≤ (0 : Int) := (by omega)
                        have q176 : 0 < (t141.length : Int) := of_decide_eq_true (by first | (with_reducible assumption) | assumption)
                        obtain ⟨ad176, e176, hx176_0⟩ := Kd.at_int (Kd.R_reads' HO_3.out).2.2 0 p176 q176
                        cases e176
                        have qi176 : (0 < t141.length) = True := eq_true (by omega)
                        (try rw [show ((0 : Int)).toNat = 0 from rfl] at hx176_0)
                        (try rw [Addr.add_zero'] at hx176_0)
                        replace p176 := eq_true p176
                        replace q176 := eq_true q176
                        have p177 : 0 ≤ (1 : Int) := (by omega)
                        have q177 : 1 < (t141.length : Int) := of_decide_eq_true (by first | (with_reducible assumption) | assumption)
                        obtain ⟨ad177, e177, hx177_0⟩ := Kd.at_int (Kd.R_reads' HO_3.out).2.2 1 p177 q177
                        obtain rfl : ad176 = ad177 := (by injection e177)
                        (try simp only [show (1 : Int).toNat = 1 from rfl, Nat.reduceMul, Nat.reduceEqDiff, Go.Addr.add, ↓reduceIte] at hx177_0)
                        have qi177 : (1 < t141.length) = True := eq_true (by omega)
                        (try rw [show ((1 : Int)).toNat = 1 from rfl] at hx177_0)
                        replace p177 := eq_true p177
                        replace q177 := eq_true q177
                        go_wp2
                        go_meet
                        case rel => exact ⟨_, (false), (by first | rfl | (simp; done) | (simp [*]; done)), H', ⟨by have := HJ5.out; have := HJ24.out; first | omega | exact Nat.le_refl _⟩, ⟨by (with_reducible repeat (first | apply Kd.R_alloc | apply Kd.R_drewN | apply Kd.R_drew)); exact HO_140001.out⟩, ⟨by (with_reducible repeat (first | refine blk_drewN ?_ _ | refine blk_drew ?_ | refine blk_alloc ?_ _)); exact BK139.out⟩, ⟨by repeat (first | (with_reducible first | exact HB.out | apply below_alloc | apply pw_below_drewN | apply below_drew1 | refine below_set ?_ GE139.out) | exact HB.out)⟩⟩
                    · rw [if_neg c35] at H
                      exact absurd H (by simp)
                  · rw [if_neg c34] at H
                    have c34b0 : ((rd t141 0) == 3) = false := beq_eq_false_iff_ne.mpr c34
                    have c34b1 : ((rd t141 0) != 3) = true := bne_iff_ne.mpr c34
                    have H' := Aside0.mk H
                    clear H
                    obtain ⟨Ao51, co51, eo51⟩ := Kd.R_slice HO_3.out
                    subst eo51
                    have p176 : 0 ≤ (0 : Int) := (by omega)
                    have q176 : 0 < (t141.length : Int) := of_decide_eq_true (by first | (with_reducible assumption) | assumption)
                    obtain ⟨ad176, e176, hx176_0⟩ := Kd.at_int (Kd.R_reads' HO_3.out).2.2 0 p176 q176
                    cases e176
                    have qi176 : (0 < t141.length) = True := eq_true (by omega)
                    (try rw [show ((0 : Int)).toNat = 0 from rfl] at hx176_0)
                    (try rw [Addr.add_zero'] at hx176_0)
                    replace p176 := eq_true p176
                    replace q176 := eq_true q176
                    go_wp2
                    go_meet
                    case rel => exact ⟨_, (false), (by first | rfl | (simp; done) | (simp [*]; done)), H', ⟨by have := HJ5.out; have := HJ24.out; first | omega | exact Nat.le_refl _⟩, ⟨by (with_reducible repeat (first | apply Kd.R_alloc | apply Kd.R_drewN | apply Kd.R_drew)); exact HO_140001.out⟩, ⟨by (with_reducible repeat (first | refine blk_drewN ?_ _ | refine blk_drew ?_ | refine blk_alloc ?_ _)); exact BK139.out⟩, ⟨by repeat (first | (with_reducible first | exact HB.out | apply below_alloc | apply pw_below_drewN | apply below_drew1 | refine below_set ?_ GE139.out) | exact HB.out)⟩⟩
                · rw [if_neg c33] at H
                  exact absurd H (by simp)
              · replace c32 := Bool.eq_false_iff.mpr c32
                subst c32
                have H1 : (chargeparklaw21_head.j2 kj24 false 3 y136) = some r := by rw [if_neg (show ¬ (false = true) by decide)] at H; exact H
                clear H
                have H := H1
                clear H1
                have H' := Aside0.mk H
                clear H
                go_wp2
                go_meet
                case rel => exact ⟨_, (false), (by first | rfl | (simp; done) | (simp [*]; done)), H', ⟨by have := HJ5.out; have := HJ24.out; first | omega | exact Nat.le_refl _⟩, ⟨by (with_reducible repeat (first | apply Kd.R_alloc | apply Kd.R_drewN | apply Kd.R_drew)); exact HO_140001.out⟩, ⟨by (with_reducible repeat (first | refine blk_drewN ?_ _ | refine blk_drew ?_ | refine blk_alloc ?_ _)); exact BK139.out⟩, ⟨by repeat (first | (with_reducible first | exact HB.out | apply below_alloc | apply pw_below_drewN | apply below_drew1 | refine below_set ?_ GE139.out) | exact HB.out)⟩⟩
            case rest =>
              clear HC31
              try clear c1
              try clear p1
              try clear q1
              try clear hx1
              try clear qi1
              try clear c2
              try clear p2
              try clear c3
              try clear q3
              try clear c4
              try clear q4
              try clear c10
              try clear c14
              try clear p17
              try clear q17
              try clear hx17
              try clear qi17
              try clear p18
              try clear q18
              try clear hx18
              try clear qi18
              try clear c19
              try clear c19b0
              try clear c19b1
              try clear c20
              try clear c20b0
              try clear c20b1
              try clear c21
              try clear c21b0
              try clear c21b1
              try clear c22
              try clear c22b0
              try clear c22b1
              try clear c23
              try clear c23b0
              try clear c23b1
              try clear c24
              try clear c24b0
              try clear c24b1
              try clear c26
              try clear c26b0
              try clear c26b1
              try clear c30
              try clear c32
              try clear c33
              try clear c33b0
              try clear c33b1
              try clear c34
              try clear c34b0
              try clear c34b1
              try clear c35
              try clear c35b0
              try clear c35b1
              try clear c36
              try clear c36b0
              try clear c36b1
              try clear c37
              try clear c37b0
              try clear c37b1
              try clear q38
              try clear c39
              try clear c40
              try clear c40b0
              try clear c40b1
              try clear q41
              try clear c42
              try clear c43
              try clear c43b0
              try clear c43b1
              try clear hcz11_0
              try clear hcz11_1
              try clear hcz17_0
              try clear hcz17_1
              try clear hfz11_0
              try clear hfz11_1
              try clear hfz17_0
              try clear hfz17_1
              try clear hx176_0
              try clear hx177_0
              try clear hx178_0
              try clear hx179_0
              try clear hx180_0
              try clear p176
              try clear p177
              try clear p178
              try clear p179
              try clear p180
              try clear p2
              try clear q176
              try clear q177
              try clear q178
              try clear q179
              try clear q180
              obtain ⟨kq, x18_30, rfl, HA, HJ30, HO_140001, BK139, HB⟩ := hcut
              cases kq with
              | zero => exact absurd HA.out (by simp [chargeparklaw21_head.j2])
              | succ kj30 =>
                have H := HA.out
                clear HA
                simp only [chargeparklaw21_head.j2] at H
                by_cases c52 : x18_30 = true
                · subst c52
                  have H1 : ((flow_Valid.f kj30 3 y136).bind fun t181 => (if t181 = true then ((flow_Valid.f kj30 0 ([] : List (S39))).bind fun t182 => (if t182 = true then (some false) else ((flow_Check.f kj30 3 y136 0 2 (([3, 3] : List Int)) (([true, true, false] : List Bool))).bind fun t189 => (if t189 = true then ((flow_Check.f kj30 3 y136 0 2 (([2, 2] : List Int)) (([true, true, false] : List Bool))).bind fun t196 => (some (!t196))) else (some false))))) else (some false))) = some r := by rw [if_pos rfl] at H; exact H
                  clear H
                  have H := H1
                  clear H1
                  replace H := Option.bind_eq_some_iff.mp H
                  obtain ⟨t181, A530, H⟩ := H
                  replace H : (if t181 = true then ((flow_Valid.f kj30 0 ([] : List (S39))).bind fun t182 => (if t182 = true then (some false) else ((flow_Check.f kj30 3 y136 0 2 (([3, 3] : List Int)) (([true, true, false] : List Bool))).bind fun t189 => (if t189 = true then ((flow_Check.f kj30 3 y136 0 2 (([2, 2] : List Int)) (([true, true, false] : List Bool))).bind fun t196 => (some (!t196))) else (some false))))) else (some false)) = some r := H
                  have A53 := Aside0.mk A530
                  clear A530
                  by_cases c54 : t181 = true
                  · subst c54
                    have H1 : ((flow_Valid.f kj30 0 ([] : List (S39))).bind fun t182 => (if t182 = true then (some false) else ((flow_Check.f kj30 3 y136 0 2 (([3, 3] : List Int)) (([true, true, false] : List Bool))).bind fun t189 => (if t189 = true then ((flow_Check.f kj30 3 y136 0 2 (([2, 2] : List Int)) (([true, true, false] : List Bool))).bind fun t196 => (some (!t196))) else (some false))))) = some r := by rw [if_pos rfl] at H; exact H
                    clear H
                    have H := H1
                    clear H1
                    replace H := Option.bind_eq_some_iff.mp H
                    obtain ⟨t182, A550, H⟩ := H
                    replace H : (if t182 = true then (some false) else ((flow_Check.f kj30 3 y136 0 2 (([3, 3] : List Int)) (([true, true, false] : List Bool))).bind fun t189 => (if t189 = true then ((flow_Check.f kj30 3 y136 0 2 (([2, 2] : List Int)) (([true, true, false] : List Bool))).bind fun t196 => (some (!t196))) else (some false)))) = some r := H
                    have A55 := Aside0.mk A550
                    clear A550
                    by_cases c56 : t182 = true
                    · subst c56
                      have H1 : (some false) = some r := by rw [if_pos rfl] at H; exact H
                      clear H
                      have H := H1
                      clear H1
                      obtain rfl := Option.some.inj H
                      have hcz57_0 : wc.cell? ⟨gb139, 0, none⟩ = some (.int .i64 3) := (blk_cell BK139.out 0).trans rfl
                      have hcz57_1 : wc.cell? ⟨gb139, 1, none⟩ = some (.slice Ao9 y136.length co9) := (blk_cell BK139.out 1).trans rfl
                      have hfz57_0 := blk_frozen BK139.out 0
                      have hfz57_1 := blk_frozen BK139.out 1
                      go_wp2_with (first | (go_at_call 16; (with_reducible refine (flow_Valid.calls kj30 3 _ _ y136 true _ ?side1 ?side2 A53.out).mono ?_); (case side1 => repeat (first | exact (Kd.R_reads' HO_140001.out).2.2 | (with_reducible refine Kd.C_alloc ?_ _) | (with_reducible refine Kd.C_drewN ?_ _) | (with_reducible refine Kd.C_drew ?_))); (case side2 => exact (Kd.R_reads' HO_140001.out).2.1); rintro e w58 ⟨rfl, hb⟩; have n0_ := Aside0.mk (Kd.R_below (by (with_reducible repeat (first | apply Kd.R_alloc | apply Kd.R_drewN | apply Kd.R_drew)); exact HO_140001.out) hb); have n1_ := Aside0.mk (blk_below (g := gb139) (o := .cells #[.int .i64 3, .slice Ao9 y136.length co9] 24 (0, 0)) (by (with_reducible repeat (first | refine blk_drewN ?_ _ | refine blk_drew ?_ | refine blk_alloc ?_ _)); exact BK139.out) hb); have n2_ := Aside0.mk (below_step (by repeat (first | (with_reducible first | exact HB.out | apply below_alloc | apply pw_below_drewN | apply below_drew1 | refine below_set ?_ GE139.out) | exact HB.out)) hb); clear HO_140001; clear BK139; clear HB; have HO_140001 := n0_; have BK139 := n1_; have HB := n2_; clear n0_ n1_ n2_; (try clear hb); (try clear hb2); (try clear hk); (try clear hi)) | (go_at_call 16; (refine (flow_Valid.calls kj30 0 _ _ ([] : List (S39)) true _ ?side1 ?side2 A55.out).mono ?_); (case side1 => exact Kd.C_nil _ _); (case side2 => exact Nat.le_refl _); rintro e w59 ⟨rfl, hb⟩; have n0_ := Aside0.mk (Kd.R_below (by (with_reducible repeat (first | apply Kd.R_alloc | apply Kd.R_drewN | apply Kd.R_drew)); exact HO_140001.out) hb); have n1_ := Aside0.mk (blk_below (g := gb139) (o := .cells #[.int .i64 3, .slice Ao9 y136.length co9] 24 (0, 0)) (by (with_reducible repeat (first | refine blk_drewN ?_ _ | refine blk_drew ?_ | refine blk_alloc ?_ _)); exact BK139.out) hb); have n2_ := Aside0.mk (below_step (by repeat (first | (with_reducible first | exact HB.out | apply below_alloc | apply pw_below_drewN | apply below_drew1 | refine below_set ?_ GE139.out) | exact HB.out)) hb); clear HO_140001; clear BK139; clear HB; have HO_140001 := n0_; have BK139 := n1_; have HB := n2_; clear n0_ n1_ n2_; (try clear hb); (try clear hb2); (try clear hk); (try clear hi)))
                      go_ret
                      exact ⟨by first | rfl | (simp [errW_none, errW_some] <;> rfl) | (simp [*, errW_none, errW_some] <;> rfl), by repeat (first | (with_reducible first | exact HB.out | apply below_alloc | apply pw_below_drewN | apply below_drew1 | refine below_set ?_ GE139.out) | exact HB.out)⟩
                    · replace c56 := Bool.eq_false_iff.mpr c56
                      subst c56
                      have H1 : ((flow_Check.f kj30 3 y136 0 2 (([3, 3] : List Int)) (([true, true, false] : List Bool))).bind fun t189 => (if t189 = true then ((flow_Check.f kj30 3 y136 0 2 (([2, 2] : List Int)) (([true, true, false] : List Bool))).bind fun t196 => (some (!t196))) else (some false))) = some r := by rw [if_neg (show ¬ (false = true) by decide)] at H; exact H
                      clear H
                      have H := H1
                      clear H1
                      obtain ⟨y183, hy183⟩ : ∃ y_ : List Int, y_ = (([3, 3] : List Int)) := ⟨_, rfl⟩
                      replace H : ((flow_Check.f kj30 3 y136 0 2 y183 (([true, true, false] : List Bool))).bind fun t189 => (if t189 = true then ((flow_Check.f kj30 3 y136 0 2 (([2, 2] : List Int)) (([true, true, false] : List Bool))).bind fun t196 => (some (!t196))) else (some false))) = some r := by first | (rw [hy183]; with_reducible exact H) | (have H2_ := (Option.bind_some _ _).symm.trans H; rw [hy183]; with_reducible exact H2_) | (have H2_ := (Option.bind_some _ _).symm.trans H; with_reducible exact H2_) | with_reducible exact H | (rw [hy183]; exact H) | exact H
                      have Ny183 := Aside0.mk hy183
                      clear hy183
                      obtain ⟨y186, hy186⟩ : ∃ y_ : List Bool, y_ = (([true, true, false] : List Bool)) := ⟨_, rfl⟩
                      replace H : ((flow_Check.f kj30 3 y136 0 2 y183 y186).bind fun t189 => (if t189 = true then ((flow_Check.f kj30 3 y136 0 2 (([2, 2] : List Int)) (([true, true, false] : List Bool))).bind fun t196 => (some (!t196))) else (some false))) = some r := by first | (rw [hy186]; with_reducible exact H) | (have H2_ := (Option.bind_some _ _).symm.trans H; rw [hy186]; with_reducible exact H2_) | (have H2_ := (Option.bind_some _ _).symm.trans H; with_reducible exact H2_) | with_reducible exact H | (rw [hy186]; exact H) | exact H
                      have Ny186 := Aside0.mk hy186
                      clear hy186
                      replace H := Option.bind_eq_some_iff.mp H
                      obtain ⟨t189, A600, H⟩ := H
                      replace H : (if t189 = true then ((flow_Check.f kj30 3 y136 0 2 (([2, 2] : List Int)) (([true, true, false] : List Bool))).bind fun t196 => (some (!t196))) else (some false)) = some r := H
                      have A60 := Aside0.mk A600
                      clear A600
                      by_cases c61 : t189 = true
                      · subst c61
                        have H1 : ((flow_Check.f kj30 3 y136 0 2 (([2, 2] : List Int)) (([true, true, false] : List Bool))).bind fun t196 => (some (!t196))) = some r := by rw [if_pos rfl] at H; exact H
                        clear H
                        have H := H1
                        clear H1
                        obtain ⟨y190, hy190⟩ : ∃ y_ : List Int, y_ = (([2, 2] : List Int)) := ⟨_, rfl⟩
                        replace H : ((flow_Check.f kj30 3 y136 0 2 y190 (([true, true, false] : List Bool))).bind fun t196 => (some (!t196))) = some r := by first | (rw [hy190]; with_reducible exact H) | (have H2_ := (Option.bind_some _ _).symm.trans H; rw [hy190]; with_reducible exact H2_) | (have H2_ := (Option.bind_some _ _).symm.trans H; with_reducible exact H2_) | with_reducible exact H | (rw [hy190]; exact H) | exact H
                        have Ny190 := Aside0.mk hy190
                        clear hy190
                        obtain ⟨y193, hy193⟩ : ∃ y_ : List Bool, y_ = (([true, true, false] : List Bool)) := ⟨_, rfl⟩
                        replace H : ((flow_Check.f kj30 3 y136 0 2 y190 y193).bind fun t196 => (some (!t196))) = some r := by first | (rw [hy193]; with_reducible exact H) | (have H2_ := (Option.bind_some _ _).symm.trans H; rw [hy193]; with_reducible exact H2_) | (have H2_ := (Option.bind_some _ _).symm.trans H; with_reducible exact H2_) | with_reducible exact H | (rw [hy193]; exact H) | exact H
                        have Ny193 := Aside0.mk hy193
                        clear hy193
                        replace H := Option.bind_eq_some_iff.mp H
                        obtain ⟨t196, A620, H⟩ := H
                        replace H : (some (!t196)) = some r := H
                        have A62 := Aside0.mk A620
                        clear A620
                        obtain rfl := Option.some.inj H
                        have hcz63_0 : wc.cell? ⟨gb139, 0, none⟩ = some (.int .i64 3) := (blk_cell BK139.out 0).trans rfl
                        have hcz63_1 : wc.cell? ⟨gb139, 1, none⟩ = some (.slice Ao9 y136.length co9) := (blk_cell BK139.out 1).trans rfl
                        have hfz63_0 := blk_frozen BK139.out 0
                        have hfz63_1 := blk_frozen BK139.out 1
                        go_wp2_with (first | (go_at_call 16; (with_reducible refine (flow_Valid.calls kj30 3 _ _ y136 true _ ?side1 ?side2 A53.out).mono ?_); (case side1 => repeat (first | exact (Kd.R_reads' HO_140001.out).2.2 | (with_reducible refine Kd.C_alloc ?_ _) | (with_reducible refine Kd.C_drewN ?_ _) | (with_reducible refine Kd.C_drew ?_))); (case side2 => exact (Kd.R_reads' HO_140001.out).2.1); rintro e w64 ⟨rfl, hb⟩; have n0_ := Aside0.mk (Kd.R_below (by (with_reducible repeat (first | apply Kd.R_alloc | apply Kd.R_drewN | apply Kd.R_drew)); exact HO_140001.out) hb); have n1_ := Aside0.mk (blk_below (g := gb139) (o := .cells #[.int .i64 3, .slice Ao9 y136.length co9] 24 (0, 0)) (by (with_reducible repeat (first | refine blk_drewN ?_ _ | refine blk_drew ?_ | refine blk_alloc ?_ _)); exact BK139.out) hb); have n2_ := Aside0.mk (below_step (by repeat (first | (with_reducible first | exact HB.out | apply below_alloc | apply pw_below_drewN | apply below_drew1 | refine below_set ?_ GE139.out) | exact HB.out)) hb); clear HO_140001; clear BK139; clear HB; have HO_140001 := n0_; have BK139 := n1_; have HB := n2_; clear n0_ n1_ n2_; (try clear hb); (try clear hb2); (try clear hk); (try clear hi)) | (go_at_call 16; (refine (flow_Valid.calls kj30 0 _ _ ([] : List (S39)) false _ ?side1 ?side2 A55.out).mono ?_); (case side1 => exact Kd.C_nil _ _); (case side2 => exact Nat.le_refl _); rintro e w65 ⟨rfl, hb⟩; have n0_ := Aside0.mk (Kd.R_below (by (with_reducible repeat (first | apply Kd.R_alloc | apply Kd.R_drewN | apply Kd.R_drew)); exact HO_140001.out) hb); have n1_ := Aside0.mk (blk_below (g := gb139) (o := .cells #[.int .i64 3, .slice Ao9 y136.length co9] 24 (0, 0)) (by (with_reducible repeat (first | refine blk_drewN ?_ _ | refine blk_drew ?_ | refine blk_alloc ?_ _)); exact BK139.out) hb); have n2_ := Aside0.mk (below_step (by repeat (first | (with_reducible first | exact HB.out | apply below_alloc | apply pw_below_drewN | apply below_drew1 | refine below_set ?_ GE139.out) | exact HB.out)) hb); clear HO_140001; clear BK139; clear HB; have HO_140001 := n0_; have BK139 := n1_; have HB := n2_; clear n0_ n1_ n2_; (try clear hb); (try clear hb2); (try clear hk); (try clear hi); have hcz66_0 : w65.cell? ⟨gb139, 0, none⟩ = some (.int .i64 3) := (blk_cell BK139.out 0).trans rfl; have hcz66_1 : w65.cell? ⟨gb139, 1, none⟩ = some (.slice Ao9 y136.length co9) := (blk_cell BK139.out 1).trans rfl; have hfz66_0 := blk_frozen BK139.out 0; have hfz66_1 := blk_frozen BK139.out 1) | ((with_reducible refine gate_dst (N := 126) rfl ?_); (try (refine gate_guard (by rfl) ?_; dsimp only)); refine Kd.R_lit (Kd.int .i64) _ 3 ?hg (N := 126) ?hd (xs := ([3, 3] : List Int)) (inner := [.int .i64 3, .int .i64 3]) (ok := fun _ => True) (okp := fun _ => True) ?hr ?hp (fun _ hk => hk) trivial (Below.refl _ _) (Nat.le_refl _) (by simp) ?_; (case hd => rfl); (case hg => rfl); (case hr => first | (go_simp; done) | (go_simp; rfl)); (case hp => exact (Reps.one (show Kd.M (Kd.int .i64) _ _ _ 3 [.int .i64 3] from rfl) (Reps.one (show Kd.M (Kd.int .i64) _ _ _ 3 [.int .i64 3] from rfl) (Reps.none _ _)))); intro v184 w67 ho68 hb hg_ hnew_; clear hg_ hnew_; (first | rw [← Ny183.out] at ho68 | (simp only [Int.reduceToNat] at ho68; rw [← Ny183.out] at ho68)); have n0_ := Aside0.mk (Kd.R_below (by (with_reducible repeat (first | apply Kd.R_alloc | apply Kd.R_drewN | apply Kd.R_drew)); exact HO_140001.out) hb); have n1_ := Aside0.mk (Kd.R_lower ho68 (below_size (by repeat (first | (with_reducible first | exact HB.out | apply below_alloc | apply pw_below_drewN | apply below_drew1 | refine below_set ?_ GE139.out) | exact HB.out)))); have n2_ := Aside0.mk (blk_below (g := gb139) (o := .cells #[.int .i64 3, .slice Ao9 y136.length co9] 24 (0, 0)) (by (with_reducible repeat (first | refine blk_drewN ?_ _ | refine blk_drew ?_ | refine blk_alloc ?_ _)); exact BK139.out) hb); have n3_ := Aside0.mk (below_step (by repeat (first | (with_reducible first | exact HB.out | apply below_alloc | apply pw_below_drewN | apply below_drew1 | refine below_set ?_ GE139.out) | exact HB.out)) hb); clear HO_140001; clear BK139; clear HB; have HO_140001 := n0_; have HO185 := n1_; have BK139 := n2_; have HB := n3_; clear n0_ n1_ n2_ n3_; clear hb ho68) | ((with_reducible refine gate_dst (N := 127) rfl ?_); (try (refine gate_guard (by rfl) ?_; dsimp only)); refine Kd.R_lit Kd.bool _ 4 ?hg (N := 127) ?hd (xs := ([true, true, false] : List Bool)) (inner := [.bool true, .bool true, .bool false]) (ok := fun _ => True) (okp := fun _ => True) ?hr ?hp (fun _ hk => hk) trivial (Below.refl _ _) (Nat.le_refl _) (by simp) ?_; (case hd => rfl); (case hg => rfl); (case hr => first | (go_simp; done) | (go_simp; rfl)); (case hp => exact (Reps.one (show Kd.M Kd.bool _ _ _ true [.bool true] from rfl) (Reps.one (show Kd.M Kd.bool _ _ _ true [.bool true] from rfl) (Reps.one (show Kd.M Kd.bool _ _ _ false [.bool false] from rfl) (Reps.none _ _))))); intro v187 w69 ho70 hb hg_ hnew_; clear hg_ hnew_; (first | rw [← Ny186.out] at ho70 | (simp only [Int.reduceToNat] at ho70; rw [← Ny186.out] at ho70)); have n0_ := Aside0.mk (Kd.R_below (by (with_reducible repeat (first | apply Kd.R_alloc | apply Kd.R_drewN | apply Kd.R_drew)); exact HO_140001.out) hb); have n1_ := Aside0.mk (Kd.R_below (by (with_reducible repeat (first | apply Kd.R_alloc | apply Kd.R_drewN | apply Kd.R_drew)); exact HO185.out) hb); have n2_ := Aside0.mk (Kd.R_lower ho70 (below_size (by repeat (first | (with_reducible first | exact HB.out | apply below_alloc | apply pw_below_drewN | apply below_drew1 | refine below_set ?_ GE139.out) | exact HB.out)))); have n3_ := Aside0.mk (blk_below (g := gb139) (o := .cells #[.int .i64 3, .slice Ao9 y136.length co9] 24 (0, 0)) (by (with_reducible repeat (first | refine blk_drewN ?_ _ | refine blk_drew ?_ | refine blk_alloc ?_ _)); exact BK139.out) hb); have n4_ := Aside0.mk (below_step (by repeat (first | (with_reducible first | exact HB.out | apply below_alloc | apply pw_below_drewN | apply below_drew1 | refine below_set ?_ GE139.out) | exact HB.out)) hb); clear HO_140001; clear HO185; clear BK139; clear HB; have HO_140001 := n0_; have HO185 := n1_; have HO188 := n2_; have BK139 := n3_; have HB := n4_; clear n0_ n1_ n2_ n3_ n4_; clear hb ho70; obtain ⟨Ao71, co71, eo71⟩ := Kd.R_slice HO185.out; subst eo71; obtain ⟨Ao72, co72, eo72⟩ := Kd.R_slice HO188.out; subst eo72) | (go_at_call 17; (with_reducible refine (flow_Check.calls kj30 3 _ _ y136 0 2 _ _ y183 _ _ y186 true _ ?side1 ?side2 ?side3 ?side4 ?side5 ?side6 A60.out).mono ?_); (case side1 => repeat (first | exact (Kd.R_reads' HO_140001.out).2.2 | (with_reducible refine Kd.C_alloc ?_ _) | (with_reducible refine Kd.C_drewN ?_ _) | (with_reducible refine Kd.C_drew ?_))); (case side2 => exact (Kd.R_reads' HO_140001.out).2.1); (case side3 => repeat (first | exact (Kd.R_reads' HO185.out).2.2 | (with_reducible refine Kd.C_alloc ?_ _) | (with_reducible refine Kd.C_drewN ?_ _) | (with_reducible refine Kd.C_drew ?_))); (case side4 => exact (Kd.R_reads' HO185.out).2.1); (case side5 => repeat (first | exact (Kd.R_reads' HO188.out).2.2 | (with_reducible refine Kd.C_alloc ?_ _) | (with_reducible refine Kd.C_drewN ?_ _) | (with_reducible refine Kd.C_drew ?_))); (case side6 => exact (Kd.R_reads' HO188.out).2.1); rintro e w73 ⟨rfl, hb⟩; have n0_ := Aside0.mk (Kd.R_below (by (with_reducible repeat (first | apply Kd.R_alloc | apply Kd.R_drewN | apply Kd.R_drew)); exact HO_140001.out) hb); have n1_ := Aside0.mk (Kd.R_below (by (with_reducible repeat (first | apply Kd.R_alloc | apply Kd.R_drewN | apply Kd.R_drew)); exact HO185.out) hb); have n2_ := Aside0.mk (Kd.R_below (by (with_reducible repeat (first | apply Kd.R_alloc | apply Kd.R_drewN | apply Kd.R_drew)); exact HO188.out) hb); have n3_ := Aside0.mk (blk_below (g := gb139) (o := .cells #[.int .i64 3, .slice Ao9 y136.length co9] 24 (0, 0)) (by (with_reducible repeat (first | refine blk_drewN ?_ _ | refine blk_drew ?_ | refine blk_alloc ?_ _)); exact BK139.out) hb); have n4_ := Aside0.mk (below_step (by repeat (first | (with_reducible first | exact HB.out | apply below_alloc | apply pw_below_drewN | apply below_drew1 | refine below_set ?_ GE139.out) | exact HB.out)) hb); clear HO_140001; clear HO185; clear HO188; clear BK139; clear HB; have HO_140001 := n0_; have HO185 := n1_; have HO188 := n2_; have BK139 := n3_; have HB := n4_; clear n0_ n1_ n2_ n3_ n4_; (try clear hb); (try clear hb2); (try clear hk); (try clear hi); have hcz74_0 : w73.cell? ⟨gb139, 0, none⟩ = some (.int .i64 3) := (blk_cell BK139.out 0).trans rfl; have hcz74_1 : w73.cell? ⟨gb139, 1, none⟩ = some (.slice Ao9 y136.length co9) := (blk_cell BK139.out 1).trans rfl; have hfz74_0 := blk_frozen BK139.out 0; have hfz74_1 := blk_frozen BK139.out 1) | ((with_reducible refine gate_dst (N := 132) rfl ?_); (try (refine gate_guard (by rfl) ?_; dsimp only)); refine Kd.R_lit (Kd.int .i64) _ 3 ?hg (N := 132) ?hd (xs := ([2, 2] : List Int)) (inner := [.int .i64 2, .int .i64 2]) (ok := fun _ => True) (okp := fun _ => True) ?hr ?hp (fun _ hk => hk) trivial (Below.refl _ _) (Nat.le_refl _) (by simp) ?_; (case hd => rfl); (case hg => rfl); (case hr => first | (go_simp; done) | (go_simp; rfl)); (case hp => exact (Reps.one (show Kd.M (Kd.int .i64) _ _ _ 2 [.int .i64 2] from rfl) (Reps.one (show Kd.M (Kd.int .i64) _ _ _ 2 [.int .i64 2] from rfl) (Reps.none _ _)))); intro v191 w75 ho76 hb hg_ hnew_; clear hg_ hnew_; (first | rw [← Ny190.out] at ho76 | (simp only [Int.reduceToNat] at ho76; rw [← Ny190.out] at ho76)); have n0_ := Aside0.mk (Kd.R_below (by (with_reducible repeat (first | apply Kd.R_alloc | apply Kd.R_drewN | apply Kd.R_drew)); exact HO_140001.out) hb); have n1_ := Aside0.mk (Kd.R_elder' (by (with_reducible repeat (first | apply Kd.R_alloc | apply Kd.R_drewN | apply Kd.R_drew)); exact HO185.out) (Kd.R_base ho76) hb); have n2_ := Aside0.mk (Kd.R_below (by (with_reducible repeat (first | apply Kd.R_alloc | apply Kd.R_drewN | apply Kd.R_drew)); exact HO188.out) hb); have n3_ := Aside0.mk (Kd.R_lower (Kd.R_new' ho76 (Kd.R_lt (by (with_reducible repeat (first | apply Kd.R_alloc | apply Kd.R_drewN | apply Kd.R_drew)); exact HO185.out))) (below_size (by repeat (first | (with_reducible first | exact HB.out | apply below_alloc | apply pw_below_drewN | apply below_drew1 | refine below_set ?_ GE139.out) | exact HB.out)))); have n4_ := Aside0.mk (blk_below (g := gb139) (o := .cells #[.int .i64 3, .slice Ao9 y136.length co9] 24 (0, 0)) (by (with_reducible repeat (first | refine blk_drewN ?_ _ | refine blk_drew ?_ | refine blk_alloc ?_ _)); exact BK139.out) hb); have n5_ := Aside0.mk (below_step (by repeat (first | (with_reducible first | exact HB.out | apply below_alloc | apply pw_below_drewN | apply below_drew1 | refine below_set ?_ GE139.out) | exact HB.out)) hb); clear HO_140001; clear HO185; clear HO188; clear BK139; clear HB; have HO_140001 := n0_; have HO185 := n1_; have HO188 := n2_; have HO192 := n3_; have BK139 := n4_; have HB := n5_; clear n0_ n1_ n2_ n3_ n4_ n5_; clear hb ho76) | ((with_reducible refine gate_dst (N := 133) rfl ?_); (try (refine gate_guard (by rfl) ?_; dsimp only)); refine Kd.R_lit Kd.bool _ 4 ?hg (N := 133) ?hd (xs := ([true, true, false] : List Bool)) (inner := [.bool true, .bool true, .bool false]) (ok := fun _ => True) (okp := fun _ => True) ?hr ?hp (fun _ hk => hk) trivial (Below.refl _ _) (Nat.le_refl _) (by simp) ?_; (case hd => rfl); (case hg => rfl); (case hr => first | (go_simp; done) | (go_simp; rfl)); (case hp => exact (Reps.one (show Kd.M Kd.bool _ _ _ true [.bool true] from rfl) (Reps.one (show Kd.M Kd.bool _ _ _ true [.bool true] from rfl) (Reps.one (show Kd.M Kd.bool _ _ _ false [.bool false] from rfl) (Reps.none _ _))))); intro v194 w77 ho78 hb hg_ hnew_; clear hg_ hnew_; (first | rw [← Ny193.out] at ho78 | (simp only [Int.reduceToNat] at ho78; rw [← Ny193.out] at ho78)); have n0_ := Aside0.mk (Kd.R_below (by (with_reducible repeat (first | apply Kd.R_alloc | apply Kd.R_drewN | apply Kd.R_drew)); exact HO_140001.out) hb); have n1_ := Aside0.mk (Kd.R_below (by (with_reducible repeat (first | apply Kd.R_alloc | apply Kd.R_drewN | apply Kd.R_drew)); exact HO185.out) hb); have n2_ := Aside0.mk (Kd.R_elder' (by (with_reducible repeat (first | apply Kd.R_alloc | apply Kd.R_drewN | apply Kd.R_drew)); exact HO188.out) (Kd.R_base ho78) hb); have n3_ := Aside0.mk (Kd.R_below (by (with_reducible repeat (first | apply Kd.R_alloc | apply Kd.R_drewN | apply Kd.R_drew)); exact HO192.out) hb); have n4_ := Aside0.mk (Kd.R_lower (Kd.R_new' ho78 (Kd.R_lt (by (with_reducible repeat (first | apply Kd.R_alloc | apply Kd.R_drewN | apply Kd.R_drew)); exact HO188.out))) (below_size (by repeat (first | (with_reducible first | exact HB.out | apply below_alloc | apply pw_below_drewN | apply below_drew1 | refine below_set ?_ GE139.out) | exact HB.out)))); have n5_ := Aside0.mk (blk_below (g := gb139) (o := .cells #[.int .i64 3, .slice Ao9 y136.length co9] 24 (0, 0)) (by (with_reducible repeat (first | refine blk_drewN ?_ _ | refine blk_drew ?_ | refine blk_alloc ?_ _)); exact BK139.out) hb); have n6_ := Aside0.mk (below_step (by repeat (first | (with_reducible first | exact HB.out | apply below_alloc | apply pw_below_drewN | apply below_drew1 | refine below_set ?_ GE139.out) | exact HB.out)) hb); clear HO_140001; clear HO185; clear HO188; clear HO192; clear BK139; clear HB; have HO_140001 := n0_; have HO185 := n1_; have HO188 := n2_; have HO192 := n3_; have HO195 := n4_; have BK139 := n5_; have HB := n6_; clear n0_ n1_ n2_ n3_ n4_ n5_ n6_; clear hb ho78; obtain ⟨Ao79, co79, eo79⟩ := Kd.R_slice HO192.out; subst eo79; obtain ⟨Ao80, co80, eo80⟩ := Kd.R_slice HO195.out; subst eo80) | (go_at_call 17; (with_reducible refine (flow_Check.calls kj30 3 _ _ y136 0 2 _ _ y190 _ _ y193 t196 _ ?side1 ?side2 ?side3 ?side4 ?side5 ?side6 A62.out).mono ?_); (case side1 => repeat (first | exact (Kd.R_reads' HO_140001.out).2.2 | (with_reducible refine Kd.C_alloc ?_ _) | (with_reducible refine Kd.C_drewN ?_ _) | (with_reducible refine Kd.C_drew ?_))); (case side2 => exact (Kd.R_reads' HO_140001.out).2.1); (case side3 => repeat (first | exact (Kd.R_reads' HO192.out).2.2 | (with_reducible refine Kd.C_alloc ?_ _) | (with_reducible refine Kd.C_drewN ?_ _) | (with_reducible refine Kd.C_drew ?_))); (case side4 => exact (Kd.R_reads' HO192.out).2.1); (case side5 => repeat (first | exact (Kd.R_reads' HO195.out).2.2 | (with_reducible refine Kd.C_alloc ?_ _) | (with_reducible refine Kd.C_drewN ?_ _) | (with_reducible refine Kd.C_drew ?_))); (case side6 => exact (Kd.R_reads' HO195.out).2.1); rintro e w81 ⟨rfl, hb⟩; have n0_ := Aside0.mk (Kd.R_below (by (with_reducible repeat (first | apply Kd.R_alloc | apply Kd.R_drewN | apply Kd.R_drew)); exact HO_140001.out) hb); have n1_ := Aside0.mk (Kd.R_below (by (with_reducible repeat (first | apply Kd.R_alloc | apply Kd.R_drewN | apply Kd.R_drew)); exact HO185.out) hb); have n2_ := Aside0.mk (Kd.R_below (by (with_reducible repeat (first | apply Kd.R_alloc | apply Kd.R_drewN | apply Kd.R_drew)); exact HO188.out) hb); have n3_ := Aside0.mk (Kd.R_below (by (with_reducible repeat (first | apply Kd.R_alloc | apply Kd.R_drewN | apply Kd.R_drew)); exact HO192.out) hb); have n4_ := Aside0.mk (Kd.R_below (by (with_reducible repeat (first | apply Kd.R_alloc | apply Kd.R_drewN | apply Kd.R_drew)); exact HO195.out) hb); have n5_ := Aside0.mk (blk_below (g := gb139) (o := .cells #[.int .i64 3, .slice Ao9 y136.length co9] 24 (0, 0)) (by (with_reducible repeat (first | refine blk_drewN ?_ _ | refine blk_drew ?_ | refine blk_alloc ?_ _)); exact BK139.out) hb); have n6_ := Aside0.mk (below_step (by repeat (first | (with_reducible first | exact HB.out | apply below_alloc | apply pw_below_drewN | apply below_drew1 | refine below_set ?_ GE139.out) | exact HB.out)) hb); clear HO_140001; clear HO185; clear HO188; clear HO192; clear HO195; clear BK139; clear HB; have HO_140001 := n0_; have HO185 := n1_; have HO188 := n2_; have HO192 := n3_; have HO195 := n4_; have BK139 := n5_; have HB := n6_; clear n0_ n1_ n2_ n3_ n4_ n5_ n6_; (try clear hb); (try clear hb2); (try clear hk); (try clear hi)))
                        go_ret
                        exact ⟨by first | rfl | (simp [errW_none, errW_some] <;> rfl) | (simp [*, errW_none, errW_some] <;> rfl), by repeat (first | (with_reducible first | exact HB.out | apply below_alloc | apply pw_below_drewN | apply below_drew1 | refine below_set ?_ GE139.out) | exact HB.out)⟩
                      · replace c61 := Bool.eq_false_iff.mpr c61
                        subst c61
                        have H1 : (some false) = some r := by rw [if_neg (show ¬ (false = true) by decide)] at H; exact H
                        clear H
                        have H := H1
                        clear H1
                        obtain rfl := Option.some.inj H
                        have hcz82_0 : wc.cell? ⟨gb139, 0, none⟩ = some (.int .i64 3) := (blk_cell BK139.out 0).trans rfl
                        have hcz82_1 : wc.cell? ⟨gb139, 1, none⟩ = some (.slice Ao9 y136.length co9) := (blk_cell BK139.out 1).trans rfl
                        have hfz82_0 := blk_frozen BK139.out 0
                        have hfz82_1 := blk_frozen BK139.out 1
                        go_wp2_with (first | (go_at_call 16; (with_reducible refine (flow_Valid.calls kj30 3 _ _ y136 true _ ?side1 ?side2 A53.out).mono ?_); (case side1 => repeat (first | exact (Kd.R_reads' HO_140001.out).2.2 | (with_reducible refine Kd.C_alloc ?_ _) | (with_reducible refine Kd.C_drewN ?_ _) | (with_reducible refine Kd.C_drew ?_))); (case side2 => exact (Kd.R_reads' HO_140001.out).2.1); rintro e w83 ⟨rfl, hb⟩; have n0_ := Aside0.mk (Kd.R_below (by (with_reducible repeat (first | apply Kd.R_alloc | apply Kd.R_drewN | apply Kd.R_drew)); exact HO_140001.out) hb); have n1_ := Aside0.mk (blk_below (g := gb139) (o := .cells #[.int .i64 3, .slice Ao9 y136.length co9] 24 (0, 0)) (by (with_reducible repeat (first | refine blk_drewN ?_ _ | refine blk_drew ?_ | refine blk_alloc ?_ _)); exact BK139.out) hb); have n2_ := Aside0.mk (below_step (by repeat (first | (with_reducible first | exact HB.out | apply below_alloc | apply pw_below_drewN | apply below_drew1 | refine below_set ?_ GE139.out) | exact HB.out)) hb); clear HO_140001; clear BK139; clear HB; have HO_140001 := n0_; have BK139 := n1_; have HB := n2_; clear n0_ n1_ n2_; (try clear hb); (try clear hb2); (try clear hk); (try clear hi)) | (go_at_call 16; (refine (flow_Valid.calls kj30 0 _ _ ([] : List (S39)) false _ ?side1 ?side2 A55.out).mono ?_); (case side1 => exact Kd.C_nil _ _); (case side2 => exact Nat.le_refl _); rintro e w84 ⟨rfl, hb⟩; have n0_ := Aside0.mk (Kd.R_below (by (with_reducible repeat (first | apply Kd.R_alloc | apply Kd.R_drewN | apply Kd.R_drew)); exact HO_140001.out) hb); have n1_ := Aside0.mk (blk_below (g := gb139) (o := .cells #[.int .i64 3, .slice Ao9 y136.length co9] 24 (0, 0)) (by (with_reducible repeat (first | refine blk_drewN ?_ _ | refine blk_drew ?_ | refine blk_alloc ?_ _)); exact BK139.out) hb); have n2_ := Aside0.mk (below_step (by repeat (first | (with_reducible first | exact HB.out | apply below_alloc | apply pw_below_drewN | apply below_drew1 | refine below_set ?_ GE139.out) | exact HB.out)) hb); clear HO_140001; clear BK139; clear HB; have HO_140001 := n0_; have BK139 := n1_; have HB := n2_; clear n0_ n1_ n2_; (try clear hb); (try clear hb2); (try clear hk); (try clear hi); have hcz85_0 : w84.cell? ⟨gb139, 0, none⟩ = some (.int .i64 3) := (blk_cell BK139.out 0).trans rfl; have hcz85_1 : w84.cell? ⟨gb139, 1, none⟩ = some (.slice Ao9 y136.length co9) := (blk_cell BK139.out 1).trans rfl; have hfz85_0 := blk_frozen BK139.out 0; have hfz85_1 := blk_frozen BK139.out 1) | ((with_reducible refine gate_dst (N := 126) rfl ?_); (try (refine gate_guard (by rfl) ?_; dsimp only)); refine Kd.R_lit (Kd.int .i64) _ 3 ?hg (N := 126) ?hd (xs := ([3, 3] : List Int)) (inner := [.int .i64 3, .int .i64 3]) (ok := fun _ => True) (okp := fun _ => True) ?hr ?hp (fun _ hk => hk) trivial (Below.refl _ _) (Nat.le_refl _) (by simp) ?_; (case hd => rfl); (case hg => rfl); (case hr => first | (go_simp; done) | (go_simp; rfl)); (case hp => exact (Reps.one (show Kd.M (Kd.int .i64) _ _ _ 3 [.int .i64 3] from rfl) (Reps.one (show Kd.M (Kd.int .i64) _ _ _ 3 [.int .i64 3] from rfl) (Reps.none _ _)))); intro v184 w86 ho87 hb hg_ hnew_; clear hg_ hnew_; (first | rw [← Ny183.out] at ho87 | (simp only [Int.reduceToNat] at ho87; rw [← Ny183.out] at ho87)); have n0_ := Aside0.mk (Kd.R_below (by (with_reducible repeat (first | apply Kd.R_alloc | apply Kd.R_drewN | apply Kd.R_drew)); exact HO_140001.out) hb); have n1_ := Aside0.mk (Kd.R_lower ho87 (below_size (by repeat (first | (with_reducible first | exact HB.out | apply below_alloc | apply pw_below_drewN | apply below_drew1 | refine below_set ?_ GE139.out) | exact HB.out)))); have n2_ := Aside0.mk (blk_below (g := gb139) (o := .cells #[.int .i64 3, .slice Ao9 y136.length co9] 24 (0, 0)) (by (with_reducible repeat (first | refine blk_drewN ?_ _ | refine blk_drew ?_ | refine blk_alloc ?_ _)); exact BK139.out) hb); have n3_ := Aside0.mk (below_step (by repeat (first | (with_reducible first | exact HB.out | apply below_alloc | apply pw_below_drewN | apply below_drew1 | refine below_set ?_ GE139.out) | exact HB.out)) hb); clear HO_140001; clear BK139; clear HB; have HO_140001 := n0_; have HO185 := n1_; have BK139 := n2_; have HB := n3_; clear n0_ n1_ n2_ n3_; clear hb ho87) | ((with_reducible refine gate_dst (N := 127) rfl ?_); (try (refine gate_guard (by rfl) ?_; dsimp only)); refine Kd.R_lit Kd.bool _ 4 ?hg (N := 127) ?hd (xs := ([true, true, false] : List Bool)) (inner := [.bool true, .bool true, .bool false]) (ok := fun _ => True) (okp := fun _ => True) ?hr ?hp (fun _ hk => hk) trivial (Below.refl _ _) (Nat.le_refl _) (by simp) ?_; (case hd => rfl); (case hg => rfl); (case hr => first | (go_simp; done) | (go_simp; rfl)); (case hp => exact (Reps.one (show Kd.M Kd.bool _ _ _ true [.bool true] from rfl) (Reps.one (show Kd.M Kd.bool _ _ _ true [.bool true] from rfl) (Reps.one (show Kd.M Kd.bool _ _ _ false [.bool false] from rfl) (Reps.none _ _))))); intro v187 w88 ho89 hb hg_ hnew_; clear hg_ hnew_; (first | rw [← Ny186.out] at ho89 | (simp only [Int.reduceToNat] at ho89; rw [← Ny186.out] at ho89)); have n0_ := Aside0.mk (Kd.R_below (by (with_reducible repeat (first | apply Kd.R_alloc | apply Kd.R_drewN | apply Kd.R_drew)); exact HO_140001.out) hb); have n1_ := Aside0.mk (Kd.R_below (by (with_reducible repeat (first | apply Kd.R_alloc | apply Kd.R_drewN | apply Kd.R_drew)); exact HO185.out) hb); have n2_ := Aside0.mk (Kd.R_lower ho89 (below_size (by repeat (first | (with_reducible first | exact HB.out | apply below_alloc | apply pw_below_drewN | apply below_drew1 | refine below_set ?_ GE139.out) | exact HB.out)))); have n3_ := Aside0.mk (blk_below (g := gb139) (o := .cells #[.int .i64 3, .slice Ao9 y136.length co9] 24 (0, 0)) (by (with_reducible repeat (first | refine blk_drewN ?_ _ | refine blk_drew ?_ | refine blk_alloc ?_ _)); exact BK139.out) hb); have n4_ := Aside0.mk (below_step (by repeat (first | (with_reducible first | exact HB.out | apply below_alloc | apply pw_below_drewN | apply below_drew1 | refine below_set ?_ GE139.out) | exact HB.out)) hb); clear HO_140001; clear HO185; clear BK139; clear HB; have HO_140001 := n0_; have HO185 := n1_; have HO188 := n2_; have BK139 := n3_; have HB := n4_; clear n0_ n1_ n2_ n3_ n4_; clear hb ho89; obtain ⟨Ao90, co90, eo90⟩ := Kd.R_slice HO185.out; subst eo90; obtain ⟨Ao91, co91, eo91⟩ := Kd.R_slice HO188.out; subst eo91) | (go_at_call 17; (with_reducible refine (flow_Check.calls kj30 3 _ _ y136 0 2 _ _ y183 _ _ y186 false _ ?side1 ?side2 ?side3 ?side4 ?side5 ?side6 A60.out).mono ?_); (case side1 => repeat (first | exact (Kd.R_reads' HO_140001.out).2.2 | (with_reducible refine Kd.C_alloc ?_ _) | (with_reducible refine Kd.C_drewN ?_ _) | (with_reducible refine Kd.C_drew ?_))); (case side2 => exact (Kd.R_reads' HO_140001.out).2.1); (case side3 => repeat (first | exact (Kd.R_reads' HO185.out).2.2 | (with_reducible refine Kd.C_alloc ?_ _) | (with_reducible refine Kd.C_drewN ?_ _) | (with_reducible refine Kd.C_drew ?_))); (case side4 => exact (Kd.R_reads' HO185.out).2.1); (case side5 => repeat (first | exact (Kd.R_reads' HO188.out).2.2 | (with_reducible refine Kd.C_alloc ?_ _) | (with_reducible refine Kd.C_drewN ?_ _) | (with_reducible refine Kd.C_drew ?_))); (case side6 => exact (Kd.R_reads' HO188.out).2.1); rintro e w92 ⟨rfl, hb⟩; have n0_ := Aside0.mk (Kd.R_below (by (with_reducible repeat (first | apply Kd.R_alloc | apply Kd.R_drewN | apply Kd.R_drew)); exact HO_140001.out) hb); have n1_ := Aside0.mk (Kd.R_below (by (with_reducible repeat (first | apply Kd.R_alloc | apply Kd.R_drewN | apply Kd.R_drew)); exact HO185.out) hb); have n2_ := Aside0.mk (Kd.R_below (by (with_reducible repeat (first | apply Kd.R_alloc | apply Kd.R_drewN | apply Kd.R_drew)); exact HO188.out) hb); have n3_ := Aside0.mk (blk_below (g := gb139) (o := .cells #[.int .i64 3, .slice Ao9 y136.length co9] 24 (0, 0)) (by (with_reducible repeat (first | refine blk_drewN ?_ _ | refine blk_drew ?_ | refine blk_alloc ?_ _)); exact BK139.out) hb); have n4_ := Aside0.mk (below_step (by repeat (first | (with_reducible first | exact HB.out | apply below_alloc | apply pw_below_drewN | apply below_drew1 | refine below_set ?_ GE139.out) | exact HB.out)) hb); clear HO_140001; clear HO185; clear HO188; clear BK139; clear HB; have HO_140001 := n0_; have HO185 := n1_; have HO188 := n2_; have BK139 := n3_; have HB := n4_; clear n0_ n1_ n2_ n3_ n4_; (try clear hb); (try clear hb2); (try clear hk); (try clear hi)))
                        go_ret
                        exact ⟨by first | rfl | (simp [errW_none, errW_some] <;> rfl) | (simp [*, errW_none, errW_some] <;> rfl), by repeat (first | (with_reducible first | exact HB.out | apply below_alloc | apply pw_below_drewN | apply below_drew1 | refine below_set ?_ GE139.out) | exact HB.out)⟩
                  · replace c54 := Bool.eq_false_iff.mpr c54
                    subst c54
                    have H1 : (some false) = some r := by rw [if_neg (show ¬ (false = true) by decide)] at H; exact H
                    clear H
                    have H := H1
                    clear H1
                    obtain rfl := Option.some.inj H
                    have hcz93_0 : wc.cell? ⟨gb139, 0, none⟩ = some (.int .i64 3) := (blk_cell BK139.out 0).trans rfl
                    have hcz93_1 : wc.cell? ⟨gb139, 1, none⟩ = some (.slice Ao9 y136.length co9) := (blk_cell BK139.out 1).trans rfl
                    have hfz93_0 := blk_frozen BK139.out 0
                    have hfz93_1 := blk_frozen BK139.out 1
                    go_wp2_with (first | (go_at_call 16; (with_reducible refine (flow_Valid.calls kj30 3 _ _ y136 false _ ?side1 ?side2 A53.out).mono ?_); (case side1 => repeat (first | exact (Kd.R_reads' HO_140001.out).2.2 | (with_reducible refine Kd.C_alloc ?_ _) | (with_reducible refine Kd.C_drewN ?_ _) | (with_reducible refine Kd.C_drew ?_))); (case side2 => exact (Kd.R_reads' HO_140001.out).2.1); rintro e w94 ⟨rfl, hb⟩; have n0_ := Aside0.mk (Kd.R_below (by (with_reducible repeat (first | apply Kd.R_alloc | apply Kd.R_drewN | apply Kd.R_drew)); exact HO_140001.out) hb); have n1_ := Aside0.mk (blk_below (g := gb139) (o := .cells #[.int .i64 3, .slice Ao9 y136.length co9] 24 (0, 0)) (by (with_reducible repeat (first | refine blk_drewN ?_ _ | refine blk_drew ?_ | refine blk_alloc ?_ _)); exact BK139.out) hb); have n2_ := Aside0.mk (below_step (by repeat (first | (with_reducible first | exact HB.out | apply below_alloc | apply pw_below_drewN | apply below_drew1 | refine below_set ?_ GE139.out) | exact HB.out)) hb); clear HO_140001; clear BK139; clear HB; have HO_140001 := n0_; have BK139 := n1_; have HB := n2_; clear n0_ n1_ n2_; (try clear hb); (try clear hb2); (try clear hk); (try clear hi)))
                    go_ret
                    exact ⟨by first | rfl | (simp [errW_none, errW_some] <;> rfl) | (simp [*, errW_none, errW_some] <;> rfl), by repeat (first | (with_reducible first | exact HB.out | apply below_alloc | apply pw_below_drewN | apply below_drew1 | refine below_set ?_ GE139.out) | exact HB.out)⟩
                · replace c52 := Bool.eq_false_iff.mpr c52
                  subst c52
                  have H1 : (some false) = some r := by rw [if_neg (show ¬ (false = true) by decide)] at H; exact H
                  clear H
                  have H := H1
                  clear H1
                  obtain rfl := Option.some.inj H
                  go_wp2
                  go_ret
                  exact ⟨by first | rfl | (simp [errW_none, errW_some] <;> rfl) | (simp [*, errW_none, errW_some] <;> rfl), by repeat (first | (with_reducible first | exact HB.out | apply below_alloc | apply pw_below_drewN | apply below_drew1 | refine below_set ?_ GE139.out) | exact HB.out)⟩

end Go.Proofs.Ytfjbbmgnfpeogaa.Pr
