-- Written by a program of this session over the kit's print.
import Derived.Test.YtfjbbmgnfpeogaaPr0
import Derived.Test.YtfjbbmgnfpeogaaPr1
namespace Go.Proofs.Ytfjbbmgnfpeogaa.Pr
open Go.RowKit Go.Proofs.YtfjbbmgnfpeogaaW.PrintWords Go.Proofs.YtfjbbmgnfpeogaaW.PrintLast Go.Proofs.YtfjbbmgnfpeogaaW.PrintMore
attribute [local go_sem] max2_int min2_int max_two min_two max_three min_three max_four min_four   -- for this text's walks alone
set_option linter.unusedVariables false
set_option linter.unusedSimpArgs false

/-! ### flow_Check: function 17 -/
mutual
def flow_Check.j0 : Nat → Int → Int → List Int → List Bool → Bool → Int → List (S39) → Option (Bool)
  | 0, _, _, _, _, _, _, _ => none
  | k + 1, x1, x2, x3, x4, x49, x112000, x112001 => if x49 = true then (some false) else (if 0 ≤ x112000 then (if (x112000 : Int).toNat ≤ 35184372088832 then (flow_Check.l0 k x1 x2 x3 x4 (List.replicate (x112000 : Int).toNat 0) 0 x112001 (x112001.length : Int) 0) else (none)) else (none))
def flow_Check.l0 : Nat → Int → Int → List Int → List Bool → List Int → Int → List (S39) → Int → Int → Option (Bool)
  | 0, _, _, _, _, _, _, _, _, _ => none
  | k + 1, x1, x2, x3, x4, x11, x12, x54, x55, x56 => if x56 < x55 then (if 0 ≤ x56 then (if x56 < (x54.length : Int) then (if x56 < (x3.length : Int) then (if (rd x3 x56) < 0 then (flow_Check.j2 k x1 x2 x3 x4 x11 x12 x56 x54 x55 x56 true ((rd_T39 x54 x56).f0) ((rd_T39 x54 x56).f1) ((rd_T39 x54 x56).f2)) else (flow_Check.j2 k x1 x2 x3 x4 x11 x12 x56 x54 x55 x56 (decide ((rd x3 x56) > ((rd_T39 x54 x56).f2))) ((rd_T39 x54 x56).f0) ((rd_T39 x54 x56).f1) ((rd_T39 x54 x56).f2))) else (none)) else (none)) else (none)) else (flow_Check.l1 k x1 x2 x11 x12 x11 (x11.length : Int) 0)
def flow_Check.j2 : Nat → Int → Int → List Int → List Bool → List Int → Int → Int → List (S39) → Int → Int → Bool → Int → Int → Int → Option (Bool)
  | 0, _, _, _, _, _, _, _, _, _, _, _, _, _, _ => none
  | k + 1, x1, x2, x3, x4, x11, x12, x13, x54, x55, x56, x74, x120000, x120001, x120002 => if x74 = true then (some false) else (if 0 ≤ x120000 then (if x120000 < (x11.length : Int) then (if 0 ≤ x13 then (if x13 < (x3.length : Int) then ((some (x11.set (x120000 : Int).toNat (wrap64 ((rd x11 x120000) + (rd x3 x13))) : List Int)).bind fun y124 => (if 0 ≤ x120001 then (if x120001 < (x11.length : Int) then ((some (y124.set (x120001 : Int).toNat (wrap64 ((rd y124 x120001) - (rd x3 x13))) : List Int)).bind fun y127 => (if x120000 < (x4.length : Int) then (if rdOf false x4 x120000 = true then (if x120001 < (x4.length : Int) then (if rdOf false x4 x120001 = true then (flow_Check.l0 k x1 x2 x3 x4 y127 x12 x54 x55 (wrap64 (x56 + 1))) else (flow_Check.l0 k x1 x2 x3 x4 y127 (wrap64 (x12 + x120002)) x54 x55 (wrap64 (x56 + 1)))) else (none)) else (flow_Check.l0 k x1 x2 x3 x4 y127 x12 x54 x55 (wrap64 (x56 + 1)))) else (none))) else (none)) else (none))) else (none)) else (none)) else (none)) else (none))
def flow_Check.l1 : Nat → Int → Int → List Int → Int → List Int → Int → Int → Option (Bool)
  | 0, _, _, _, _, _, _, _ => none
  | k + 1, x1, x2, x11, x12, x115, x116, x117 => if x117 < x116 then (if 0 ≤ x117 then (if x117 < (x115.length : Int) then (if x117 = x1 then (flow_Check.l1 k x1 x2 x11 x12 x115 x116 (wrap64 (x117 + 1))) else (if x117 = x2 then (flow_Check.l1 k x1 x2 x11 x12 x115 x116 (wrap64 (x117 + 1))) else (if (rd x115 x117) = 0 then (flow_Check.l1 k x1 x2 x11 x12 x115 x116 (wrap64 (x117 + 1))) else (some false)))) else (none)) else (none)) else (if 0 ≤ x1 then (if x1 < (x11.length : Int) then (some ((rd x11 x1) == x12)) else (none)) else (none))
end
def flow_Check.f (k : Nat) (a0_0 : Int) (l0_1 : List (S39)) (a1 : Int) (a2 : Int) (l3 : List Int) (l4 : List Bool) : Option (Bool) := (flow_areEnds.f k a0_0 l0_1 a1 a2).bind fun t112 => (if t112 = true then (if (l3.length : Int) = (l0_1.length : Int) then (if (l4.length : Int) = a0_0 then (if 0 ≤ a1 then (if a1 < (l4.length : Int) then (if rdOf false l4 a1 = true then (if 0 ≤ a2 then (if a2 < (l4.length : Int) then (flow_Check.j0 k a1 a2 l3 l4 (rdOf false l4 a2) a0_0 l0_1) else (none)) else (none)) else (flow_Check.j0 k a1 a2 l3 l4 true a0_0 l0_1)) else (none)) else (none)) else (flow_Check.j0 k a1 a2 l3 l4 true a0_0 l0_1)) else (flow_Check.j0 k a1 a2 l3 l4 true a0_0 l0_1)) else (flow_Check.j0 k a1 a2 l3 l4 true a0_0 l0_1))
theorem flow_Check.mono_l : ∀ k, (∀ y0 y1 y2 y3 y4 y5 y6, LeO (flow_Check.j0 k y0 y1 y2 y3 y4 y5 y6) (flow_Check.j0 (k + 1) y0 y1 y2 y3 y4 y5 y6)) ∧ (∀ y0 y1 y2 y3 y4 y5 y6 y7 y8, LeO (flow_Check.l0 k y0 y1 y2 y3 y4 y5 y6 y7 y8) (flow_Check.l0 (k + 1) y0 y1 y2 y3 y4 y5 y6 y7 y8)) ∧ (∀ y0 y1 y2 y3 y4 y5 y6 y7 y8 y9 y10 y11 y12 y13, LeO (flow_Check.j2 k y0 y1 y2 y3 y4 y5 y6 y7 y8 y9 y10 y11 y12 y13) (flow_Check.j2 (k + 1) y0 y1 y2 y3 y4 y5 y6 y7 y8 y9 y10 y11 y12 y13)) ∧ (∀ y0 y1 y2 y3 y4 y5 y6, LeO (flow_Check.l1 k y0 y1 y2 y3 y4 y5 y6) (flow_Check.l1 (k + 1) y0 y1 y2 y3 y4 y5 y6))
  | 0 => ⟨fun _ _ _ _ _ _ _ r h => by simp [flow_Check.j0] at h, fun _ _ _ _ _ _ _ _ _ r h => by simp [flow_Check.l0] at h, fun _ _ _ _ _ _ _ _ _ _ _ _ _ _ r h => by simp [flow_Check.j2] at h, fun _ _ _ _ _ _ _ r h => by simp [flow_Check.l1] at h⟩
  | k + 1 => by
    obtain ⟨ih0, ih1, ih2, ih3⟩ := flow_Check.mono_l k
    refine ⟨?_, ?_, ?_, ?_⟩
    · intro y0 y1 y2 y3 y4 y5 y6
      unfold flow_Check.j0
      repeat' first
      | (with_reducible exact ih0 _ _ _ _ _ _ _)
      | (with_reducible exact ih1 _ _ _ _ _ _ _ _ _)
      | (with_reducible exact ih2 _ _ _ _ _ _ _ _ _ _ _ _ _ _)
      | (with_reducible exact ih3 _ _ _ _ _ _ _)
      | (with_reducible exact flow_areEnds.mono _ _ _ _ _)
      | (with_reducible exact LeO.refl _)
      | (with_reducible exact LeO.none _)
      | (with_reducible refine LeO.ite ?_ ?_)
      | (with_reducible refine LeO.bind ?_ (fun _ => ?_))
      | exact ih0 _ _ _ _ _ _ _
      | exact ih1 _ _ _ _ _ _ _ _ _
      | exact ih2 _ _ _ _ _ _ _ _ _ _ _ _ _ _
      | exact ih3 _ _ _ _ _ _ _
      | exact flow_areEnds.mono _ _ _ _ _
      | exact LeO.none _
      | refine LeO.ite ?_ ?_
      | refine LeO.bind ?_ (fun _ => ?_)
    · intro y0 y1 y2 y3 y4 y5 y6 y7 y8
      unfold flow_Check.l0
      repeat' first
      | (with_reducible exact ih0 _ _ _ _ _ _ _)
      | (with_reducible exact ih1 _ _ _ _ _ _ _ _ _)
      | (with_reducible exact ih2 _ _ _ _ _ _ _ _ _ _ _ _ _ _)
      | (with_reducible exact ih3 _ _ _ _ _ _ _)
      | (with_reducible exact flow_areEnds.mono _ _ _ _ _)
      | (with_reducible exact LeO.refl _)
      | (with_reducible exact LeO.none _)
      | (with_reducible refine LeO.ite ?_ ?_)
      | (with_reducible refine LeO.bind ?_ (fun _ => ?_))
      | exact ih0 _ _ _ _ _ _ _
      | exact ih1 _ _ _ _ _ _ _ _ _
      | exact ih2 _ _ _ _ _ _ _ _ _ _ _ _ _ _
      | exact ih3 _ _ _ _ _ _ _
      | exact flow_areEnds.mono _ _ _ _ _
      | exact LeO.none _
      | refine LeO.ite ?_ ?_
      | refine LeO.bind ?_ (fun _ => ?_)
    · intro y0 y1 y2 y3 y4 y5 y6 y7 y8 y9 y10 y11 y12 y13
      unfold flow_Check.j2
      repeat' first
      | (with_reducible exact ih0 _ _ _ _ _ _ _)
      | (with_reducible exact ih1 _ _ _ _ _ _ _ _ _)
      | (with_reducible exact ih2 _ _ _ _ _ _ _ _ _ _ _ _ _ _)
      | (with_reducible exact ih3 _ _ _ _ _ _ _)
      | (with_reducible exact flow_areEnds.mono _ _ _ _ _)
      | (with_reducible exact LeO.refl _)
      | (with_reducible exact LeO.none _)
      | (with_reducible refine LeO.ite ?_ ?_)
      | (with_reducible refine LeO.bind ?_ (fun _ => ?_))
      | exact ih0 _ _ _ _ _ _ _
      | exact ih1 _ _ _ _ _ _ _ _ _
      | exact ih2 _ _ _ _ _ _ _ _ _ _ _ _ _ _
      | exact ih3 _ _ _ _ _ _ _
      | exact flow_areEnds.mono _ _ _ _ _
      | exact LeO.none _
      | refine LeO.ite ?_ ?_
      | refine LeO.bind ?_ (fun _ => ?_)
    · intro y0 y1 y2 y3 y4 y5 y6
      unfold flow_Check.l1
      repeat' first
      | (with_reducible exact ih0 _ _ _ _ _ _ _)
      | (with_reducible exact ih1 _ _ _ _ _ _ _ _ _)
      | (with_reducible exact ih2 _ _ _ _ _ _ _ _ _ _ _ _ _ _)
      | (with_reducible exact ih3 _ _ _ _ _ _ _)
      | (with_reducible exact flow_areEnds.mono _ _ _ _ _)
      | (with_reducible exact LeO.refl _)
      | (with_reducible exact LeO.none _)
      | (with_reducible refine LeO.ite ?_ ?_)
      | (with_reducible refine LeO.bind ?_ (fun _ => ?_))
      | exact ih0 _ _ _ _ _ _ _
      | exact ih1 _ _ _ _ _ _ _ _ _
      | exact ih2 _ _ _ _ _ _ _ _ _ _ _ _ _ _
      | exact ih3 _ _ _ _ _ _ _
      | exact flow_areEnds.mono _ _ _ _ _
      | exact LeO.none _
      | refine LeO.ite ?_ ?_
      | refine LeO.bind ?_ (fun _ => ?_)
theorem flow_Check.mono : ∀ a0 a1 a2 a3 a4 a5 k, LeO (flow_Check.f k a0 a1 a2 a3 a4 a5) (flow_Check.f (k + 1) a0 a1 a2 a3 a4 a5) := by
  intro a0 a1 a2 a3 a4 a5 k
  obtain ⟨ih0, ih1, ih2, ih3⟩ := flow_Check.mono_l k
  unfold flow_Check.f
  repeat' first
      | (with_reducible exact ih0 _ _ _ _ _ _ _)
      | (with_reducible exact ih1 _ _ _ _ _ _ _ _ _)
      | (with_reducible exact ih2 _ _ _ _ _ _ _ _ _ _ _ _ _ _)
      | (with_reducible exact ih3 _ _ _ _ _ _ _)
      | (with_reducible exact flow_areEnds.mono _ _ _ _ _)
      | (with_reducible exact LeO.refl _)
      | (with_reducible exact LeO.none _)
      | (with_reducible refine LeO.ite ?_ ?_)
      | (with_reducible refine LeO.bind ?_ (fun _ => ?_))
      | exact ih0 _ _ _ _ _ _ _
      | exact ih1 _ _ _ _ _ _ _ _ _
      | exact ih2 _ _ _ _ _ _ _ _ _ _ _ _ _ _
      | exact ih3 _ _ _ _ _ _ _
      | exact flow_areEnds.mono _ _ _ _ _
      | exact LeO.none _
      | refine LeO.ite ?_ ?_
      | refine LeO.bind ?_ (fun _ => ?_)
def flow_Check.T8 : Bool × List (List Nat × List Nat) := (true, [([], []), ([], []), ([0, 1], [0, 1]), ([2], [2]), ([3], [3]), ([4], [4]), ([5], [5]), ([5], [5]), ([6, 7, 5], [5, 6, 7]), ([8, 5], [5, 8]), ([5], [5]), ([10, 5], [5, 10]), ([9, 11, 5], [5, 9, 11]), ([5, 12], [5, 12])])
def flow_Check.B8 : List Nat := [0, 0, 3, 7, 15, 31, 63, 63, 255, 511, 63, 1087, 4095, 8191]
theorem flow_Check.tab8 : rtab .any (opsOf Try.f17 8) = flow_Check.T8 := by kernel_rfl
theorem flow_Check.bits8 : waitsOk flow_Check.T8.2 flow_Check.B8 = true := by kernel_rfl
def flow_Check.T10 : Bool × List (List Nat × List Nat) := (true, [([], []), ([], []), ([1], [1]), ([0, 2], [0, 2]), ([3], [3]), ([], []), ([], []), ([5, 6], [5, 6]), ([7], [7]), ([4, 8], [4, 8]), ([0, 2, 0, 1, 2, 3, 4, 5, 6, 7, 8, 9], [0, 2]), ([10, 9, 0, 1, 2, 3, 4, 5, 6, 7, 8, 9], [9, 10])])
def flow_Check.B10 : List Nat := [0, 0, 2, 7, 15, 0, 0, 96, 224, 511, 1023, 2047]
theorem flow_Check.tab10 : rtab .any (opsOf Try.f17 10) = flow_Check.T10 := by kernel_rfl
theorem flow_Check.bits10 : waitsOk flow_Check.T10.2 flow_Check.B10 = true := by kernel_rfl
def flow_Check.T11 : Bool × List (List Nat × List Nat) := (true, [([], []), ([], []), ([1], [1]), ([0, 2], [0, 2]), ([3], [3]), ([], []), ([], []), ([5, 6], [5, 6]), ([7], [7]), ([4, 8], [4, 8]), ([0, 2, 0, 1, 2, 3, 4, 5, 6, 7, 8, 9], [0, 2]), ([10, 9, 0, 1, 2, 3, 4, 5, 6, 7, 8, 9], [9, 10])])
def flow_Check.B11 : List Nat := [0, 0, 2, 7, 15, 0, 0, 96, 224, 511, 1023, 2047]
theorem flow_Check.tab11 : rtab .any (opsOf Try.f17 11) = flow_Check.T11 := by kernel_rfl
theorem flow_Check.bits11 : waitsOk flow_Check.T11.2 flow_Check.B11 = true := by kernel_rfl
set_option maxHeartbeats 8000000 in
set_option maxRecDepth 100000 in
theorem flow_Check.calls (k : Nat) (a0_0 : Int) (A0_1 : Option Addr) (c0_1 : Nat) (l0_1 : List (S39)) (a1 : Int) (a2 : Int) (A3 : Option Addr) (c3 : Nat) (l3 : List Int) (A4 : Option Addr) (c4 : Nat) (l4 : List Bool) (r : Bool) (w : World) (hr0_1 : Kd.C k39 w A0_1 l0_1.length l0_1) (hc0_1 : l0_1.length ≤ c0_1) (hr3 : Kd.C (Kd.int .i64) w A3 l3.length l3) (hc3 : l3.length ≤ c3) (hr4 : Kd.C Kd.bool w A4 l4.length l4) (hc4 : l4.length ≤ c4) (h : flow_Check.f k a0_0 l0_1 a1 a2 l3 l4 = some r) :
    Calls Try.prog 17 #[.agg #[.int .i64 a0_0, .slice A0_1 l0_1.length c0_1], .int .i64 a1, .int .i64 a2, .slice A3 l3.length c3, .slice A4 l4.length c4] w fun e w' => e = .returned (.bool r) ∧ Below w.heap.size w w' := by
  have hu24 := Try.underlying24
  have hu39 := Try.underlying39
  have HR0_1 := Aside0.mk hr0_1
  have HC0_1 := Aside0.mk hc0_1
  clear hr0_1 hc0_1
  have HR3 := Aside0.mk hr3
  have HC3 := Aside0.mk hc3
  clear hr3 hc3
  have HR4 := Aside0.mk hr4
  have HC4 := Aside0.mk hc4
  clear hr4 hc4
  have HB := Aside0.mk (Below.refl w.heap.size w)
  have H : ((flow_areEnds.f k a0_0 l0_1 a1 a2).bind fun t112 => (if t112 = true then (if (l3.length : Int) = (l0_1.length : Int) then (if (l4.length : Int) = a0_0 then (if 0 ≤ a1 then (if a1 < (l4.length : Int) then (if rdOf false l4 a1 = true then (if 0 ≤ a2 then (if a2 < (l4.length : Int) then (flow_Check.j0 k a1 a2 l3 l4 (rdOf false l4 a2) a0_0 l0_1) else (none)) else (none)) else (flow_Check.j0 k a1 a2 l3 l4 true a0_0 l0_1)) else (none)) else (none)) else (flow_Check.j0 k a1 a2 l3 l4 true a0_0 l0_1)) else (flow_Check.j0 k a1 a2 l3 l4 true a0_0 l0_1)) else (flow_Check.j0 k a1 a2 l3 l4 true a0_0 l0_1))) = some r := h
  clear h
  have HC6 := Aside0.mk H
  clear H
  go_enter Try.func17, Try.ntmps17
  go_upto_region 1 with (first | ((with_reducible refine gate_dst (N := 5) rfl ?_); (try (refine gate_guard (by rfl) ?_; dsimp only)); refine box_event ?hg (N := 5) ?hd (cs := #[.int .i64 a0_0, .slice A0_1 l0_1.length c0_1]) (t := 24) ?hr ?_; (case hd => rfl); (case hg => rfl); (case hr => first | (go_simp; done) | (go_simp; rfl)); intro gb111 hg w7 hbox hb; have n0_ := Aside0.mk (below_step (by repeat (first | (with_reducible first | exact HB.out | apply below_alloc | apply pw_below_drewN | apply below_drew1) | exact HB.out)) hb); have n1_ := Aside0.mk (hbox); have n2_ := Aside0.mk ((by rw [hg]; exact (below_size (by repeat (first | (with_reducible first | exact HB.out | apply below_alloc | apply pw_below_drewN | apply below_drew1) | exact HB.out))) : w.heap.size ≤ gb111)); have n3_ := Aside0.mk ((by rw [hg]; exact (below_size (by repeat (first | (with_reducible first | exact HB.out | apply below_alloc | apply pw_below_drewN | apply below_drew1) | exact HB.out))) : w.heap.size ≤ gb111)); clear HB; have HB := n0_; have BK111 := n1_; have GW111 := n2_; have GE111 := n3_; clear n0_ n1_ n2_ n3_; clear hb hbox hg))
  (try simp only [Act.put, List.setIfInBounds_toArray, List.set_cons_zero, List.set_cons_succ])
  go_cut [49] (fun v49 wc => ∃ (kq : Nat) (x49_5 : Bool), v49 = .bool x49_5 ∧ Aside0 (flow_Check.j0 kq a1 a2 l3 l4 x49_5 a0_0 l0_1 = some r) ∧ Aside0 (kq ≤ k) ∧ Aside0 (wc.heap[gb111]? = some (.cells #[.int .i64 a0_0, (.slice A0_1 l0_1.length c0_1)] 24 (0, 0))) ∧ Aside0 (Below w.heap.size w wc))
  case first =>
    have H := HC6.out
    clear HC6
    replace H := Option.bind_eq_some_iff.mp H
    obtain ⟨t112, A80, H⟩ := H
    replace H : (if t112 = true then (if (l3.length : Int) = (l0_1.length : Int) then (if (l4.length : Int) = a0_0 then (if 0 ≤ a1 then (if a1 < (l4.length : Int) then (if rdOf false l4 a1 = true then (if 0 ≤ a2 then (if a2 < (l4.length : Int) then (flow_Check.j0 k a1 a2 l3 l4 (rdOf false l4 a2) a0_0 l0_1) else (none)) else (none)) else (flow_Check.j0 k a1 a2 l3 l4 true a0_0 l0_1)) else (none)) else (none)) else (flow_Check.j0 k a1 a2 l3 l4 true a0_0 l0_1)) else (flow_Check.j0 k a1 a2 l3 l4 true a0_0 l0_1)) else (flow_Check.j0 k a1 a2 l3 l4 true a0_0 l0_1)) = some r := H
    have A8 := Aside0.mk A80
    clear A80
    by_cases c9 : t112 = true
    · subst c9
      have H1 : (if (l3.length : Int) = (l0_1.length : Int) then (if (l4.length : Int) = a0_0 then (if 0 ≤ a1 then (if a1 < (l4.length : Int) then (if rdOf false l4 a1 = true then (if 0 ≤ a2 then (if a2 < (l4.length : Int) then (flow_Check.j0 k a1 a2 l3 l4 (rdOf false l4 a2) a0_0 l0_1) else (none)) else (none)) else (flow_Check.j0 k a1 a2 l3 l4 true a0_0 l0_1)) else (none)) else (none)) else (flow_Check.j0 k a1 a2 l3 l4 true a0_0 l0_1)) else (flow_Check.j0 k a1 a2 l3 l4 true a0_0 l0_1)) = some r := by rw [if_pos rfl] at H; exact H
      clear H
      have H := H1
      clear H1
      by_cases c10 : (l3.length : Int) = (l0_1.length : Int)
      · rw [if_pos c10] at H
        have c10b0 : ((l3.length : Int) == (l0_1.length : Int)) = true := beq_iff_eq.mpr c10
        have c10b1 : ((l3.length : Int) != (l0_1.length : Int)) = false := bne_eq_false_iff_eq.mpr c10
        have c10b2 : (l3.length == l0_1.length) = true := by first | simpa using c10 | (simp at c10 ⊢; omega)
        clear c10
        (first | rw [c10b0] | (simp only [i64_w, i32_w]; rw [c10b0]) | skip)
        by_cases c11 : (l4.length : Int) = a0_0
        · rw [if_pos c11] at H
          have c11b0 : ((l4.length : Int) == a0_0) = true := beq_iff_eq.mpr c11
          have c11b1 : ((l4.length : Int) != a0_0) = false := bne_eq_false_iff_eq.mpr c11
          clear c11
          by_cases c12 : 0 ≤ a1
          · rw [if_pos c12] at H
            have c12b0 : decide (0 ≤ a1) = true := decide_eq_true c12
            clear c12
            by_cases c13 : a1 < (l4.length : Int)
            · rw [if_pos c13] at H
              have c13b0 : decide (a1 < (l4.length : Int)) = true := decide_eq_true c13
              clear c13
              obtain ⟨bq14, hbq14⟩ : ∃ b_ : Bool, b_ = (rdOf false l4 a1) := ⟨_, rfl⟩
              replace H : (if bq14 = true then (if 0 ≤ a2 then (if a2 < (l4.length : Int) then (flow_Check.j0 k a1 a2 l3 l4 (rdOf false l4 a2) a0_0 l0_1) else (none)) else (none)) else (flow_Check.j0 k a1 a2 l3 l4 true a0_0 l0_1)) = some r := by rw [← hbq14] at H; exact H
              have Nbq14 := Aside0.mk hbq14
              clear hbq14
              by_cases c15 : bq14 = true
              · subst c15
                have H1 : (if 0 ≤ a2 then (if a2 < (l4.length : Int) then (flow_Check.j0 k a1 a2 l3 l4 (rdOf false l4 a2) a0_0 l0_1) else (none)) else (none)) = some r := by rw [if_pos rfl] at H; exact H
                clear H
                have H := H1
                clear H1
                by_cases c16 : 0 ≤ a2
                · rw [if_pos c16] at H
                  have c16b0 : decide (0 ≤ a2) = true := decide_eq_true c16
                  clear c16
                  by_cases c17 : a2 < (l4.length : Int)
                  · rw [if_pos c17] at H
                    have c17b0 : decide (a2 < (l4.length : Int)) = true := decide_eq_true c17
                    clear c17
                    have H' := Aside0.mk H
                    clear H
                    have hcz18_0 : w7.cell? ⟨gb111, 0, none⟩ = some (.int .i64 a0_0) := (blk_cell BK111.out 0).trans rfl
                    have hcz18_1 : w7.cell? ⟨gb111, 1, none⟩ = some (.slice A0_1 l0_1.length c0_1) := (blk_cell BK111.out 1).trans rfl
                    have hfz18_0 := blk_frozen BK111.out 0
                    have hfz18_1 := blk_frozen BK111.out 1
                    go_wp2_with (first | ((with_reducible refine gate_callee (f := 24) rfl ?_); refine goesL_ (some 20) rfl rfl Try.func24 (by kernel_rfl) rfl #[.agg #[.int .i64 a0_0, .slice A0_1 l0_1.length c0_1], .int .i64 a1, .int .i64 a2] rfl (by (try simp only [List.map_toArray, List.map_cons, List.map_nil]); first | done | rfl | (simp only [List.length_drop, List.length_take]; rfl)) ?_; (with_reducible refine (flow_areEnds.calls k a0_0 _ _ l0_1 a1 a2 true _ ?side1 ?side2 A8.out).mono ?_); (case side1 => repeat (first | exact (Kd.C_below HR0_1.out HB.out) | (with_reducible refine Kd.C_alloc ?_ _) | (with_reducible refine Kd.C_drewN ?_ _) | (with_reducible refine Kd.C_drew ?_))); (case side2 => exact HC0_1.out); rintro e w19 ⟨rfl, hb⟩; refine ⟨_, rfl, ?_⟩; have n0_ := Aside0.mk (blk_below (g := gb111) (o := .cells #[.int .i64 a0_0, .slice A0_1 l0_1.length c0_1] 24 (0, 0)) (by (with_reducible repeat (first | refine blk_drewN ?_ _ | refine blk_drew ?_ | refine blk_alloc ?_ _)); exact BK111.out) hb); have n1_ := Aside0.mk (below_step (by repeat (first | (with_reducible first | exact HB.out | apply below_alloc | apply pw_below_drewN | apply below_drew1 | refine below_set ?_ GE111.out) | exact HB.out)) hb); clear BK111; clear HB; have BK111 := n0_; have HB := n1_; clear n0_ n1_; (try clear hb); (try clear hb2); (try clear hk); (try clear hi); have hcz20_0 : w19.cell? ⟨gb111, 0, none⟩ = some (.int .i64 a0_0) := (blk_cell BK111.out 0).trans rfl; have hcz20_1 : w19.cell? ⟨gb111, 1, none⟩ = some (.slice A0_1 l0_1.length c0_1) := (blk_cell BK111.out 1).trans rfl; have hfz20_0 := blk_frozen BK111.out 0; have hfz20_1 := blk_frozen BK111.out 1; have p113 : 0 ≤ (a1 : Int) := of_decide_eq_true (by first | (with_reducible assumption) | assumption); have q113 : a1 < (l4.length : Int) := of_decide_eq_true (by first | (with_reducible assumption) | assumption); obtain ⟨ad113, e113, hx113_0⟩ := Kd.at_bool HR4.out a1 p113 q113; (try rw [← Nbq14.out] at hx113_0); cases e113; replace hx113_0 := (HB.out.cell (World.block_lt_of_cell? w _ hx113_0)).trans hx113_0; replace p113 := eq_true p113; replace q113 := eq_true q113; have p114 : 0 ≤ (a2 : Int) := of_decide_eq_true (by first | (with_reducible assumption) | assumption); have q114 : a2 < (l4.length : Int) := of_decide_eq_true (by first | (with_reducible assumption) | assumption); obtain ⟨ad114, e114, hx114_0⟩ := Kd.at_bool HR4.out a2 p114 q114; (try rw [← Nbq14.out] at hx114_0); obtain rfl : ad113 = ad114 := (by injection e114); replace hx114_0 := (HB.out.cell (World.block_lt_of_cell? w _ hx114_0)).trans hx114_0; replace p114 := eq_true p114; replace q114 := eq_true q114))
                    go_meet
                    case rel => exact ⟨_, (rdOf false l4 a2), (by first | rfl | (simp; done) | (simp [*]; done)), H', ⟨by first | omega | exact Nat.le_refl _⟩, ⟨by (with_reducible repeat (first | refine blk_drewN ?_ _ | refine blk_drew ?_ | refine blk_alloc ?_ _)); exact BK111.out⟩, ⟨by repeat (first | (with_reducible first | exact HB.out | apply below_alloc | apply pw_below_drewN | apply below_drew1 | refine below_set ?_ GE111.out) | exact HB.out)⟩⟩
                  · rw [if_neg c17] at H
                    exact absurd H (by simp)
                · rw [if_neg c16] at H
                  exact absurd H (by simp)
              · replace c15 := Bool.eq_false_iff.mpr c15
                subst c15
                have H1 : (flow_Check.j0 k a1 a2 l3 l4 true a0_0 l0_1) = some r := by rw [if_neg (show ¬ (false = true) by decide)] at H; exact H
                clear H
                have H := H1
                clear H1
                have H' := Aside0.mk H
                clear H
                have hcz21_0 : w7.cell? ⟨gb111, 0, none⟩ = some (.int .i64 a0_0) := (blk_cell BK111.out 0).trans rfl
                have hcz21_1 : w7.cell? ⟨gb111, 1, none⟩ = some (.slice A0_1 l0_1.length c0_1) := (blk_cell BK111.out 1).trans rfl
                have hfz21_0 := blk_frozen BK111.out 0
                have hfz21_1 := blk_frozen BK111.out 1
                go_wp2_with (first | ((with_reducible refine gate_callee (f := 24) rfl ?_); refine goesL_ (some 20) rfl rfl Try.func24 (by kernel_rfl) rfl #[.agg #[.int .i64 a0_0, .slice A0_1 l0_1.length c0_1], .int .i64 a1, .int .i64 a2] rfl (by (try simp only [List.map_toArray, List.map_cons, List.map_nil]); first | done | rfl | (simp only [List.length_drop, List.length_take]; rfl)) ?_; (with_reducible refine (flow_areEnds.calls k a0_0 _ _ l0_1 a1 a2 true _ ?side1 ?side2 A8.out).mono ?_); (case side1 => repeat (first | exact (Kd.C_below HR0_1.out HB.out) | (with_reducible refine Kd.C_alloc ?_ _) | (with_reducible refine Kd.C_drewN ?_ _) | (with_reducible refine Kd.C_drew ?_))); (case side2 => exact HC0_1.out); rintro e w22 ⟨rfl, hb⟩; refine ⟨_, rfl, ?_⟩; have n0_ := Aside0.mk (blk_below (g := gb111) (o := .cells #[.int .i64 a0_0, .slice A0_1 l0_1.length c0_1] 24 (0, 0)) (by (with_reducible repeat (first | refine blk_drewN ?_ _ | refine blk_drew ?_ | refine blk_alloc ?_ _)); exact BK111.out) hb); have n1_ := Aside0.mk (below_step (by repeat (first | (with_reducible first | exact HB.out | apply below_alloc | apply pw_below_drewN | apply below_drew1 | refine below_set ?_ GE111.out) | exact HB.out)) hb); clear BK111; clear HB; have BK111 := n0_; have HB := n1_; clear n0_ n1_; (try clear hb); (try clear hb2); (try clear hk); (try clear hi); have hcz23_0 : w22.cell? ⟨gb111, 0, none⟩ = some (.int .i64 a0_0) := (blk_cell BK111.out 0).trans rfl; have hcz23_1 : w22.cell? ⟨gb111, 1, none⟩ = some (.slice A0_1 l0_1.length c0_1) := (blk_cell BK111.out 1).trans rfl; have hfz23_0 := blk_frozen BK111.out 0; have hfz23_1 := blk_frozen BK111.out 1; have p113 : 0 ≤ (a1 : Int) := of_decide_eq_true (by first | (with_reducible assumption) | assumption); have q113 : a1 < (l4.length : Int) := of_decide_eq_true (by first | (with_reducible assumption) | assumption); obtain ⟨ad113, e113, hx113_0⟩ := Kd.at_bool HR4.out a1 p113 q113; (try rw [← Nbq14.out] at hx113_0); cases e113; replace hx113_0 := (HB.out.cell (World.block_lt_of_cell? w _ hx113_0)).trans hx113_0; replace p113 := eq_true p113; replace q113 := eq_true q113))
                go_meet
                case rel => exact ⟨_, (true), (by first | rfl | (simp; done) | (simp [*]; done)), H', ⟨by first | omega | exact Nat.le_refl _⟩, ⟨by (with_reducible repeat (first | refine blk_drewN ?_ _ | refine blk_drew ?_ | refine blk_alloc ?_ _)); exact BK111.out⟩, ⟨by repeat (first | (with_reducible first | exact HB.out | apply below_alloc | apply pw_below_drewN | apply below_drew1 | refine below_set ?_ GE111.out) | exact HB.out)⟩⟩
            · rw [if_neg c13] at H
              exact absurd H (by simp)
          · rw [if_neg c12] at H
            exact absurd H (by simp)
        · rw [if_neg c11] at H
          have c11b0 : ((l4.length : Int) == a0_0) = false := beq_eq_false_iff_ne.mpr c11
          have c11b1 : ((l4.length : Int) != a0_0) = true := bne_iff_ne.mpr c11
          have H' := Aside0.mk H
          clear H
          have hcz24_0 : w7.cell? ⟨gb111, 0, none⟩ = some (.int .i64 a0_0) := (blk_cell BK111.out 0).trans rfl
          have hcz24_1 : w7.cell? ⟨gb111, 1, none⟩ = some (.slice A0_1 l0_1.length c0_1) := (blk_cell BK111.out 1).trans rfl
          have hfz24_0 := blk_frozen BK111.out 0
          have hfz24_1 := blk_frozen BK111.out 1
          go_wp2_with (first | ((with_reducible refine gate_callee (f := 24) rfl ?_); refine goesL_ (some 20) rfl rfl Try.func24 (by kernel_rfl) rfl #[.agg #[.int .i64 a0_0, .slice A0_1 l0_1.length c0_1], .int .i64 a1, .int .i64 a2] rfl (by (try simp only [List.map_toArray, List.map_cons, List.map_nil]); first | done | rfl | (simp only [List.length_drop, List.length_take]; rfl)) ?_; (with_reducible refine (flow_areEnds.calls k a0_0 _ _ l0_1 a1 a2 true _ ?side1 ?side2 A8.out).mono ?_); (case side1 => repeat (first | exact (Kd.C_below HR0_1.out HB.out) | (with_reducible refine Kd.C_alloc ?_ _) | (with_reducible refine Kd.C_drewN ?_ _) | (with_reducible refine Kd.C_drew ?_))); (case side2 => exact HC0_1.out); rintro e w25 ⟨rfl, hb⟩; refine ⟨_, rfl, ?_⟩; have n0_ := Aside0.mk (blk_below (g := gb111) (o := .cells #[.int .i64 a0_0, .slice A0_1 l0_1.length c0_1] 24 (0, 0)) (by (with_reducible repeat (first | refine blk_drewN ?_ _ | refine blk_drew ?_ | refine blk_alloc ?_ _)); exact BK111.out) hb); have n1_ := Aside0.mk (below_step (by repeat (first | (with_reducible first | exact HB.out | apply below_alloc | apply pw_below_drewN | apply below_drew1 | refine below_set ?_ GE111.out) | exact HB.out)) hb); clear BK111; clear HB; have BK111 := n0_; have HB := n1_; clear n0_ n1_; (try clear hb); (try clear hb2); (try clear hk); (try clear hi); have hcz26_0 : w25.cell? ⟨gb111, 0, none⟩ = some (.int .i64 a0_0) := (blk_cell BK111.out 0).trans rfl; have hcz26_1 : w25.cell? ⟨gb111, 1, none⟩ = some (.slice A0_1 l0_1.length c0_1) := (blk_cell BK111.out 1).trans rfl; have hfz26_0 := blk_frozen BK111.out 0; have hfz26_1 := blk_frozen BK111.out 1))
          go_meet
          case rel => exact ⟨_, (true), (by first | rfl | (simp; done) | (simp [*]; done)), H', ⟨by first | omega | exact Nat.le_refl _⟩, ⟨by (with_reducible repeat (first | refine blk_drewN ?_ _ | refine blk_drew ?_ | refine blk_alloc ?_ _)); exact BK111.out⟩, ⟨by repeat (first | (with_reducible first | exact HB.out | apply below_alloc | apply pw_below_drewN | apply below_drew1 | refine below_set ?_ GE111.out) | exact HB.out)⟩⟩
      · rw [if_neg c10] at H
        have c10b0 : ((l3.length : Int) == (l0_1.length : Int)) = false := beq_eq_false_iff_ne.mpr c10
        have c10b1 : ((l3.length : Int) != (l0_1.length : Int)) = true := bne_iff_ne.mpr c10
        have c10b2 : (l3.length == l0_1.length) = false := by first | simpa using c10 | (simp at c10 ⊢; omega)
        (first | rw [c10b0] | (simp only [i64_w, i32_w]; rw [c10b0]) | skip)
        have H' := Aside0.mk H
        clear H
        have hcz27_0 : w7.cell? ⟨gb111, 0, none⟩ = some (.int .i64 a0_0) := (blk_cell BK111.out 0).trans rfl
        have hcz27_1 : w7.cell? ⟨gb111, 1, none⟩ = some (.slice A0_1 l0_1.length c0_1) := (blk_cell BK111.out 1).trans rfl
        have hfz27_0 := blk_frozen BK111.out 0
        have hfz27_1 := blk_frozen BK111.out 1
        go_wp2_with (first | ((with_reducible refine gate_callee (f := 24) rfl ?_); refine goesL_ (some 20) rfl rfl Try.func24 (by kernel_rfl) rfl #[.agg #[.int .i64 a0_0, .slice A0_1 l0_1.length c0_1], .int .i64 a1, .int .i64 a2] rfl (by (try simp only [List.map_toArray, List.map_cons, List.map_nil]); first | done | rfl | (simp only [List.length_drop, List.length_take]; rfl)) ?_; (with_reducible refine (flow_areEnds.calls k a0_0 _ _ l0_1 a1 a2 true _ ?side1 ?side2 A8.out).mono ?_); (case side1 => repeat (first | exact (Kd.C_below HR0_1.out HB.out) | (with_reducible refine Kd.C_alloc ?_ _) | (with_reducible refine Kd.C_drewN ?_ _) | (with_reducible refine Kd.C_drew ?_))); (case side2 => exact HC0_1.out); rintro e w28 ⟨rfl, hb⟩; refine ⟨_, rfl, ?_⟩; have n0_ := Aside0.mk (blk_below (g := gb111) (o := .cells #[.int .i64 a0_0, .slice A0_1 l0_1.length c0_1] 24 (0, 0)) (by (with_reducible repeat (first | refine blk_drewN ?_ _ | refine blk_drew ?_ | refine blk_alloc ?_ _)); exact BK111.out) hb); have n1_ := Aside0.mk (below_step (by repeat (first | (with_reducible first | exact HB.out | apply below_alloc | apply pw_below_drewN | apply below_drew1 | refine below_set ?_ GE111.out) | exact HB.out)) hb); clear BK111; clear HB; have BK111 := n0_; have HB := n1_; clear n0_ n1_; (try clear hb); (try clear hb2); (try clear hk); (try clear hi); have hcz29_0 : w28.cell? ⟨gb111, 0, none⟩ = some (.int .i64 a0_0) := (blk_cell BK111.out 0).trans rfl; have hcz29_1 : w28.cell? ⟨gb111, 1, none⟩ = some (.slice A0_1 l0_1.length c0_1) := (blk_cell BK111.out 1).trans rfl; have hfz29_0 := blk_frozen BK111.out 0; have hfz29_1 := blk_frozen BK111.out 1))
        go_meet
        case rel => exact ⟨_, (true), (by first | rfl | (simp; done) | (simp [*]; done)), H', ⟨by first | omega | exact Nat.le_refl _⟩, ⟨by (with_reducible repeat (first | refine blk_drewN ?_ _ | refine blk_drew ?_ | refine blk_alloc ?_ _)); exact BK111.out⟩, ⟨by repeat (first | (with_reducible first | exact HB.out | apply below_alloc | apply pw_below_drewN | apply below_drew1 | refine below_set ?_ GE111.out) | exact HB.out)⟩⟩
    · replace c9 := Bool.eq_false_iff.mpr c9
      subst c9
      have H1 : (flow_Check.j0 k a1 a2 l3 l4 true a0_0 l0_1) = some r := by rw [if_neg (show ¬ (false = true) by decide)] at H; exact H
      clear H
      have H := H1
      clear H1
      have H' := Aside0.mk H
      clear H
      have hcz30_0 : w7.cell? ⟨gb111, 0, none⟩ = some (.int .i64 a0_0) := (blk_cell BK111.out 0).trans rfl
      have hcz30_1 : w7.cell? ⟨gb111, 1, none⟩ = some (.slice A0_1 l0_1.length c0_1) := (blk_cell BK111.out 1).trans rfl
      have hfz30_0 := blk_frozen BK111.out 0
      have hfz30_1 := blk_frozen BK111.out 1
      go_wp2_with (first | ((with_reducible refine gate_callee (f := 24) rfl ?_); refine goesL_ (some 20) rfl rfl Try.func24 (by kernel_rfl) rfl #[.agg #[.int .i64 a0_0, .slice A0_1 l0_1.length c0_1], .int .i64 a1, .int .i64 a2] rfl (by (try simp only [List.map_toArray, List.map_cons, List.map_nil]); first | done | rfl | (simp only [List.length_drop, List.length_take]; rfl)) ?_; (with_reducible refine (flow_areEnds.calls k a0_0 _ _ l0_1 a1 a2 false _ ?side1 ?side2 A8.out).mono ?_); (case side1 => repeat (first | exact (Kd.C_below HR0_1.out HB.out) | (with_reducible refine Kd.C_alloc ?_ _) | (with_reducible refine Kd.C_drewN ?_ _) | (with_reducible refine Kd.C_drew ?_))); (case side2 => exact HC0_1.out); rintro e w31 ⟨rfl, hb⟩; refine ⟨_, rfl, ?_⟩; have n0_ := Aside0.mk (blk_below (g := gb111) (o := .cells #[.int .i64 a0_0, .slice A0_1 l0_1.length c0_1] 24 (0, 0)) (by (with_reducible repeat (first | refine blk_drewN ?_ _ | refine blk_drew ?_ | refine blk_alloc ?_ _)); exact BK111.out) hb); have n1_ := Aside0.mk (below_step (by repeat (first | (with_reducible first | exact HB.out | apply below_alloc | apply pw_below_drewN | apply below_drew1 | refine below_set ?_ GE111.out) | exact HB.out)) hb); clear BK111; clear HB; have BK111 := n0_; have HB := n1_; clear n0_ n1_; (try clear hb); (try clear hb2); (try clear hk); (try clear hi)))
      go_meet
      case rel => exact ⟨_, (true), (by first | rfl | (simp; done) | (simp [*]; done)), H', ⟨by first | omega | exact Nat.le_refl _⟩, ⟨by (with_reducible repeat (first | refine blk_drewN ?_ _ | refine blk_drew ?_ | refine blk_alloc ?_ _)); exact BK111.out⟩, ⟨by repeat (first | (with_reducible first | exact HB.out | apply below_alloc | apply pw_below_drewN | apply below_drew1 | refine below_set ?_ GE111.out) | exact HB.out)⟩⟩
  case rest =>
    clear HC6
    try clear c1
    try clear p1
    try clear q1
    try clear hx1
    try clear c2
    try clear p2
    try clear c3
    try clear c4
    try clear c9
    try clear c10
    try clear c10b0
    try clear c10b1
    try clear c10b2
    try clear c11
    try clear c11b0
    try clear c11b1
    try clear p11
    try clear q11
    try clear hx11
    try clear c12
    try clear c12b0
    try clear c13
    try clear c13b0
    try clear q14
    try clear c15
    try clear c16
    try clear c16b0
    try clear c17
    try clear c17b0
    try clear c24
    try clear hcz18_0
    try clear hcz18_1
    try clear hcz20_0
    try clear hcz20_1
    try clear hcz21_0
    try clear hcz21_1
    try clear hcz23_0
    try clear hcz23_1
    try clear hcz24_0
    try clear hcz24_1
    try clear hcz26_0
    try clear hcz26_1
    try clear hcz27_0
    try clear hcz27_1
    try clear hcz29_0
    try clear hcz29_1
    try clear hcz30_0
    try clear hcz30_1
    try clear hfz18_0
    try clear hfz18_1
    try clear hfz20_0
    try clear hfz20_1
    try clear hfz21_0
    try clear hfz21_1
    try clear hfz23_0
    try clear hfz23_1
    try clear hfz24_0
    try clear hfz24_1
    try clear hfz26_0
    try clear hfz26_1
    try clear hfz27_0
    try clear hfz27_1
    try clear hfz29_0
    try clear hfz29_1
    try clear hfz30_0
    try clear hfz30_1
    try clear hx113_0
    try clear hx114_0
    try clear p113
    try clear p114
    try clear q113
    try clear q114
    obtain ⟨kq, x49_5, rfl, HA, HJ5, BK111, HB⟩ := hcut
    cases kq with
    | zero => exact absurd HA.out (by simp [flow_Check.j0])
    | succ kj5 =>
      have H := HA.out
      clear HA
      simp only [flow_Check.j0] at H
      by_cases c32 : x49_5 = true
      · subst c32
        have H1 : (some false) = some r := by rw [if_pos rfl] at H; exact H
        clear H
        have H := H1
        clear H1
        obtain rfl := Option.some.inj H
        go_wp2
        go_ret
        exact ⟨by first | rfl | (simp [errW_none, errW_some] <;> rfl) | (simp [*, errW_none, errW_some] <;> rfl), by repeat (first | (with_reducible first | exact HB.out | apply below_alloc | apply pw_below_drewN | apply below_drew1 | refine below_set ?_ GE111.out) | exact HB.out)⟩
      · replace c32 := Bool.eq_false_iff.mpr c32
        subst c32
        have H1 : (if 0 ≤ a0_0 then (if (a0_0 : Int).toNat ≤ 35184372088832 then (flow_Check.l0 kj5 a1 a2 l3 l4 (List.replicate (a0_0 : Int).toNat 0) 0 l0_1 (l0_1.length : Int) 0) else (none)) else (none)) = some r := by rw [if_neg (show ¬ (false = true) by decide)] at H; exact H
        clear H
        have H := H1
        clear H1
        by_cases c33 : 0 ≤ a0_0
        · rw [if_pos c33] at H
          have c33b0 := eq_true c33
          have c33b1 : decide (0 ≤ a0_0) = true := decide_eq_true c33
          clear c33
          by_cases c34 : (a0_0 : Int).toNat ≤ 35184372088832
          · rw [if_pos c34] at H
            have c34b0 := eq_true c34
            have c34b1 : decide ((a0_0 : Int).toNat ≤ 35184372088832) = true := decide_eq_true c34
            clear c34
            obtain ⟨y115, hy115⟩ : ∃ y_ : List Int, y_ = (List.replicate (a0_0 : Int).toNat 0) := ⟨_, rfl⟩
            replace H : (flow_Check.l0 kj5 a1 a2 l3 l4 y115 0 l0_1 (l0_1.length : Int) 0) = some r := by first | (rw [hy115]; with_reducible exact H) | (have H2_ := (Option.bind_some _ _).symm.trans H; rw [hy115]; with_reducible exact H2_) | (have H2_ := (Option.bind_some _ _).symm.trans H; with_reducible exact H2_) | with_reducible exact H | (rw [hy115]; exact H) | exact H
            have Ny115 := Aside0.mk hy115
            clear hy115
            have H' := Aside0.mk H
            clear H
            have hcz35_0 : wc.cell? ⟨gb111, 0, none⟩ = some (.int .i64 a0_0) := (blk_cell BK111.out 0).trans rfl
            have hcz35_1 : wc.cell? ⟨gb111, 1, none⟩ = some (.slice A0_1 l0_1.length c0_1) := (blk_cell BK111.out 1).trans rfl
            have hfz35_0 := blk_frozen BK111.out 0
            have hfz35_1 := blk_frozen BK111.out 1
            go_wp2_with (first | ((with_reducible refine gate_dst (N := 52) rfl ?_); (try (refine gate_guard (by rfl) ?_; dsimp only)); refine Kd.R_make (Kd.int .i64) _ 3 rfl (N := 52) rfl 25 _ _ rfl a0_0 rfl rfl Try.underlying25 (.int .i64 0) 8 info3 rfl (by decide) (by omega) 0 (ok := fun _ => True) (okp := fun _ => True) rfl (fun _ hk => hk) trivial (of_decide_eq_true (by first | (with_reducible assumption) | assumption)) (Nat.le_trans (Nat.mul_le_mul_right _ (of_decide_eq_true (by first | (with_reducible assumption) | assumption) : a0_0.toNat ≤ 35184372088832)) (by omega)) (Below.refl _ _) (Nat.le_refl _) ?_; intro v116 w36 ho37 hb hg_ hnew_; clear hg_ hnew_; (first | rw [← Ny115.out] at ho37 | (simp only [Int.reduceToNat] at ho37; rw [← Ny115.out] at ho37)); have n0_ := Aside0.mk (Kd.R_lower ho37 (below_size (by repeat (first | (with_reducible first | exact HB.out | apply below_alloc | apply pw_below_drewN | apply below_drew1 | refine below_set ?_ GE111.out) | exact HB.out)))); have n1_ := Aside0.mk (blk_below (g := gb111) (o := .cells #[.int .i64 a0_0, .slice A0_1 l0_1.length c0_1] 24 (0, 0)) (by (with_reducible repeat (first | refine blk_drewN ?_ _ | refine blk_drew ?_ | refine blk_alloc ?_ _)); exact BK111.out) hb); have n2_ := Aside0.mk (below_step (by repeat (first | (with_reducible first | exact HB.out | apply below_alloc | apply pw_below_drewN | apply below_drew1 | refine below_set ?_ GE111.out) | exact HB.out)) hb); clear BK111; clear HB; have HO117 := n0_; have BK111 := n1_; have HB := n2_; clear n0_ n1_ n2_; clear hb ho37; have hcz38_0 : w36.cell? ⟨gb111, 0, none⟩ = some (.int .i64 a0_0) := (blk_cell BK111.out 0).trans rfl; have hcz38_1 : w36.cell? ⟨gb111, 1, none⟩ = some (.slice A0_1 l0_1.length c0_1) := (blk_cell BK111.out 1).trans rfl; have hfz38_0 := blk_frozen BK111.out 0; have hfz38_1 := blk_frozen BK111.out 1))
            go_loopg [12, 56] kj5 (fun kq v12 v56 w' => ∃ (x11_2 : List Int) (x12_2 : Int) (x56_2 : Int), v12 = .int .i64 x12_2 ∧ v56 = .int .i64 x56_2 ∧ Aside0 (flow_Check.l0 kq a1 a2 l3 l4 x11_2 x12_2 l0_1 (l0_1.length : Int) x56_2 = some r) ∧ Aside0 (kq ≤ kj5) ∧ Aside0 (Kd.R (Kd.int .i64) 3 w' w.heap.size (fun _ => True) v116 x11_2) ∧ Aside0 (w'.heap[gb111]? = some (.cells #[.int .i64 a0_0, (.slice A0_1 l0_1.length c0_1)] 24 (0, 0))) ∧ Aside0 (Below w.heap.size w w'))
            case atStart => exact ⟨(y115), (0), (0), (by first | rfl | (simp; done) | (simp [*]; done)), (by first | rfl | (simp; done) | (simp [*]; done)), H', ⟨Nat.le_refl _⟩, ⟨by (with_reducible repeat (first | apply Kd.R_alloc | apply Kd.R_drewN | apply Kd.R_drew)); exact HO117.out⟩, ⟨by (with_reducible repeat (first | refine blk_drewN ?_ _ | refine blk_drew ?_ | refine blk_alloc ?_ _)); exact BK111.out⟩, ⟨by repeat (first | (with_reducible first | exact HB.out | apply below_alloc | apply pw_below_drewN | apply below_drew1 | refine below_set ?_ GE111.out) | exact HB.out)⟩⟩
            case round =>
              clear H'
              try clear c1
              try clear p1
              try clear q1
              try clear hx1
              try clear c2
              try clear p2
              try clear c3
              try clear c4
              try clear c9
              try clear c10
              try clear c10b0
              try clear c10b1
              try clear c10b2
              try clear c11
              try clear c11b0
              try clear c11b1
              try clear p11
              try clear q11
              try clear hx11
              try clear c12
              try clear c12b0
              try clear c13
              try clear c13b0
              try clear q14
              try clear c15
              try clear c16
              try clear c16b0
              try clear c17
              try clear c17b0
              try clear c24
              try clear c32
              try clear c33
              try clear c33b0
              try clear c33b1
              try clear c34
              try clear c34b0
              try clear c34b1
              try clear hcz18_0
              try clear hcz18_1
              try clear hcz20_0
              try clear hcz20_1
              try clear hcz21_0
              try clear hcz21_1
              try clear hcz23_0
              try clear hcz23_1
              try clear hcz24_0
              try clear hcz24_1
              try clear hcz26_0
              try clear hcz26_1
              try clear hcz27_0
              try clear hcz27_1
              try clear hcz29_0
              try clear hcz29_1
              try clear hcz30_0
              try clear hcz30_1
              try clear hcz35_0
              try clear hcz35_1
              try clear hcz38_0
              try clear hcz38_1
              try clear hfz18_0
              try clear hfz18_1
              try clear hfz20_0
              try clear hfz20_1
              try clear hfz21_0
              try clear hfz21_1
              try clear hfz23_0
              try clear hfz23_1
              try clear hfz24_0
              try clear hfz24_1
              try clear hfz26_0
              try clear hfz26_1
              try clear hfz27_0
              try clear hfz27_1
              try clear hfz29_0
              try clear hfz29_1
              try clear hfz30_0
              try clear hfz30_1
              try clear hfz35_0
              try clear hfz35_1
              try clear hfz38_0
              try clear hfz38_1
              try clear hx113_0
              try clear hx114_0
              try clear p1
              try clear p11
              try clear p113
              try clear p114
              try clear p2
              try clear q1
              try clear q11
              try clear q113
              try clear q114
              try clear q14
              obtain ⟨x11_2, x12_2, x56_2, rfl, rfl, HA, HK2, HO_11, BK111, HB⟩ := hrel
              cases gk with
              | zero => exact absurd HA.out (by simp [flow_Check.l0])
              | succ k2 =>
                have H := HA.out
                clear HA
                simp only [flow_Check.l0] at H
                by_cases c39 : x56_2 < (l0_1.length : Int)
                · rw [if_pos c39] at H
                  have c39b0 : decide (x56_2 < (l0_1.length : Int)) = true := decide_eq_true c39
                  clear c39
                  by_cases c40 : 0 ≤ x56_2
                  · rw [if_pos c40] at H
                    have c40b0 : decide (0 ≤ x56_2) = true := decide_eq_true c40
                    clear c40
                    by_cases c41 : x56_2 < (l0_1.length : Int)
                    · rw [if_pos c41] at H
                      have c41b0 : decide (x56_2 < (l0_1.length : Int)) = true := decide_eq_true c41
                      clear c41
                      have HC42 := Aside0.mk H
                      clear H
                      have p118 : 0 ≤ (x56_2 : Int) := of_decide_eq_true (by first | (with_reducible assumption) | assumption)
                      have q118 : x56_2 < (l0_1.length : Int) := of_decide_eq_true (by first | (with_reducible assumption) | assumption)
                      obtain ⟨ad118, e118, hx118_0, hx118_1, hx118_2⟩ := at_T39 HR0_1.out x56_2 p118 q118
                      cases e118
                      replace hx118_0 := (HB.out.cell (World.block_lt_of_cell? w _ hx118_0)).trans hx118_0
                      replace hx118_1 := (HB.out.cell (World.block_lt_of_cell? w _ hx118_1)).trans hx118_1
                      replace hx118_2 := (HB.out.cell (World.block_lt_of_cell? w _ hx118_2)).trans hx118_2
                      replace p118 := eq_true p118
                      replace q118 := eq_true q118
                      go_upto_region 8 with (first | ((with_reducible refine gate_dst (N := 14) rfl ?_); (try (refine gate_guard (by rfl) ?_; dsimp only)); refine box_event ?hg (N := 14) ?hd (cs := #[.int .i64 0, .int .i64 0, .int .i64 0]) (t := 39) ?hr ?_; (case hd => rfl); (case hg => rfl); (case hr => first | (go_simp; done) | (go_simp; rfl)); intro gb119 hg w43 hbox hb; have n0_ := Aside0.mk (Kd.R_below (by (with_reducible repeat (first | apply Kd.R_alloc | apply Kd.R_drewN | apply Kd.R_drew)); exact HO_11.out) hb); have n1_ := Aside0.mk (blk_below (g := gb111) (o := .cells #[.int .i64 a0_0, .slice (some ad118) l0_1.length c0_1] 24 (0, 0)) (by (with_reducible repeat (first | refine blk_drewN ?_ _ | refine blk_drew ?_ | refine blk_alloc ?_ _)); exact BK111.out) hb); have n2_ := Aside0.mk (below_step (by repeat (first | (with_reducible first | exact HB.out | apply below_alloc | apply pw_below_drewN | apply below_drew1 | refine below_set ?_ GE111.out) | exact HB.out)) hb); have n3_ := Aside0.mk (hbox); have n4_ := Aside0.mk ((by rw [hg]; exact (below_size (by repeat (first | (with_reducible first | exact HB.out | apply below_alloc | apply pw_below_drewN | apply below_drew1 | refine below_set ?_ GE111.out) | exact HB.out))) : w.heap.size ≤ gb119)); have n5_ := Aside0.mk ((by rw [hg]; exact (below_size (by repeat (first | (with_reducible first | exact HB.out | apply below_alloc | apply pw_below_drewN | apply below_drew1 | refine below_set ?_ GE111.out) | exact HB.out))) : w.heap.size ≤ gb119)); have n6_ := Aside0.mk ((by rw [hg]; exact Nat.ne_of_lt (blk_lt (g := gb111) (o := .cells #[.int .i64 a0_0, .slice (some ad118) l0_1.length c0_1] 24 (0, 0)) (by (with_reducible repeat (first | refine blk_drewN ?_ _ | refine blk_drew ?_ | refine blk_alloc ?_ _)); exact BK111.out)) : gb111 ≠ gb119)); have n7_ := Aside0.mk ((by rw [hg]; exact Nat.ne_of_gt (blk_lt (g := gb111) (o := .cells #[.int .i64 a0_0, .slice (some ad118) l0_1.length c0_1] 24 (0, 0)) (by (with_reducible repeat (first | refine blk_drewN ?_ _ | refine blk_drew ?_ | refine blk_alloc ?_ _)); exact BK111.out)) : gb119 ≠ gb111)); clear HO_11; clear BK111; clear HB; have HO_11 := n0_; have BK111 := n1_; have HB := n2_; have BK119 := n3_; have GW119 := n4_; have GE119 := n5_; have NB111_119 := n6_; have NB119_111 := n7_; clear n0_ n1_ n2_ n3_ n4_ n5_ n6_ n7_; clear hb hbox hg; have hnb44 := NB119_111.out; have hnc44 := NB111_119.out; have hcz45_0 : w43.cell? ⟨gb119, 0, none⟩ = some (.int .i64 0) := (blk_cell BK119.out 0).trans rfl; have hcz45_1 : w43.cell? ⟨gb119, 1, none⟩ = some (.int .i64 0) := (blk_cell BK119.out 1).trans rfl; have hcz45_2 : w43.cell? ⟨gb119, 2, none⟩ = some (.int .i64 0) := (blk_cell BK119.out 2).trans rfl; have hfz45_0 := blk_frozen BK119.out 0; have hfz45_1 := blk_frozen BK119.out 1; have hfz45_2 := blk_frozen BK119.out 2))
                      (try simp only [Act.put, List.setIfInBounds_toArray, List.set_cons_zero, List.set_cons_succ])
                      go_cut [74] (fun v74 wc => ∃ (kq : Nat) (x74_41 : Bool), v74 = .bool x74_41 ∧ Aside0 (flow_Check.j2 kq a1 a2 l3 l4 x11_2 x12_2 x56_2 l0_1 (l0_1.length : Int) x56_2 x74_41 ((rd_T39 l0_1 x56_2).f0) ((rd_T39 l0_1 x56_2).f1) ((rd_T39 l0_1 x56_2).f2) = some r) ∧ Aside0 (kq ≤ k2) ∧ Aside0 (Kd.R (Kd.int .i64) 3 wc w.heap.size (fun _ => True) v116 x11_2) ∧ Aside0 (wc.heap[gb111]? = some (.cells #[.int .i64 a0_0, (.slice (some ad118) l0_1.length c0_1)] 24 (0, 0))) ∧ Aside0 (wc.heap[gb119]? = some (.cells #[.int .i64 ((rd_T39 l0_1 x56_2).f0), .int .i64 ((rd_T39 l0_1 x56_2).f1), .int .i64 ((rd_T39 l0_1 x56_2).f2)] 39 (0, 0))) ∧ Aside0 (Below w.heap.size w wc))
                      case first =>
                        have H := HC42.out
                        clear HC42
                        by_cases c46 : x56_2 < (l3.length : Int)
                        · rw [if_pos c46] at H
                          have c46b0 : decide (x56_2 < (l3.length : Int)) = true := decide_eq_true c46
                          clear c46
                          (first | rw [c46b0] | (simp only [i64_w, i32_w]; rw [c46b0]) | skip)
                          by_cases c47 : (rd l3 x56_2) < 0
                          · rw [if_pos c47] at H
                            have c47b0 : decide ((rd l3 x56_2) < 0) = true := decide_eq_true c47
                            clear c47
                            have H' := Aside0.mk H
                            clear H
                            try go_wp2
                            have n0_ : Aside0 (Kd.R (Kd.int .i64) 3 (((w43.setCell ⟨gb119, 0, none⟩ (.int .i64 ((rd_T39 l0_1 x56_2).f0))).setCell ⟨gb119, 1, none⟩ (.int .i64 ((rd_T39 l0_1 x56_2).f1))).setCell ⟨gb119, 2, none⟩ (.int .i64 ((rd_T39 l0_1 x56_2).f2))) w.heap.size (fun _ => True) v116 x11_2) := ⟨by (with_reducible repeat (first | apply Kd.R_alloc | apply Kd.R_drewN | apply Kd.R_drew)); exact Kd.R_mono (Kd.R_far (p := ⟨gb119, 2, none⟩) (Kd.R_far (p := ⟨gb119, 1, none⟩) (Kd.R_far (p := ⟨gb119, 0, none⟩) (Kd.R_types HO_11.out BK119.out (by decide)) (fun _ hk => hk.2) (.int .i64 ((rd_T39 l0_1 x56_2).f0))) (fun _ hk => hk.2) (.int .i64 ((rd_T39 l0_1 x56_2).f1))) (fun _ hk => hk.2) (.int .i64 ((rd_T39 l0_1 x56_2).f2))) (fun _ hk => trivial)⟩
                            have n1_ : Aside0 ((((w43.setCell ⟨gb119, 0, none⟩ (.int .i64 ((rd_T39 l0_1 x56_2).f0))).setCell ⟨gb119, 1, none⟩ (.int .i64 ((rd_T39 l0_1 x56_2).f1))).setCell ⟨gb119, 2, none⟩ (.int .i64 ((rd_T39 l0_1 x56_2).f2))).heap[gb111]? = some (.cells #[.int .i64 a0_0, .slice (some ad118) l0_1.length c0_1] 24 (0, 0))) := ⟨by (with_reducible repeat (first | refine blk_drewN ?_ _ | refine blk_drew ?_ | refine blk_alloc ?_ _)); refine blk_far ?_ NB111_119.out _; (with_reducible repeat (first | refine blk_drewN ?_ _ | refine blk_drew ?_ | refine blk_alloc ?_ _)); refine blk_far ?_ NB111_119.out _; (with_reducible repeat (first | refine blk_drewN ?_ _ | refine blk_drew ?_ | refine blk_alloc ?_ _)); refine blk_far ?_ NB111_119.out _; (with_reducible repeat (first | refine blk_drewN ?_ _ | refine blk_drew ?_ | refine blk_alloc ?_ _)); exact BK111.out⟩
                            have n2_ : Aside0 ((((w43.setCell ⟨gb119, 0, none⟩ (.int .i64 ((rd_T39 l0_1 x56_2).f0))).setCell ⟨gb119, 1, none⟩ (.int .i64 ((rd_T39 l0_1 x56_2).f1))).setCell ⟨gb119, 2, none⟩ (.int .i64 ((rd_T39 l0_1 x56_2).f2))).heap[gb119]? = some (.cells #[.int .i64 ((rd_T39 l0_1 x56_2).f0), .int .i64 ((rd_T39 l0_1 x56_2).f1), .int .i64 ((rd_T39 l0_1 x56_2).f2)] 39 (0, 0))) := ⟨by (with_reducible repeat (first | refine blk_drewN ?_ _ | refine blk_drew ?_ | refine blk_alloc ?_ _)); refine blk_put (cs := #[.int .i64 ((rd_T39 l0_1 x56_2).f0), .int .i64 ((rd_T39 l0_1 x56_2).f1), .int .i64 0]) ?_ 2 _ rfl; (with_reducible repeat (first | refine blk_drewN ?_ _ | refine blk_drew ?_ | refine blk_alloc ?_ _)); refine blk_put (cs := #[.int .i64 ((rd_T39 l0_1 x56_2).f0), .int .i64 0, .int .i64 0]) ?_ 1 _ rfl; (with_reducible repeat (first | refine blk_drewN ?_ _ | refine blk_drew ?_ | refine blk_alloc ?_ _)); refine blk_put (cs := #[.int .i64 0, .int .i64 0, .int .i64 0]) ?_ 0 _ rfl; (with_reducible repeat (first | refine blk_drewN ?_ _ | refine blk_drew ?_ | refine blk_alloc ?_ _)); exact BK119.out⟩
                            have n3_ : Aside0 (Below w.heap.size w (((w43.setCell ⟨gb119, 0, none⟩ (.int .i64 ((rd_T39 l0_1 x56_2).f0))).setCell ⟨gb119, 1, none⟩ (.int .i64 ((rd_T39 l0_1 x56_2).f1))).setCell ⟨gb119, 2, none⟩ (.int .i64 ((rd_T39 l0_1 x56_2).f2)))) := ⟨by repeat (first | (with_reducible first | exact HB.out | apply below_alloc | apply pw_below_drewN | apply below_drew1 | refine below_set ?_ GE111.out | refine below_set ?_ GE119.out) | exact HB.out)⟩
                            (try clear HO_11)
                            (try clear BK111)
                            (try clear BK119)
                            (try clear HB)
                            generalize (((w43.setCell ⟨gb119, 0, none⟩ (.int .i64 ((rd_T39 l0_1 x56_2).f0))).setCell ⟨gb119, 1, none⟩ (.int .i64 ((rd_T39 l0_1 x56_2).f1))).setCell ⟨gb119, 2, none⟩ (.int .i64 ((rd_T39 l0_1 x56_2).f2))) = w48 at n0_ n1_ n2_ n3_ ⊢
                            have HO_11 := n0_
                            have BK111 := n1_
                            have BK119 := n2_
                            have HB := n3_
                            clear n0_ n1_ n2_ n3_
                            have n0_ := Aside0.mk (Kd.R_drew HO_11.out)
                            have n1_ := Aside0.mk (blk_drew BK111.out)
                            have n2_ := Aside0.mk (blk_drew BK119.out)
                            have n3_ := Aside0.mk (below_drew1 HB.out)
                            clear HO_11
                            clear BK111
                            clear BK119
                            clear HB
                            have HO_11 := n0_
                            have BK111 := n1_
                            have BK119 := n2_
                            have HB := n3_
                            clear n0_ n1_ n2_ n3_
                            have p120 : 0 ≤ (x56_2 : Int) := of_decide_eq_true (by first | (with_reducible assumption) | assumption)
                            have q120 : x56_2 < (l3.length : Int) := of_decide_eq_true (by first | (with_reducible assumption) | assumption)
                            obtain ⟨ad120, e120, hx120_0⟩ := Kd.at_int HR3.out x56_2 p120 q120
                            have hw120_0 := hx120_0
                            cases e120
                            replace hx120_0 := (HB.out.cell (World.block_lt_of_cell? w _ hx120_0)).trans hx120_0
                            replace p120 := eq_true p120
                            replace q120 := eq_true q120
                            refine start_ (n := 14) (S := fun w' => w'.cell? (ad120.add (x56_2).toNat) = some (.int .i64 (rd l3 x56_2))) (ds := []) #[false, false, false, false, false, false, false, false, false, false, false, false, false, false] (by kernel_rfl) rfl rfl (((HB.out.cell (World.block_lt_of_cell? w _ hw120_0)).trans hw120_0)) (fun hHeld => ?_); refine with_tabW flow_Check.tab8 flow_Check.bits8 (fun HT_ HW_ => ?_)
                            generalize w48.drew = w49 at HO_11 BK111 BK119 HB hx120_0 hHeld ⊢
                            refine pure_ (i := 0) (N := some 61) (v := ?_) (a' := ?_) #[true, false, false, false, false, false, false, false, false, false, false, false, false, false] rfl rfl (any_of HT_.out (by kernel_rfl)) (fun _ _ _ h => h) (Or.inl ⟨by rfl, ?_⟩) ?_ ?_
                            rotate_left
                            · intro w'
                              go_simp
                              with_reducible rfl
                            rotate_left
                            · simp only [Act.put, List.setIfInBounds_toArray, List.set_cons_zero, List.set_cons_succ, i64_w, i32_w]
                              rfl
                            refine pure_ (i := 1) (N := some 62) (v := ?_) (a' := ?_) #[true, true, false, false, false, false, false, false, false, false, false, false, false, false] rfl rfl (any_of HT_.out (by kernel_rfl)) (fun _ _ _ h => h) (Or.inl ⟨by rfl, ?_⟩) ?_ ?_
                            rotate_left
                            · intro w'
                              go_simp
                              with_reducible rfl
                            rotate_left
                            · simp only [Act.put, List.setIfInBounds_toArray, List.set_cons_zero, List.set_cons_succ, i64_w, i32_w]
                              rfl
                            refine pure_ (i := 2) (N := some 63) (v := ?_) (a' := ?_) #[true, true, true, false, false, false, false, false, false, false, false, false, false, false] rfl rfl (any_of HT_.out (by kernel_rfl)) (fun _ _ _ h => h) (Or.inl ⟨by rfl, ?_⟩) ?_ ?_
                            rotate_left
                            · intro w'
                              go_simp
                              with_reducible rfl
                            rotate_left
                            · simp only [Act.put, List.setIfInBounds_toArray, List.set_cons_zero, List.set_cons_succ, i64_w, i32_w]
                              rfl
                            refine take_ (i := 3) (N := some 64) (v := ?_) (a' := ?_) #[true, true, true, true, false, false, false, false, false, false, false, false, false, false] rfl rfl (take_ofW HT_.out HW_.out (by kernel_rfl)) (fun _ _ _ h => h) (Or.inl ⟨by rfl, ?_⟩) hHeld ?_ ?_
                            rotate_left
                            · intro w' s0
                              go_simp
                              with_reducible rfl
                            rotate_left
                            · simp only [Act.put, List.setIfInBounds_toArray, List.set_cons_zero, List.set_cons_succ, i64_w, i32_w]
                              rfl
                            refine pure_ (i := 4) (N := some 65) (v := ?_) (a' := ?_) #[true, true, true, true, true, false, false, false, false, false, false, false, false, false] rfl rfl (any_of HT_.out (by kernel_rfl)) (fun _ _ _ h => h) (Or.inl ⟨by rfl, ?_⟩) ?_ ?_
                            rotate_left
                            · intro w'
                              go_simp
                              with_reducible rfl
                            rotate_left
                            · simp only [Act.put, List.setIfInBounds_toArray, List.set_cons_zero, List.set_cons_succ, i64_w, i32_w]
                              rfl
                            refine pure_ (i := 5) (N := some 66) (v := ?_) (a' := ?_) #[true, true, true, true, true, true, false, false, false, false, false, false, false, false] rfl rfl (any_of HT_.out (by kernel_rfl)) (fun _ _ _ h => h) (Or.inl ⟨by rfl, ?_⟩) ?_ ?_
                            rotate_left
                            · intro w'
                              go_simp
                              with_reducible rfl
                            rotate_left
                            · simp only [Act.put, List.setIfInBounds_toArray, List.set_cons_zero, List.set_cons_succ, i64_w, i32_w]
                              rfl
                            refine pure_ (i := 6) (N := some 67) (v := undef) (a' := ?_) #[true, true, true, true, true, true, true, false, false, false, false, false, false, false] rfl rfl (any_of HT_.out (by kernel_rfl)) (fun _ _ _ h => h) (Or.inr ⟨by rfl, rfl⟩) ?_ ?_
                            rotate_left
                            · simp only [Act.put, List.setIfInBounds_toArray, List.set_cons_zero, List.set_cons_succ, i64_w, i32_w]
                              rfl
                            refine pure_ (i := 7) (N := some 68) (v := undef) (a' := ?_) #[true, true, true, true, true, true, true, true, false, false, false, false, false, false] rfl rfl (any_of HT_.out (by kernel_rfl)) (fun _ _ _ h => h) (Or.inr ⟨by rfl, rfl⟩) ?_ ?_
                            rotate_left
                            · simp only [Act.put, List.setIfInBounds_toArray, List.set_cons_zero, List.set_cons_succ, i64_w, i32_w]
                              rfl
                            refine pure_ (i := 8) (N := some 69) (v := undef) (a' := ?_) #[true, true, true, true, true, true, true, true, true, false, false, false, false, false] rfl rfl (any_of HT_.out (by kernel_rfl)) (fun _ _ _ h => h) (Or.inr ⟨by rfl, rfl⟩) ?_ ?_
                            rotate_left
                            · simp only [Act.put, List.setIfInBounds_toArray, List.set_cons_zero, List.set_cons_succ, i64_w, i32_w]
                              rfl
                            refine pure_ (i := 9) (N := some 70) (v := undef) (a' := ?_) #[true, true, true, true, true, true, true, true, true, true, false, false, false, false] rfl rfl (any_of HT_.out (by kernel_rfl)) (fun _ _ _ h => h) (Or.inr ⟨by rfl, rfl⟩) ?_ ?_
                            rotate_left
                            · simp only [Act.put, List.setIfInBounds_toArray, List.set_cons_zero, List.set_cons_succ, i64_w, i32_w]
                              rfl
                            refine pure_ (i := 10) (N := some 71) (v := undef) (a' := ?_) #[true, true, true, true, true, true, true, true, true, true, true, false, false, false] rfl rfl (any_of HT_.out (by kernel_rfl)) (fun _ _ _ h => h) (Or.inr ⟨by rfl, rfl⟩) ?_ ?_
                            rotate_left
                            · simp only [Act.put, List.setIfInBounds_toArray, List.set_cons_zero, List.set_cons_succ, i64_w, i32_w]
                              rfl
                            refine pure_ (i := 11) (N := some 72) (v := undef) (a' := ?_) #[true, true, true, true, true, true, true, true, true, true, true, true, false, false] rfl rfl (any_of HT_.out (by kernel_rfl)) (fun _ _ _ h => h) (Or.inr ⟨by rfl, rfl⟩) ?_ ?_
                            rotate_left
                            · simp only [Act.put, List.setIfInBounds_toArray, List.set_cons_zero, List.set_cons_succ, i64_w, i32_w]
                              rfl
                            refine pure_ (i := 12) (N := some 73) (v := undef) (a' := ?_) #[true, true, true, true, true, true, true, true, true, true, true, true, true, false] rfl rfl (any_of HT_.out (by kernel_rfl)) (fun _ _ _ h => h) (Or.inr ⟨by rfl, rfl⟩) ?_ ?_
                            rotate_left
                            · simp only [Act.put, List.setIfInBounds_toArray, List.set_cons_zero, List.set_cons_succ, i64_w, i32_w]
                              rfl
                            refine pure_ (i := 13) (N := some 74) (v := ?_) (a' := ?_) #[true, true, true, true, true, true, true, true, true, true, true, true, true, true] rfl rfl (any_of HT_.out (by kernel_rfl)) (fun _ _ _ h => h) (Or.inl ⟨by rfl, ?_⟩) ?_ ?_
                            rotate_left
                            · intro w'
                              go_simp
                              with_reducible rfl
                            rotate_left
                            · simp only [Act.put, List.setIfInBounds_toArray, List.set_cons_zero, List.set_cons_succ, i64_w, i32_w]
                              rfl
                            refine done_ (done_of HT_.out (by kernel_rfl)) ?_
                            try go_wp2
                            go_meet
                            case rel => exact ⟨_, (true), (by first | rfl | (simp; done) | (simp [*]; done)), H', ⟨by have := HJ5.out; have := HK2.out; first | omega | exact Nat.le_refl _⟩, ⟨by (with_reducible repeat (first | apply Kd.R_alloc | apply Kd.R_drewN | apply Kd.R_drew)); exact HO_11.out⟩, ⟨by (with_reducible repeat (first | refine blk_drewN ?_ _ | refine blk_drew ?_ | refine blk_alloc ?_ _)); exact BK111.out⟩, ⟨by (with_reducible repeat (first | refine blk_drewN ?_ _ | refine blk_drew ?_ | refine blk_alloc ?_ _)); exact BK119.out⟩, ⟨by repeat (first | (with_reducible first | exact HB.out | apply below_alloc | apply pw_below_drewN | apply below_drew1 | refine below_set ?_ GE111.out | refine below_set ?_ GE119.out) | exact HB.out)⟩⟩
                          · rw [if_neg c47] at H
                            have c47b0 : decide ((rd l3 x56_2) < 0) = false := decide_eq_false c47
                            clear c47
                            have H' := Aside0.mk H
                            clear H
                            try go_wp2
                            have n0_ : Aside0 (Kd.R (Kd.int .i64) 3 (((w43.setCell ⟨gb119, 0, none⟩ (.int .i64 ((rd_T39 l0_1 x56_2).f0))).setCell ⟨gb119, 1, none⟩ (.int .i64 ((rd_T39 l0_1 x56_2).f1))).setCell ⟨gb119, 2, none⟩ (.int .i64 ((rd_T39 l0_1 x56_2).f2))) w.heap.size (fun _ => True) v116 x11_2) := ⟨by (with_reducible repeat (first | apply Kd.R_alloc | apply Kd.R_drewN | apply Kd.R_drew)); exact Kd.R_mono (Kd.R_far (p := ⟨gb119, 2, none⟩) (Kd.R_far (p := ⟨gb119, 1, none⟩) (Kd.R_far (p := ⟨gb119, 0, none⟩) (Kd.R_types HO_11.out BK119.out (by decide)) (fun _ hk => hk.2) (.int .i64 ((rd_T39 l0_1 x56_2).f0))) (fun _ hk => hk.2) (.int .i64 ((rd_T39 l0_1 x56_2).f1))) (fun _ hk => hk.2) (.int .i64 ((rd_T39 l0_1 x56_2).f2))) (fun _ hk => trivial)⟩
                            have n1_ : Aside0 ((((w43.setCell ⟨gb119, 0, none⟩ (.int .i64 ((rd_T39 l0_1 x56_2).f0))).setCell ⟨gb119, 1, none⟩ (.int .i64 ((rd_T39 l0_1 x56_2).f1))).setCell ⟨gb119, 2, none⟩ (.int .i64 ((rd_T39 l0_1 x56_2).f2))).heap[gb111]? = some (.cells #[.int .i64 a0_0, .slice (some ad118) l0_1.length c0_1] 24 (0, 0))) := ⟨by (with_reducible repeat (first | refine blk_drewN ?_ _ | refine blk_drew ?_ | refine blk_alloc ?_ _)); refine blk_far ?_ NB111_119.out _; (with_reducible repeat (first | refine blk_drewN ?_ _ | refine blk_drew ?_ | refine blk_alloc ?_ _)); refine blk_far ?_ NB111_119.out _; (with_reducible repeat (first | refine blk_drewN ?_ _ | refine blk_drew ?_ | refine blk_alloc ?_ _)); refine blk_far ?_ NB111_119.out _; (with_reducible repeat (first | refine blk_drewN ?_ _ | refine blk_drew ?_ | refine blk_alloc ?_ _)); exact BK111.out⟩
                            have n2_ : Aside0 ((((w43.setCell ⟨gb119, 0, none⟩ (.int .i64 ((rd_T39 l0_1 x56_2).f0))).setCell ⟨gb119, 1, none⟩ (.int .i64 ((rd_T39 l0_1 x56_2).f1))).setCell ⟨gb119, 2, none⟩ (.int .i64 ((rd_T39 l0_1 x56_2).f2))).heap[gb119]? = some (.cells #[.int .i64 ((rd_T39 l0_1 x56_2).f0), .int .i64 ((rd_T39 l0_1 x56_2).f1), .int .i64 ((rd_T39 l0_1 x56_2).f2)] 39 (0, 0))) := ⟨by (with_reducible repeat (first | refine blk_drewN ?_ _ | refine blk_drew ?_ | refine blk_alloc ?_ _)); refine blk_put (cs := #[.int .i64 ((rd_T39 l0_1 x56_2).f0), .int .i64 ((rd_T39 l0_1 x56_2).f1), .int .i64 0]) ?_ 2 _ rfl; (with_reducible repeat (first | refine blk_drewN ?_ _ | refine blk_drew ?_ | refine blk_alloc ?_ _)); refine blk_put (cs := #[.int .i64 ((rd_T39 l0_1 x56_2).f0), .int .i64 0, .int .i64 0]) ?_ 1 _ rfl; (with_reducible repeat (first | refine blk_drewN ?_ _ | refine blk_drew ?_ | refine blk_alloc ?_ _)); refine blk_put (cs := #[.int .i64 0, .int .i64 0, .int .i64 0]) ?_ 0 _ rfl; (with_reducible repeat (first | refine blk_drewN ?_ _ | refine blk_drew ?_ | refine blk_alloc ?_ _)); exact BK119.out⟩
                            have n3_ : Aside0 (Below w.heap.size w (((w43.setCell ⟨gb119, 0, none⟩ (.int .i64 ((rd_T39 l0_1 x56_2).f0))).setCell ⟨gb119, 1, none⟩ (.int .i64 ((rd_T39 l0_1 x56_2).f1))).setCell ⟨gb119, 2, none⟩ (.int .i64 ((rd_T39 l0_1 x56_2).f2)))) := ⟨by repeat (first | (with_reducible first | exact HB.out | apply below_alloc | apply pw_below_drewN | apply below_drew1 | refine below_set ?_ GE111.out | refine below_set ?_ GE119.out) | exact HB.out)⟩
                            (try clear HO_11)
                            (try clear BK111)
                            (try clear BK119)
                            (try clear HB)
                            generalize (((w43.setCell ⟨gb119, 0, none⟩ (.int .i64 ((rd_T39 l0_1 x56_2).f0))).setCell ⟨gb119, 1, none⟩ (.int .i64 ((rd_T39 l0_1 x56_2).f1))).setCell ⟨gb119, 2, none⟩ (.int .i64 ((rd_T39 l0_1 x56_2).f2))) = w50 at n0_ n1_ n2_ n3_ ⊢
                            have HO_11 := n0_
                            have BK111 := n1_
                            have BK119 := n2_
                            have HB := n3_
                            clear n0_ n1_ n2_ n3_
                            have n0_ := Aside0.mk (Kd.R_drew HO_11.out)
                            have n1_ := Aside0.mk (blk_drew BK111.out)
                            have n2_ := Aside0.mk (blk_drew BK119.out)
                            have n3_ := Aside0.mk (below_drew1 HB.out)
                            clear HO_11
                            clear BK111
                            clear BK119
                            clear HB
                            have HO_11 := n0_
                            have BK111 := n1_
                            have BK119 := n2_
                            have HB := n3_
                            clear n0_ n1_ n2_ n3_
                            have p120 : 0 ≤ (x56_2 : Int) := of_decide_eq_true (by first | (with_reducible assumption) | assumption)
                            have q120 : x56_2 < (l3.length : Int) := of_decide_eq_true (by first | (with_reducible assumption) | assumption)
                            obtain ⟨ad120, e120, hx120_0⟩ := Kd.at_int HR3.out x56_2 p120 q120
                            have hw120_0 := hx120_0
                            cases e120
                            replace hx120_0 := (HB.out.cell (World.block_lt_of_cell? w _ hx120_0)).trans hx120_0
                            replace p120 := eq_true p120
                            replace q120 := eq_true q120
                            have p121 : 0 ≤ (x56_2 : Int) := of_decide_eq_true (by first | (with_reducible assumption) | assumption)
                            have q121 : x56_2 < (l3.length : Int) := of_decide_eq_true (by first | (with_reducible assumption) | assumption)
                            obtain ⟨ad121, e121, hx121_0⟩ := Kd.at_int HR3.out x56_2 p121 q121
                            have hw121_0 := hx121_0
                            obtain rfl : ad120 = ad121 := (by injection e121)
                            replace hx121_0 := (HB.out.cell (World.block_lt_of_cell? w _ hx121_0)).trans hx121_0
                            replace p121 := eq_true p121
                            replace q121 := eq_true q121
                            refine start_ (n := 14) (S := fun w' => w'.cell? ⟨gb119, 0, none⟩ = some (.int .i64 ((rd_T39 l0_1 x56_2).f0)) ∧ w'.cell? ⟨gb119, 1, none⟩ = some (.int .i64 ((rd_T39 l0_1 x56_2).f1)) ∧ w'.cell? ⟨gb119, 2, none⟩ = some (.int .i64 ((rd_T39 l0_1 x56_2).f2)) ∧ w'.cell? (ad120.add (x56_2).toNat) = some (.int .i64 (rd l3 x56_2)) ∧ w'.cell? (ad120.add (x56_2).toNat) = some (.int .i64 (rd l3 x56_2))) (ds := []) #[false, false, false, false, false, false, false, false, false, false, false, false, false, false] (by kernel_rfl) rfl rfl ⟨(blk_cell BK119.out 0).trans rfl, (blk_cell BK119.out 1).trans rfl, (blk_cell BK119.out 2).trans rfl, ((HB.out.cell (World.block_lt_of_cell? w _ hw120_0)).trans hw120_0), ((HB.out.cell (World.block_lt_of_cell? w _ hw121_0)).trans hw121_0)⟩ (fun hHeld => ?_); refine with_tabW flow_Check.tab8 flow_Check.bits8 (fun HT_ HW_ => ?_)
                            generalize w50.drew = w51 at HO_11 BK111 BK119 HB hx120_0 hx121_0 hHeld ⊢
                            refine pure_ (i := 0) (N := some 61) (v := ?_) (a' := ?_) #[true, false, false, false, false, false, false, false, false, false, false, false, false, false] rfl rfl (any_of HT_.out (by kernel_rfl)) (fun _ _ _ h => h) (Or.inl ⟨by rfl, ?_⟩) ?_ ?_
                            rotate_left
                            · intro w'
                              go_simp
                              with_reducible rfl
                            rotate_left
                            · simp only [Act.put, List.setIfInBounds_toArray, List.set_cons_zero, List.set_cons_succ, i64_w, i32_w]
                              rfl
                            refine pure_ (i := 1) (N := some 62) (v := ?_) (a' := ?_) #[true, true, false, false, false, false, false, false, false, false, false, false, false, false] rfl rfl (any_of HT_.out (by kernel_rfl)) (fun _ _ _ h => h) (Or.inl ⟨by rfl, ?_⟩) ?_ ?_
                            rotate_left
                            · intro w'
                              go_simp
                              with_reducible rfl
                            rotate_left
                            · simp only [Act.put, List.setIfInBounds_toArray, List.set_cons_zero, List.set_cons_succ, i64_w, i32_w]
                              rfl
                            refine pure_ (i := 2) (N := some 63) (v := ?_) (a' := ?_) #[true, true, true, false, false, false, false, false, false, false, false, false, false, false] rfl rfl (any_of HT_.out (by kernel_rfl)) (fun _ _ _ h => h) (Or.inl ⟨by rfl, ?_⟩) ?_ ?_
                            rotate_left
                            · intro w'
                              go_simp
                              with_reducible rfl
                            rotate_left
                            · simp only [Act.put, List.setIfInBounds_toArray, List.set_cons_zero, List.set_cons_succ, i64_w, i32_w]
                              rfl
                            refine take_ (i := 3) (N := some 64) (v := ?_) (a' := ?_) #[true, true, true, true, false, false, false, false, false, false, false, false, false, false] rfl rfl (take_ofW HT_.out HW_.out (by kernel_rfl)) (fun _ _ _ h => h) (Or.inl ⟨by rfl, ?_⟩) hHeld ?_ ?_
                            rotate_left
                            · rintro w' ⟨s0, s1, s2, s3, s4⟩
                              go_simp
                              with_reducible rfl
                            rotate_left
                            · simp only [Act.put, List.setIfInBounds_toArray, List.set_cons_zero, List.set_cons_succ, i64_w, i32_w]
                              rfl
                            refine pure_ (i := 4) (N := some 65) (v := ?_) (a' := ?_) #[true, true, true, true, true, false, false, false, false, false, false, false, false, false] rfl rfl (any_of HT_.out (by kernel_rfl)) (fun _ _ _ h => h) (Or.inl ⟨by rfl, ?_⟩) ?_ ?_
                            rotate_left
                            · intro w'
                              go_simp
                              with_reducible rfl
                            rotate_left
                            · simp only [Act.put, List.setIfInBounds_toArray, List.set_cons_zero, List.set_cons_succ, i64_w, i32_w]
                              rfl
                            refine pure_ (i := 5) (N := some 66) (v := ?_) (a' := ?_) #[true, true, true, true, true, true, false, false, false, false, false, false, false, false] rfl rfl (any_of HT_.out (by kernel_rfl)) (fun _ _ _ h => h) (Or.inl ⟨by rfl, ?_⟩) ?_ ?_
                            rotate_left
                            · intro w'
                              go_simp
                              with_reducible rfl
                            rotate_left
                            · simp only [Act.put, List.setIfInBounds_toArray, List.set_cons_zero, List.set_cons_succ, i64_w, i32_w]
                              rfl
                            refine pure_ (i := 6) (N := some 67) (v := ?_) (a' := ?_) #[true, true, true, true, true, true, true, false, false, false, false, false, false, false] rfl rfl (any_of HT_.out (by kernel_rfl)) (fun _ _ _ h => h) (Or.inl ⟨by rfl, ?_⟩) ?_ ?_
                            rotate_left
                            · intro w'
                              go_simp
                              with_reducible rfl
                            rotate_left
                            · simp only [Act.put, List.setIfInBounds_toArray, List.set_cons_zero, List.set_cons_succ, i64_w, i32_w]
                              rfl
                            refine pure_ (i := 7) (N := some 68) (v := ?_) (a' := ?_) #[true, true, true, true, true, true, true, true, false, false, false, false, false, false] rfl rfl (any_of HT_.out (by kernel_rfl)) (fun _ _ _ h => h) (Or.inl ⟨by rfl, ?_⟩) ?_ ?_
                            rotate_left
                            · intro w'
                              go_simp
                              with_reducible rfl
                            rotate_left
                            · simp only [Act.put, List.setIfInBounds_toArray, List.set_cons_zero, List.set_cons_succ, i64_w, i32_w]
                              rfl
                            refine pure_ (i := 8) (N := some 69) (v := ?_) (a' := ?_) #[true, true, true, true, true, true, true, true, true, false, false, false, false, false] rfl rfl (any_of HT_.out (by kernel_rfl)) (fun _ _ _ h => h) (Or.inl ⟨by rfl, ?_⟩) ?_ ?_
                            rotate_left
                            · intro w'
                              go_simp
                              with_reducible rfl
                            rotate_left
                            · simp only [Act.put, List.setIfInBounds_toArray, List.set_cons_zero, List.set_cons_succ, i64_w, i32_w]
                              rfl
                            refine pure_ (i := 10) (N := some 71) (v := ?_) (a' := ?_) #[true, true, true, true, true, true, true, true, true, false, true, false, false, false] rfl rfl (any_of HT_.out (by kernel_rfl)) (fun _ _ _ h => h) (Or.inl ⟨by rfl, ?_⟩) ?_ ?_
                            rotate_left
                            · intro w'
                              go_simp
                              with_reducible rfl
                            rotate_left
                            · simp only [Act.put, List.setIfInBounds_toArray, List.set_cons_zero, List.set_cons_succ, i64_w, i32_w]
                              rfl
                            refine take_ (i := 9) (N := some 70) (v := ?_) (a' := ?_) #[true, true, true, true, true, true, true, true, true, true, true, false, false, false] rfl rfl (take_ofW HT_.out HW_.out (by kernel_rfl)) (fun _ _ _ h => h) (Or.inl ⟨by rfl, ?_⟩) hHeld ?_ ?_
                            rotate_left
                            · rintro w' ⟨s0, s1, s2, s3, s4⟩
                              go_simp
                              with_reducible rfl
                            rotate_left
                            · simp only [Act.put, List.setIfInBounds_toArray, List.set_cons_zero, List.set_cons_succ, i64_w, i32_w]
                              rfl
                            refine take_ (i := 11) (N := some 72) (v := ?_) (a' := ?_) #[true, true, true, true, true, true, true, true, true, true, true, true, false, false] rfl rfl (take_ofW HT_.out HW_.out (by kernel_rfl)) (fun _ _ _ h => h) (Or.inl ⟨by rfl, ?_⟩) hHeld ?_ ?_
                            rotate_left
                            · rintro w' ⟨s0, s1, s2, s3, s4⟩
                              go_simp
                              with_reducible rfl
                            rotate_left
                            · simp only [Act.put, List.setIfInBounds_toArray, List.set_cons_zero, List.set_cons_succ, i64_w, i32_w]
                              rfl
                            refine pure_ (i := 12) (N := some 73) (v := ?_) (a' := ?_) #[true, true, true, true, true, true, true, true, true, true, true, true, true, false] rfl rfl (any_of HT_.out (by kernel_rfl)) (fun _ _ _ h => h) (Or.inl ⟨by rfl, ?_⟩) ?_ ?_
                            rotate_left
                            · intro w'
                              go_simp
                              with_reducible rfl
                            rotate_left
                            · simp only [Act.put, List.setIfInBounds_toArray, List.set_cons_zero, List.set_cons_succ, i64_w, i32_w]
                              rfl
                            refine pure_ (i := 13) (N := some 74) (v := ?_) (a' := ?_) #[true, true, true, true, true, true, true, true, true, true, true, true, true, true] rfl rfl (any_of HT_.out (by kernel_rfl)) (fun _ _ _ h => h) (Or.inl ⟨by rfl, ?_⟩) ?_ ?_
                            rotate_left
                            · intro w'
                              go_simp
                              with_reducible rfl
                            rotate_left
                            · simp only [Act.put, List.setIfInBounds_toArray, List.set_cons_zero, List.set_cons_succ, i64_w, i32_w]
                              rfl
                            refine done_ (done_of HT_.out (by kernel_rfl)) ?_
                            try go_wp2
                            go_meet
                            case rel => exact ⟨_, (decide ((rd l3 x56_2) > ((rd_T39 l0_1 x56_2).f2))), (by first | rfl | (simp; done) | (simp [*]; done)), H', ⟨by have := HJ5.out; have := HK2.out; first | omega | exact Nat.le_refl _⟩, ⟨by (with_reducible repeat (first | apply Kd.R_alloc | apply Kd.R_drewN | apply Kd.R_drew)); exact HO_11.out⟩, ⟨by (with_reducible repeat (first | refine blk_drewN ?_ _ | refine blk_drew ?_ | refine blk_alloc ?_ _)); exact BK111.out⟩, ⟨by (with_reducible repeat (first | refine blk_drewN ?_ _ | refine blk_drew ?_ | refine blk_alloc ?_ _)); exact BK119.out⟩, ⟨by repeat (first | (with_reducible first | exact HB.out | apply below_alloc | apply pw_below_drewN | apply below_drew1 | refine below_set ?_ GE111.out | refine below_set ?_ GE119.out) | exact HB.out)⟩⟩
                        · rw [if_neg c46] at H
                          exact absurd H (by simp)
                      case rest =>
                        clear HC42
                        try clear c1
                        try clear p1
                        try clear q1
                        try clear hx1
                        try clear c2
                        try clear p2
                        try clear c3
                        try clear c4
                        try clear c9
                        try clear c10
                        try clear c10b0
                        try clear c10b1
                        try clear c10b2
                        try clear c11
                        try clear c11b0
                        try clear c11b1
                        try clear p11
                        try clear q11
                        try clear hx11
                        try clear c12
                        try clear c12b0
                        try clear p12
                        try clear q12
                        try clear hx12
                        try clear c13
                        try clear c13b0
                        try clear q14
                        try clear c15
                        try clear c16
                        try clear c16b0
                        try clear c17
                        try clear c17b0
                        try clear c24
                        try clear c32
                        try clear c33
                        try clear c33b0
                        try clear c33b1
                        try clear c34
                        try clear c34b0
                        try clear c34b1
                        try clear c39
                        try clear c39b0
                        try clear c40
                        try clear c40b0
                        try clear c41
                        try clear c41b0
                        try clear c44
                        try clear c46
                        try clear c46b0
                        try clear c47
                        try clear c47b0
                        try clear hcz18_0
                        try clear hcz18_1
                        try clear hcz20_0
                        try clear hcz20_1
                        try clear hcz21_0
                        try clear hcz21_1
                        try clear hcz23_0
                        try clear hcz23_1
                        try clear hcz24_0
                        try clear hcz24_1
                        try clear hcz26_0
                        try clear hcz26_1
                        try clear hcz27_0
                        try clear hcz27_1
                        try clear hcz29_0
                        try clear hcz29_1
                        try clear hcz30_0
                        try clear hcz30_1
                        try clear hcz35_0
                        try clear hcz35_1
                        try clear hcz38_0
                        try clear hcz38_1
                        try clear hcz45_0
                        try clear hcz45_1
                        try clear hcz45_2
                        try clear hfz18_0
                        try clear hfz18_1
                        try clear hfz20_0
                        try clear hfz20_1
                        try clear hfz21_0
                        try clear hfz21_1
                        try clear hfz23_0
                        try clear hfz23_1
                        try clear hfz24_0
                        try clear hfz24_1
                        try clear hfz26_0
                        try clear hfz26_1
                        try clear hfz27_0
                        try clear hfz27_1
                        try clear hfz29_0
                        try clear hfz29_1
                        try clear hfz30_0
                        try clear hfz30_1
                        try clear hfz35_0
                        try clear hfz35_1
                        try clear hfz38_0
                        try clear hfz38_1
                        try clear hfz45_0
                        try clear hfz45_1
                        try clear hfz45_2
                        try clear hx113_0
                        try clear hx114_0
                        try clear hx118_0
                        try clear hx118_1
                        try clear hx118_2
                        try clear hx120_0
                        try clear hx121_0
                        try clear p1
                        try clear p11
                        try clear p113
                        try clear p114
                        try clear p118
                        try clear p120
                        try clear p121
                        try clear p2
                        try clear q1
                        try clear q11
                        try clear q113
                        try clear q114
                        try clear q118
                        try clear q120
                        try clear q121
                        try clear q14
                        obtain ⟨kq, x74_41, rfl, HA, HJ41, HO_11, BK111, BK119, HB⟩ := hcut
                        cases kq with
                        | zero => exact absurd HA.out (by simp [flow_Check.j2])
                        | succ kj41 =>
                          have H := HA.out
                          clear HA
                          simp only [flow_Check.j2] at H
                          by_cases c52 : x74_41 = true
                          · subst c52
                            have H1 : (some false) = some r := by rw [if_pos rfl] at H; exact H
                            clear H
                            have H := H1
                            clear H1
                            obtain rfl := Option.some.inj H
                            go_wp2
                            go_ret
                            exact ⟨by first | rfl | (simp [errW_none, errW_some] <;> rfl) | (simp [*, errW_none, errW_some] <;> rfl), by repeat (first | (with_reducible first | exact HB.out | apply below_alloc | apply pw_below_drewN | apply below_drew1 | refine below_set ?_ GE111.out | refine below_set ?_ GE119.out) | exact HB.out)⟩
                          · replace c52 := Bool.eq_false_iff.mpr c52
                            subst c52
                            have H1 : (if 0 ≤ ((rd_T39 l0_1 x56_2).f0) then (if ((rd_T39 l0_1 x56_2).f0) < (x11_2.length : Int) then (if 0 ≤ x56_2 then (if x56_2 < (l3.length : Int) then ((some (x11_2.set (((rd_T39 l0_1 x56_2).f0) : Int).toNat (wrap64 ((rd x11_2 ((rd_T39 l0_1 x56_2).f0)) + (rd l3 x56_2))) : List Int)).bind fun y124 => (if 0 ≤ ((rd_T39 l0_1 x56_2).f1) then (if ((rd_T39 l0_1 x56_2).f1) < (x11_2.length : Int) then ((some (y124.set (((rd_T39 l0_1 x56_2).f1) : Int).toNat (wrap64 ((rd y124 ((rd_T39 l0_1 x56_2).f1)) - (rd l3 x56_2))) : List Int)).bind fun y127 => (if ((rd_T39 l0_1 x56_2).f0) < (l4.length : Int) then (if rdOf false l4 ((rd_T39 l0_1 x56_2).f0) = true then (if ((rd_T39 l0_1 x56_2).f1) < (l4.length : Int) then (if rdOf false l4 ((rd_T39 l0_1 x56_2).f1) = true then (flow_Check.l0 kj41 a1 a2 l3 l4 y127 x12_2 l0_1 (l0_1.length : Int) (wrap64 (x56_2 + 1))) else (flow_Check.l0 kj41 a1 a2 l3 l4 y127 (wrap64 (x12_2 + ((rd_T39 l0_1 x56_2).f2))) l0_1 (l0_1.length : Int) (wrap64 (x56_2 + 1)))) else (none)) else (flow_Check.l0 kj41 a1 a2 l3 l4 y127 x12_2 l0_1 (l0_1.length : Int) (wrap64 (x56_2 + 1)))) else (none))) else (none)) else (none))) else (none)) else (none)) else (none)) else (none)) = some r := by rw [if_neg (show ¬ (false = true) by decide)] at H; exact H
                            clear H
                            have H := H1
                            clear H1
                            by_cases c53 : 0 ≤ ((rd_T39 l0_1 x56_2).f0)
                            · rw [if_pos c53] at H
                              have c53b0 : decide (0 ≤ ((rd_T39 l0_1 x56_2).f0)) = true := decide_eq_true c53
                              clear c53
                              by_cases c54 : ((rd_T39 l0_1 x56_2).f0) < (x11_2.length : Int)
                              · rw [if_pos c54] at H
                                have c54b0 : decide (((rd_T39 l0_1 x56_2).f0) < (x11_2.length : Int)) = true := decide_eq_true c54
                                clear c54
                                by_cases c55 : 0 ≤ x56_2
                                · rw [if_pos c55] at H
                                  have c55b0 : decide (0 ≤ x56_2) = true := decide_eq_true c55
                                  clear c55
                                  by_cases c56 : x56_2 < (l3.length : Int)
                                  · rw [if_pos c56] at H
                                    have c56b0 : decide (x56_2 < (l3.length : Int)) = true := decide_eq_true c56
                                    clear c56
                                    obtain ⟨y124, hy124⟩ : ∃ y_ : List Int, y_ = (x11_2.set (((rd_T39 l0_1 x56_2).f0) : Int).toNat (wrap64 ((rd x11_2 ((rd_T39 l0_1 x56_2).f0)) + (rd l3 x56_2)))) := ⟨_, rfl⟩
                                    replace H : (if 0 ≤ ((rd_T39 l0_1 x56_2).f1) then (if ((rd_T39 l0_1 x56_2).f1) < (x11_2.length : Int) then ((some (y124.set (((rd_T39 l0_1 x56_2).f1) : Int).toNat (wrap64 ((rd y124 ((rd_T39 l0_1 x56_2).f1)) - (rd l3 x56_2))) : List Int)).bind fun y127 => (if ((rd_T39 l0_1 x56_2).f0) < (l4.length : Int) then (if rdOf false l4 ((rd_T39 l0_1 x56_2).f0) = true then (if ((rd_T39 l0_1 x56_2).f1) < (l4.length : Int) then (if rdOf false l4 ((rd_T39 l0_1 x56_2).f1) = true then (flow_Check.l0 kj41 a1 a2 l3 l4 y127 x12_2 l0_1 (l0_1.length : Int) (wrap64 (x56_2 + 1))) else (flow_Check.l0 kj41 a1 a2 l3 l4 y127 (wrap64 (x12_2 + ((rd_T39 l0_1 x56_2).f2))) l0_1 (l0_1.length : Int) (wrap64 (x56_2 + 1)))) else (none)) else (flow_Check.l0 kj41 a1 a2 l3 l4 y127 x12_2 l0_1 (l0_1.length : Int) (wrap64 (x56_2 + 1)))) else (none))) else (none)) else (none)) = some r := by first | (rw [hy124]; with_reducible exact H) | (have H2_ := (Option.bind_some _ _).symm.trans H; rw [hy124]; with_reducible exact H2_) | (have H2_ := (Option.bind_some _ _).symm.trans H; with_reducible exact H2_) | with_reducible exact H | (rw [hy124]; exact H) | exact H
                                    have Ny124 := Aside0.mk hy124
                                    clear hy124
                                    by_cases c58 : 0 ≤ ((rd_T39 l0_1 x56_2).f1)
                                    · rw [if_pos c58] at H
                                      have c58b0 : decide (0 ≤ ((rd_T39 l0_1 x56_2).f1)) = true := decide_eq_true c58
                                      clear c58
                                      by_cases c59 : ((rd_T39 l0_1 x56_2).f1) < (x11_2.length : Int)
                                      · rw [if_pos c59] at H
                                        have c59b0 : decide (((rd_T39 l0_1 x56_2).f1) < (x11_2.length : Int)) = true := decide_eq_true c59
                                        clear c59
                                        obtain ⟨y127, hy127⟩ : ∃ y_ : List Int, y_ = (y124.set (((rd_T39 l0_1 x56_2).f1) : Int).toNat (wrap64 ((rd y124 ((rd_T39 l0_1 x56_2).f1)) - (rd l3 x56_2)))) := ⟨_, rfl⟩
                                        replace H : (if ((rd_T39 l0_1 x56_2).f0) < (l4.length : Int) then (if rdOf false l4 ((rd_T39 l0_1 x56_2).f0) = true then (if ((rd_T39 l0_1 x56_2).f1) < (l4.length : Int) then (if rdOf false l4 ((rd_T39 l0_1 x56_2).f1) = true then (flow_Check.l0 kj41 a1 a2 l3 l4 y127 x12_2 l0_1 (l0_1.length : Int) (wrap64 (x56_2 + 1))) else (flow_Check.l0 kj41 a1 a2 l3 l4 y127 (wrap64 (x12_2 + ((rd_T39 l0_1 x56_2).f2))) l0_1 (l0_1.length : Int) (wrap64 (x56_2 + 1)))) else (none)) else (flow_Check.l0 kj41 a1 a2 l3 l4 y127 x12_2 l0_1 (l0_1.length : Int) (wrap64 (x56_2 + 1)))) else (none)) = some r := by first | (rw [hy127]; with_reducible exact H) | (have H2_ := (Option.bind_some _ _).symm.trans H; rw [hy127]; with_reducible exact H2_) | (have H2_ := (Option.bind_some _ _).symm.trans H; with_reducible exact H2_) | with_reducible exact H | (rw [hy127]; exact H) | exact H
                                        have Ny127 := Aside0.mk hy127
                                        clear hy127
                                        by_cases c61 : ((rd_T39 l0_1 x56_2).f0) < (l4.length : Int)
                                        · rw [if_pos c61] at H
                                          have c61b0 : decide (((rd_T39 l0_1 x56_2).f0) < (l4.length : Int)) = true := decide_eq_true c61
                                          clear c61
                                          obtain ⟨bq62, hbq62⟩ : ∃ b_ : Bool, b_ = (rdOf false l4 ((rd_T39 l0_1 x56_2).f0)) := ⟨_, rfl⟩
                                          replace H : (if bq62 = true then (if ((rd_T39 l0_1 x56_2).f1) < (l4.length : Int) then (if rdOf false l4 ((rd_T39 l0_1 x56_2).f1) = true then (flow_Check.l0 kj41 a1 a2 l3 l4 y127 x12_2 l0_1 (l0_1.length : Int) (wrap64 (x56_2 + 1))) else (flow_Check.l0 kj41 a1 a2 l3 l4 y127 (wrap64 (x12_2 + ((rd_T39 l0_1 x56_2).f2))) l0_1 (l0_1.length : Int) (wrap64 (x56_2 + 1)))) else (none)) else (flow_Check.l0 kj41 a1 a2 l3 l4 y127 x12_2 l0_1 (l0_1.length : Int) (wrap64 (x56_2 + 1)))) = some r := by rw [← hbq62] at H; exact H
                                          have Nbq62 := Aside0.mk hbq62
                                          clear hbq62
                                          by_cases c63 : bq62 = true
                                          · subst c63
                                            have H1 : (if ((rd_T39 l0_1 x56_2).f1) < (l4.length : Int) then (if rdOf false l4 ((rd_T39 l0_1 x56_2).f1) = true then (flow_Check.l0 kj41 a1 a2 l3 l4 y127 x12_2 l0_1 (l0_1.length : Int) (wrap64 (x56_2 + 1))) else (flow_Check.l0 kj41 a1 a2 l3 l4 y127 (wrap64 (x12_2 + ((rd_T39 l0_1 x56_2).f2))) l0_1 (l0_1.length : Int) (wrap64 (x56_2 + 1)))) else (none)) = some r := by rw [if_pos rfl] at H; exact H
                                            clear H
                                            have H := H1
                                            clear H1
                                            by_cases c64 : ((rd_T39 l0_1 x56_2).f1) < (l4.length : Int)
                                            · rw [if_pos c64] at H
                                              have c64b0 : decide (((rd_T39 l0_1 x56_2).f1) < (l4.length : Int)) = true := decide_eq_true c64
                                              clear c64
                                              obtain ⟨bq65, hbq65⟩ : ∃ b_ : Bool, b_ = (rdOf false l4 ((rd_T39 l0_1 x56_2).f1)) := ⟨_, rfl⟩
                                              replace H : (if bq65 = true then (flow_Check.l0 kj41 a1 a2 l3 l4 y127 x12_2 l0_1 (l0_1.length : Int) (wrap64 (x56_2 + 1))) else (flow_Check.l0 kj41 a1 a2 l3 l4 y127 (wrap64 (x12_2 + ((rd_T39 l0_1 x56_2).f2))) l0_1 (l0_1.length : Int) (wrap64 (x56_2 + 1)))) = some r := by rw [← hbq65] at H; exact H
                                              have Nbq65 := Aside0.mk hbq65
                                              clear hbq65
                                              by_cases c66 : bq65 = true
                                              · subst c66
                                                have H1 : (flow_Check.l0 kj41 a1 a2 l3 l4 y127 x12_2 l0_1 (l0_1.length : Int) (wrap64 (x56_2 + 1))) = some r := by rw [if_pos rfl] at H; exact H
                                                clear H
                                                have H := H1
                                                clear H1
                                                have H' := Aside0.mk H
                                                clear H
                                                try go_wp2
                                                have n0_ := Aside0.mk (Kd.R_drew HO_11.out)
                                                have n1_ := Aside0.mk (blk_drew BK111.out)
                                                have n2_ := Aside0.mk (blk_drew BK119.out)
                                                have n3_ := Aside0.mk (below_drew1 HB.out)
                                                clear HO_11
                                                clear BK111
                                                clear BK119
                                                clear HB
                                                have HO_11 := n0_
                                                have BK111 := n1_
                                                have BK119 := n2_
                                                have HB := n3_
                                                clear n0_ n1_ n2_ n3_
                                                obtain ⟨Ao68, co68, eo68⟩ := Kd.R_slice HO_11.out
                                                (first | subst eo68 | (injection eo68 with f1_ f2_ f3_; have f4_ := f1_.symm; have f5_ := f3_.symm; clear f1_ f2_ f3_; subst f4_; subst f5_))
                                                have p122 : 0 ≤ (((rd_T39 l0_1 x56_2).f0) : Int) := of_decide_eq_true (by first | (with_reducible assumption) | assumption)
                                                have q122 : ((rd_T39 l0_1 x56_2).f0) < (x11_2.length : Int) := of_decide_eq_true (by first | (with_reducible assumption) | assumption)
                                                obtain ⟨ad122, e122, hx122_0⟩ := Kd.at_int (Kd.R_reads' HO_11.out).2.2 ((rd_T39 l0_1 x56_2).f0) p122 q122
                                                cases e122
                                                replace p122 := eq_true p122
                                                replace q122 := eq_true q122
                                                have p123 : 0 ≤ (x56_2 : Int) := of_decide_eq_true (by first | (with_reducible assumption) | assumption)
                                                have q123 : x56_2 < (l3.length : Int) := of_decide_eq_true (by first | (with_reducible assumption) | assumption)
                                                obtain ⟨ad123, e123, hx123_0⟩ := Kd.at_int HR3.out x56_2 p123 q123
                                                have hw123_0 := hx123_0
                                                cases e123
                                                replace hx123_0 := (HB.out.cell (World.block_lt_of_cell? w _ hx123_0)).trans hx123_0
                                                replace p123 := eq_true p123
                                                replace q123 := eq_true q123
                                                have p57 : 0 ≤ (((rd_T39 l0_1 x56_2).f0) : Int) := of_decide_eq_true (by first | (with_reducible assumption) | assumption)
                                                have q57 : (((rd_T39 l0_1 x56_2).f0) : Int) < ((x11_2.length : Int) : Int) := of_decide_eq_true (by first | (with_reducible assumption) | assumption)
                                                obtain ⟨go57, co57, eo57, gb57, gl57, cl57, HG57⟩ := Kd.R_form HO_11.out (by omega)
                                                (first | cases eo57 | (injection eo57 with ea_ en_ ec_; (first | subst ea_ | (injection ea_ with ea_; subst ea_)); subst ec_; clear en_))
                                                have GB57 := Aside0.mk gb57
                                                have GG57 := Aside0.mk HG57
                                                clear gb57 gl57 HG57
                                                (first | simp only [add_plain] at hx122_0 | skip)
                                                obtain ⟨hx57_0, hf57_0⟩ := Kd.R_celln 0 HO_11.out (((rd_T39 l0_1 x56_2).f0) : Int) p57 q57
                                                replace p57 := eq_true p57
                                                replace q57 := eq_true q57
                                                have HP69 := Kd.R_putn HO_11.out (((rd_T39 l0_1 x56_2).f0) : Int) (wrap64 ((rd x11_2 ((rd_T39 l0_1 x56_2).f0)) + (rd l3 x56_2)))
                                                rw [← Ny124.out] at HP69
                                                have HQ69 := Aside0.mk HP69
                                                clear HP69
                                                refine start_ (n := 12) (S := fun w' => w'.cell? ⟨gb119, 0, none⟩ = some (.int .i64 ((rd_T39 l0_1 x56_2).f0)) ∧ w'.cell? ⟨gb119, 1, none⟩ = some (.int .i64 ((rd_T39 l0_1 x56_2).f1)) ∧ w'.cell? ⟨gb119, 2, none⟩ = some (.int .i64 ((rd_T39 l0_1 x56_2).f2)) ∧ w'.cell? ⟨go57, (((rd_T39 l0_1 x56_2).f0)).toNat, none⟩ = some (.int .i64 (rd x11_2 ((rd_T39 l0_1 x56_2).f0))) ∧ w'.cell? (ad123.add (x56_2).toNat) = some (.int .i64 (rd l3 x56_2))) (ds := [11]) #[false, false, false, false, false, false, false, false, false, false, false, false] (by kernel_rfl) rfl rfl ⟨(blk_cell BK119.out 0).trans rfl, (blk_cell BK119.out 1).trans rfl, (blk_cell BK119.out 2).trans rfl, hx122_0, ((HB.out.cell (World.block_lt_of_cell? w _ hw123_0)).trans hw123_0)⟩ (fun hHeld => ?_); refine with_tabW flow_Check.tab10 flow_Check.bits10 (fun HT_ HW_ => ?_)
                                                generalize wc.drew = w67 at HO_11 BK111 BK119 HB GG57 HQ69 hf57_0 hx122_0 hx123_0 hx57_0 hHeld ⊢
                                                refine pure_ (i := 0) (N := some 75) (v := ?_) (a' := ?_) #[true, false, false, false, false, false, false, false, false, false, false, false] rfl rfl (any_of HT_.out (by kernel_rfl)) (fun _ _ _ h => h) (Or.inl ⟨by rfl, ?_⟩) ?_ ?_
                                                rotate_left
                                                · intro w'
                                                  go_simp
                                                  with_reducible rfl
                                                rotate_left
                                                · simp only [Act.put, List.setIfInBounds_toArray, List.set_cons_zero, List.set_cons_succ, i64_w, i32_w]
                                                  rfl
                                                refine pure_ (i := 1) (N := some 76) (v := ?_) (a' := ?_) #[true, true, false, false, false, false, false, false, false, false, false, false] rfl rfl (any_of HT_.out (by kernel_rfl)) (fun _ _ _ h => h) (Or.inl ⟨by rfl, ?_⟩) ?_ ?_
                                                rotate_left
                                                · intro w'
                                                  go_simp
                                                  with_reducible rfl
                                                rotate_left
                                                · simp only [Act.put, List.setIfInBounds_toArray, List.set_cons_zero, List.set_cons_succ, i64_w, i32_w]
                                                  rfl
                                                refine pure_ (i := 5) (N := some 80) (v := ?_) (a' := ?_) #[true, true, false, false, false, true, false, false, false, false, false, false] rfl rfl (any_of HT_.out (by kernel_rfl)) (fun _ _ _ h => h) (Or.inl ⟨by rfl, ?_⟩) ?_ ?_
                                                rotate_left
                                                · intro w'
                                                  go_simp
                                                  with_reducible rfl
                                                rotate_left
                                                · simp only [Act.put, List.setIfInBounds_toArray, List.set_cons_zero, List.set_cons_succ, i64_w, i32_w]
                                                  rfl
                                                refine pure_ (i := 6) (N := some 81) (v := ?_) (a' := ?_) #[true, true, false, false, false, true, true, false, false, false, false, false] rfl rfl (any_of HT_.out (by kernel_rfl)) (fun _ _ _ h => h) (Or.inl ⟨by rfl, ?_⟩) ?_ ?_
                                                rotate_left
                                                · intro w'
                                                  go_simp
                                                  with_reducible rfl
                                                rotate_left
                                                · simp only [Act.put, List.setIfInBounds_toArray, List.set_cons_zero, List.set_cons_succ, i64_w, i32_w]
                                                  rfl
                                                refine pure_ (i := 7) (N := some 82) (v := ?_) (a' := ?_) #[true, true, false, false, false, true, true, true, false, false, false, false] rfl rfl (any_of HT_.out (by kernel_rfl)) (fun _ _ _ h => h) (Or.inl ⟨by rfl, ?_⟩) ?_ ?_
                                                rotate_left
                                                · intro w'
                                                  go_simp
                                                  with_reducible rfl
                                                rotate_left
                                                · simp only [Act.put, List.setIfInBounds_toArray, List.set_cons_zero, List.set_cons_succ, i64_w, i32_w]
                                                  rfl
                                                refine take_ (i := 2) (N := some 77) (v := ?_) (a' := ?_) #[true, true, true, false, false, true, true, true, false, false, false, false] rfl rfl (take_ofW HT_.out HW_.out (by kernel_rfl)) (fun _ _ _ h => h) (Or.inl ⟨by rfl, ?_⟩) hHeld ?_ ?_
                                                rotate_left
                                                · rintro w' ⟨s0, s1, s2, s3, s4⟩
                                                  go_simp
                                                  with_reducible rfl
                                                rotate_left
                                                · simp only [Act.put, List.setIfInBounds_toArray, List.set_cons_zero, List.set_cons_succ, i64_w, i32_w]
                                                  rfl
                                                refine pure_ (i := 3) (N := some 78) (v := ?_) (a' := ?_) #[true, true, true, true, false, true, true, true, false, false, false, false] rfl rfl (any_of HT_.out (by kernel_rfl)) (fun _ _ _ h => h) (Or.inl ⟨by rfl, ?_⟩) ?_ ?_
                                                rotate_left
                                                · intro w'
                                                  go_simp
                                                  with_reducible rfl
                                                rotate_left
                                                · simp only [Act.put, List.setIfInBounds_toArray, List.set_cons_zero, List.set_cons_succ, i64_w, i32_w]
                                                  rfl
                                                refine take_ (i := 4) (N := some 79) (v := ?_) (a' := ?_) #[true, true, true, true, true, true, true, true, false, false, false, false] rfl rfl (take_ofW HT_.out HW_.out (by kernel_rfl)) (fun _ _ _ h => h) (Or.inl ⟨by rfl, ?_⟩) hHeld ?_ ?_
                                                rotate_left
                                                · rintro w' ⟨s0, s1, s2, s3, s4⟩
                                                  go_simp
                                                  with_reducible rfl
                                                rotate_left
                                                · simp only [Act.put, List.setIfInBounds_toArray, List.set_cons_zero, List.set_cons_succ, i64_w, i32_w]
                                                  rfl
                                                refine take_ (i := 8) (N := some 83) (v := ?_) (a' := ?_) #[true, true, true, true, true, true, true, true, true, false, false, false] rfl rfl (take_ofW HT_.out HW_.out (by kernel_rfl)) (fun _ _ _ h => h) (Or.inl ⟨by rfl, ?_⟩) hHeld ?_ ?_
                                                rotate_left
                                                · rintro w' ⟨s0, s1, s2, s3, s4⟩
                                                  go_simp
                                                  with_reducible rfl
                                                rotate_left
                                                · simp only [Act.put, List.setIfInBounds_toArray, List.set_cons_zero, List.set_cons_succ, i64_w, i32_w]
                                                  rfl
                                                refine pure_ (i := 9) (N := some 84) (v := ?_) (a' := ?_) #[true, true, true, true, true, true, true, true, true, true, false, false] rfl rfl (any_of HT_.out (by kernel_rfl)) (fun _ _ _ h => h) (Or.inl ⟨by rfl, ?_⟩) ?_ ?_
                                                rotate_left
                                                · intro w'
                                                  go_simp
                                                  with_reducible rfl
                                                rotate_left
                                                · simp only [Act.put, List.setIfInBounds_toArray, List.set_cons_zero, List.set_cons_succ, i64_w, i32_w]
                                                  rfl
                                                refine pure_ (i := 10) (N := some 85) (v := ?_) (a' := ?_) #[true, true, true, true, true, true, true, true, true, true, true, false] rfl rfl (any_of HT_.out (by kernel_rfl)) (fun _ _ _ h => h) (Or.inl ⟨by rfl, ?_⟩) ?_ ?_
                                                rotate_left
                                                · intro w'
                                                  go_simp
                                                  with_reducible rfl
                                                rotate_left
                                                · simp only [Act.put, List.setIfInBounds_toArray, List.set_cons_zero, List.set_cons_succ, i64_w, i32_w]
                                                  rfl
                                                refine last_ (i := 11) (N := none) #[true, true, true, true, true, true, true, true, true, true, true, true] rfl rfl (one_of HT_.out (by kernel_rfl)) (by decide) (fun K hK => ?_)
                                                refine skip_ (w1 := ?_) (by rfl) rfl ?_ ?_
                                                rotate_left
                                                · go_simp
                                                  rfl
                                                refine hK.out _ _ ?_
                                                clear hK K
                                                refine done_ (done_of HT_.out (by kernel_rfl)) ?_
                                                try go_wp2
                                                have n0_ : Aside0 (Kd.R (Kd.int .i64) 3 (w67.setCell ⟨go57, (((rd_T39 l0_1 x56_2).f0) : Int).toNat, none⟩ (.int .i64 (wrap64 ((rd x11_2 ((rd_T39 l0_1 x56_2).f0)) + (rd l3 x56_2))))) w.heap.size (fun _ => True) (.slice (some ⟨go57, 0, none⟩) x11_2.length co68) y124) := ⟨by (with_reducible repeat (first | apply Kd.R_alloc | apply Kd.R_drewN | apply Kd.R_drew)); exact HQ69.out⟩
                                                have n1_ : Aside0 ((w67.setCell ⟨go57, (((rd_T39 l0_1 x56_2).f0) : Int).toNat, none⟩ (.int .i64 (wrap64 ((rd x11_2 ((rd_T39 l0_1 x56_2).f0)) + (rd l3 x56_2))))).heap[gb111]? = some (.cells #[.int .i64 a0_0, .slice (some ad118) l0_1.length c0_1] 24 (0, 0))) := ⟨by (with_reducible repeat (first | refine blk_drewN ?_ _ | refine blk_drew ?_ | refine blk_alloc ?_ _)); refine blk_far ?_ (by have h_ := Kd.R_ne HO_11.out BK111.out (by decide); intro e_; exact h_ (by rw [e_]; rfl)) _; (with_reducible repeat (first | refine blk_drewN ?_ _ | refine blk_drew ?_ | refine blk_alloc ?_ _)); exact BK111.out⟩
                                                have n2_ : Aside0 ((w67.setCell ⟨go57, (((rd_T39 l0_1 x56_2).f0) : Int).toNat, none⟩ (.int .i64 (wrap64 ((rd x11_2 ((rd_T39 l0_1 x56_2).f0)) + (rd l3 x56_2))))).heap[gb119]? = some (.cells #[.int .i64 ((rd_T39 l0_1 x56_2).f0), .int .i64 ((rd_T39 l0_1 x56_2).f1), .int .i64 ((rd_T39 l0_1 x56_2).f2)] 39 (0, 0))) := ⟨by (with_reducible repeat (first | refine blk_drewN ?_ _ | refine blk_drew ?_ | refine blk_alloc ?_ _)); refine blk_far ?_ (by have h_ := Kd.R_ne HO_11.out BK119.out (by decide); intro e_; exact h_ (by rw [e_]; rfl)) _; (with_reducible repeat (first | refine blk_drewN ?_ _ | refine blk_drew ?_ | refine blk_alloc ?_ _)); exact BK119.out⟩
                                                have n3_ : Aside0 (Below w.heap.size w (w67.setCell ⟨go57, (((rd_T39 l0_1 x56_2).f0) : Int).toNat, none⟩ (.int .i64 (wrap64 ((rd x11_2 ((rd_T39 l0_1 x56_2).f0)) + (rd l3 x56_2)))))) := ⟨by repeat (first | (with_reducible first | exact HB.out | apply below_alloc | apply pw_below_drewN | apply below_drew1 | refine below_set ?_ GB57.out | refine below_set ?_ GE111.out | refine below_set ?_ GE119.out) | exact HB.out)⟩
                                                (try clear HO_11)
                                                (try clear BK111)
                                                (try clear BK119)
                                                (try clear HB)
                                                generalize (w67.setCell ⟨go57, (((rd_T39 l0_1 x56_2).f0) : Int).toNat, none⟩ (.int .i64 (wrap64 ((rd x11_2 ((rd_T39 l0_1 x56_2).f0)) + (rd l3 x56_2))))) = w70 at n0_ n1_ n2_ n3_ ⊢
                                                have HO_11 := n0_
                                                have BK111 := n1_
                                                have BK119 := n2_
                                                have HB := n3_
                                                clear n0_ n1_ n2_ n3_
                                                have n0_ := Aside0.mk (Kd.R_drew HO_11.out)
                                                have n1_ := Aside0.mk (blk_drew BK111.out)
                                                have n2_ := Aside0.mk (blk_drew BK119.out)
                                                have n3_ := Aside0.mk (below_drew1 HB.out)
                                                clear HO_11
                                                clear BK111
                                                clear BK119
                                                clear HB
                                                have HO_11 := n0_
                                                have BK111 := n1_
                                                have BK119 := n2_
                                                have HB := n3_
                                                clear n0_ n1_ n2_ n3_
                                                have p125 : 0 ≤ (((rd_T39 l0_1 x56_2).f1) : Int) := of_decide_eq_true (by first | (with_reducible assumption) | assumption)
                                                have q125 : ((rd_T39 l0_1 x56_2).f1) < (y124.length : Int) := (by have h_ : (((rd_T39 l0_1 x56_2).f1) : Int) < ((x11_2.length : Int) : Int) := of_decide_eq_true (by first | (with_reducible assumption) | assumption); first | (have e_ := (Kd.R_reads' HO_11.out).1; omega) | simpa only [Ny124.out, List.length_set] using h_)
                                                have ql125 : ((((rd_T39 l0_1 x56_2).f1) : Int) < ((x11_2.length : Int) : Int)) = True := eq_true (of_decide_eq_true (by first | (with_reducible assumption) | assumption))
                                                obtain ⟨ad125, e125, hx125_0⟩ := Kd.at_int (Kd.R_reads' HO_11.out).2.2 ((rd_T39 l0_1 x56_2).f1) p125 q125
                                                obtain rfl : (⟨go57, 0, none⟩ : Addr) = ad125 := (by injection e125)
                                                (first | simp only [add_plain] at hx125_0 | simp only [add_at] at hx125_0 | simp only [Addr.add, Nat.zero_add] at hx125_0 | skip)
                                                replace p125 := eq_true p125
                                                replace q125 := eq_true q125
                                                have p126 : 0 ≤ (x56_2 : Int) := of_decide_eq_true (by first | (with_reducible assumption) | assumption)
                                                have q126 : x56_2 < (l3.length : Int) := of_decide_eq_true (by first | (with_reducible assumption) | assumption)
                                                obtain ⟨ad126, e126, hx126_0⟩ := Kd.at_int HR3.out x56_2 p126 q126
                                                have hw126_0 := hx126_0
                                                obtain rfl : ad123 = ad126 := (by injection e126)
                                                replace hx126_0 := (HB.out.cell (World.block_lt_of_cell? w _ hx126_0)).trans hx126_0
                                                replace p126 := eq_true p126
                                                replace q126 := eq_true q126
                                                have p60 : 0 ≤ (((rd_T39 l0_1 x56_2).f1) : Int) := of_decide_eq_true (by first | (with_reducible assumption) | assumption)
                                                have q60 : (((rd_T39 l0_1 x56_2).f1) : Int) < ((x11_2.length : Int) : Int) := of_decide_eq_true (by first | (with_reducible assumption) | assumption)
                                                obtain ⟨hx60_0, hf60_0⟩ := Kd.R_celln 0 HO_11.out (((rd_T39 l0_1 x56_2).f1) : Int) p60 q60
                                                replace p60 := eq_true p60
                                                replace q60 := eq_true q60
                                                have HP72 := Kd.R_putn HO_11.out (((rd_T39 l0_1 x56_2).f1) : Int) (wrap64 ((rd y124 ((rd_T39 l0_1 x56_2).f1)) - (rd l3 x56_2)))
                                                rw [← Ny127.out] at HP72
                                                have HQ72 := Aside0.mk HP72
                                                clear HP72
                                                refine start_ (n := 12) (S := fun w' => w'.cell? ⟨gb119, 0, none⟩ = some (.int .i64 ((rd_T39 l0_1 x56_2).f0)) ∧ w'.cell? ⟨gb119, 1, none⟩ = some (.int .i64 ((rd_T39 l0_1 x56_2).f1)) ∧ w'.cell? ⟨gb119, 2, none⟩ = some (.int .i64 ((rd_T39 l0_1 x56_2).f2)) ∧ w'.cell? ⟨go57, (((rd_T39 l0_1 x56_2).f1)).toNat, none⟩ = some (.int .i64 (rd y124 ((rd_T39 l0_1 x56_2).f1))) ∧ w'.cell? (ad123.add (x56_2).toNat) = some (.int .i64 (rd l3 x56_2))) (ds := [11]) #[false, false, false, false, false, false, false, false, false, false, false, false] (by kernel_rfl) rfl rfl ⟨(blk_cell BK119.out 0).trans rfl, (blk_cell BK119.out 1).trans rfl, (blk_cell BK119.out 2).trans rfl, hx125_0, ((HB.out.cell (World.block_lt_of_cell? w _ hw126_0)).trans hw126_0)⟩ (fun hHeld => ?_); refine with_tabW flow_Check.tab11 flow_Check.bits11 (fun HT_ HW_ => ?_)
                                                generalize w70.drew = w71 at HO_11 BK111 BK119 HB HQ69 HQ72 hf60_0 hx125_0 hx126_0 hx60_0 hHeld ⊢
                                                refine pure_ (i := 0) (N := some 86) (v := ?_) (a' := ?_) #[true, false, false, false, false, false, false, false, false, false, false, false] rfl rfl (any_of HT_.out (by kernel_rfl)) (fun _ _ _ h => h) (Or.inl ⟨by rfl, ?_⟩) ?_ ?_
                                                rotate_left
                                                · intro w'
                                                  go_simp
                                                  with_reducible rfl
                                                rotate_left
                                                · simp only [Act.put, List.setIfInBounds_toArray, List.set_cons_zero, List.set_cons_succ, i64_w, i32_w]
                                                  rfl
                                                refine pure_ (i := 1) (N := some 87) (v := ?_) (a' := ?_) #[true, true, false, false, false, false, false, false, false, false, false, false] rfl rfl (any_of HT_.out (by kernel_rfl)) (fun _ _ _ h => h) (Or.inl ⟨by rfl, ?_⟩) ?_ ?_
                                                rotate_left
                                                · intro w'
                                                  go_simp
                                                  with_reducible rfl
                                                rotate_left
                                                · simp only [Act.put, List.setIfInBounds_toArray, List.set_cons_zero, List.set_cons_succ, i64_w, i32_w]
                                                  rfl
                                                refine pure_ (i := 5) (N := some 91) (v := ?_) (a' := ?_) #[true, true, false, false, false, true, false, false, false, false, false, false] rfl rfl (any_of HT_.out (by kernel_rfl)) (fun _ _ _ h => h) (Or.inl ⟨by rfl, ?_⟩) ?_ ?_
                                                rotate_left
                                                · intro w'
                                                  go_simp
                                                  with_reducible rfl
                                                rotate_left
                                                · simp only [Act.put, List.setIfInBounds_toArray, List.set_cons_zero, List.set_cons_succ, i64_w, i32_w]
                                                  rfl
                                                refine pure_ (i := 6) (N := some 92) (v := ?_) (a' := ?_) #[true, true, false, false, false, true, true, false, false, false, false, false] rfl rfl (any_of HT_.out (by kernel_rfl)) (fun _ _ _ h => h) (Or.inl ⟨by rfl, ?_⟩) ?_ ?_
                                                rotate_left
                                                · intro w'
                                                  go_simp
                                                  with_reducible rfl
                                                rotate_left
                                                · simp only [Act.put, List.setIfInBounds_toArray, List.set_cons_zero, List.set_cons_succ, i64_w, i32_w]
                                                  rfl
                                                refine pure_ (i := 7) (N := some 93) (v := ?_) (a' := ?_) #[true, true, false, false, false, true, true, true, false, false, false, false] rfl rfl (any_of HT_.out (by kernel_rfl)) (fun _ _ _ h => h) (Or.inl ⟨by rfl, ?_⟩) ?_ ?_
                                                rotate_left
                                                · intro w'
                                                  go_simp
                                                  with_reducible rfl
                                                rotate_left
                                                · simp only [Act.put, List.setIfInBounds_toArray, List.set_cons_zero, List.set_cons_succ, i64_w, i32_w]
                                                  rfl
                                                refine take_ (i := 2) (N := some 88) (v := ?_) (a' := ?_) #[true, true, true, false, false, true, true, true, false, false, false, false] rfl rfl (take_ofW HT_.out HW_.out (by kernel_rfl)) (fun _ _ _ h => h) (Or.inl ⟨by rfl, ?_⟩) hHeld ?_ ?_
                                                rotate_left
                                                · rintro w' ⟨s0, s1, s2, s3, s4⟩
                                                  go_simp
                                                  with_reducible rfl
                                                rotate_left
                                                · simp only [Act.put, List.setIfInBounds_toArray, List.set_cons_zero, List.set_cons_succ, i64_w, i32_w]
                                                  rfl
                                                refine pure_ (i := 3) (N := some 89) (v := ?_) (a' := ?_) #[true, true, true, true, false, true, true, true, false, false, false, false] rfl rfl (any_of HT_.out (by kernel_rfl)) (fun _ _ _ h => h) (Or.inl ⟨by rfl, ?_⟩) ?_ ?_
                                                rotate_left
                                                · intro w'
                                                  go_simp
                                                  with_reducible rfl
                                                rotate_left
                                                · simp only [Act.put, List.setIfInBounds_toArray, List.set_cons_zero, List.set_cons_succ, i64_w, i32_w]
                                                  rfl
                                                refine take_ (i := 4) (N := some 90) (v := ?_) (a' := ?_) #[true, true, true, true, true, true, true, true, false, false, false, false] rfl rfl (take_ofW HT_.out HW_.out (by kernel_rfl)) (fun _ _ _ h => h) (Or.inl ⟨by rfl, ?_⟩) hHeld ?_ ?_
                                                rotate_left
                                                · rintro w' ⟨s0, s1, s2, s3, s4⟩
                                                  go_simp
                                                  with_reducible rfl
                                                rotate_left
                                                · simp only [Act.put, List.setIfInBounds_toArray, List.set_cons_zero, List.set_cons_succ, i64_w, i32_w]
                                                  rfl
                                                refine take_ (i := 8) (N := some 94) (v := ?_) (a' := ?_) #[true, true, true, true, true, true, true, true, true, false, false, false] rfl rfl (take_ofW HT_.out HW_.out (by kernel_rfl)) (fun _ _ _ h => h) (Or.inl ⟨by rfl, ?_⟩) hHeld ?_ ?_
                                                rotate_left
                                                · rintro w' ⟨s0, s1, s2, s3, s4⟩
                                                  go_simp
                                                  with_reducible rfl
                                                rotate_left
                                                · simp only [Act.put, List.setIfInBounds_toArray, List.set_cons_zero, List.set_cons_succ, i64_w, i32_w]
                                                  rfl
                                                refine pure_ (i := 9) (N := some 95) (v := ?_) (a' := ?_) #[true, true, true, true, true, true, true, true, true, true, false, false] rfl rfl (any_of HT_.out (by kernel_rfl)) (fun _ _ _ h => h) (Or.inl ⟨by rfl, ?_⟩) ?_ ?_
                                                rotate_left
                                                · intro w'
                                                  go_simp
                                                  with_reducible rfl
                                                rotate_left
                                                · simp only [Act.put, List.setIfInBounds_toArray, List.set_cons_zero, List.set_cons_succ, i64_w, i32_w]
                                                  rfl
                                                refine pure_ (i := 10) (N := some 96) (v := ?_) (a' := ?_) #[true, true, true, true, true, true, true, true, true, true, true, false] rfl rfl (any_of HT_.out (by kernel_rfl)) (fun _ _ _ h => h) (Or.inl ⟨by rfl, ?_⟩) ?_ ?_
                                                rotate_left
                                                · intro w'
                                                  go_simp
                                                  with_reducible rfl
                                                rotate_left
                                                · simp only [Act.put, List.setIfInBounds_toArray, List.set_cons_zero, List.set_cons_succ, i64_w, i32_w]
                                                  rfl
                                                refine last_ (i := 11) (N := none) #[true, true, true, true, true, true, true, true, true, true, true, true] rfl rfl (one_of HT_.out (by kernel_rfl)) (by decide) (fun K hK => ?_)
                                                refine skip_ (w1 := ?_) (by rfl) rfl ?_ ?_
                                                rotate_left
                                                · go_simp
                                                  rfl
                                                refine hK.out _ _ ?_
                                                clear hK K
                                                refine done_ (done_of HT_.out (by kernel_rfl)) ?_
                                                have hnb73 := NB119_111.out
                                                have hnc73 := NB111_119.out
                                                have hcz74_0 : w71.cell? ⟨gb119, 0, none⟩ = some (.int .i64 ((rd_T39 l0_1 x56_2).f0)) := (blk_cell BK119.out 0).trans rfl
                                                have hcz74_1 : w71.cell? ⟨gb119, 1, none⟩ = some (.int .i64 ((rd_T39 l0_1 x56_2).f1)) := (blk_cell BK119.out 1).trans rfl
                                                have hcz74_2 : w71.cell? ⟨gb119, 2, none⟩ = some (.int .i64 ((rd_T39 l0_1 x56_2).f2)) := (blk_cell BK119.out 2).trans rfl
                                                have hfz74_0 := blk_frozen BK119.out 0
                                                have hfz74_1 := blk_frozen BK119.out 1
                                                have hfz74_2 := blk_frozen BK119.out 2
                                                have p128 : 0 ≤ (((rd_T39 l0_1 x56_2).f0) : Int) := of_decide_eq_true (by first | (with_reducible assumption) | assumption)
                                                have q128 : ((rd_T39 l0_1 x56_2).f0) < (l4.length : Int) := of_decide_eq_true (by first | (with_reducible assumption) | assumption)
                                                obtain ⟨ad128, e128, hx128_0⟩ := Kd.at_bool HR4.out ((rd_T39 l0_1 x56_2).f0) p128 q128
                                                (try rw [← Nbq62.out] at hx128_0)
                                                (try rw [← Nbq65.out] at hx128_0)
                                                cases e128
                                                have hn128_0 : ad128.block ≠ go57 := Nat.ne_of_lt (Nat.lt_of_lt_of_le (by have := World.block_lt_of_cell? _ _ hx128_0; first | rwa [add_block] at this | exact this) GB57.out)
                                                replace hx128_0 := (HB.out.cell (World.block_lt_of_cell? w _ hx128_0)).trans hx128_0
                                                replace hx128_0 := (cell_far (p := ⟨go57, (((rd_T39 l0_1 x56_2).f1) : Int).toNat, none⟩) (by first | (rw [add_block]; exact hn128_0) | (show (Addr.add _ _).block ≠ _; rw [add_block]; exact hn128_0) | exact hn128_0) (.int .i64 (wrap64 ((rd y124 ((rd_T39 l0_1 x56_2).f1)) - (rd l3 x56_2))))).trans hx128_0
                                                clear hn128_0
                                                replace p128 := eq_true p128
                                                replace q128 := eq_true q128
                                                have p129 : 0 ≤ (((rd_T39 l0_1 x56_2).f1) : Int) := of_decide_eq_true (by first | (with_reducible assumption) | assumption)
                                                have q129 : ((rd_T39 l0_1 x56_2).f1) < (l4.length : Int) := of_decide_eq_true (by first | (with_reducible assumption) | assumption)
                                                obtain ⟨ad129, e129, hx129_0⟩ := Kd.at_bool HR4.out ((rd_T39 l0_1 x56_2).f1) p129 q129
                                                (try rw [← Nbq62.out] at hx129_0)
                                                (try rw [← Nbq65.out] at hx129_0)
                                                obtain rfl : ad128 = ad129 := (by injection e129)
                                                have hn129_0 : ad128.block ≠ go57 := Nat.ne_of_lt (Nat.lt_of_lt_of_le (by have := World.block_lt_of_cell? _ _ hx129_0; first | rwa [add_block] at this | exact this) GB57.out)
                                                replace hx129_0 := (HB.out.cell (World.block_lt_of_cell? w _ hx129_0)).trans hx129_0
                                                replace hx129_0 := (cell_far (p := ⟨go57, (((rd_T39 l0_1 x56_2).f1) : Int).toNat, none⟩) (by first | (rw [add_block]; exact hn129_0) | (show (Addr.add _ _).block ≠ _; rw [add_block]; exact hn129_0) | exact hn129_0) (.int .i64 (wrap64 ((rd y124 ((rd_T39 l0_1 x56_2).f1)) - (rd l3 x56_2))))).trans hx129_0
                                                clear hn129_0
                                                replace p129 := eq_true p129
                                                replace q129 := eq_true q129
                                                (try have hgo1_ : gb119 ≠ go57 := (by have h_ := Kd.R_ne HO_11.out BK119.out (by decide); intro e_; exact h_ (by rw [e_]; rfl)))
                                                (try have hgo2_ : go57 ≠ gb119 := fun e_ => hgo1_ e_.symm)
                                                try go_wp2
                                                go_roundg kj41
                                                case measure => have := HJ5.out; have := HK2.out; have := HJ41.out; omega
                                                case rel => exact ⟨(y127), (x12_2), (wrap64 (x56_2 + 1)), (by first | rfl | (simp; done) | (simp [*]; done)), (by first | rfl | (simp; done) | (simp [*]; done)), H', ⟨by have := HJ5.out; have := HK2.out; have := HJ41.out; omega⟩, ⟨by (with_reducible repeat (first | apply Kd.R_alloc | apply Kd.R_drewN | apply Kd.R_drew)); exact HQ72.out⟩, ⟨by (with_reducible repeat (first | refine blk_drewN ?_ _ | refine blk_drew ?_ | refine blk_alloc ?_ _)); refine blk_far ?_ (by have h_ := Kd.R_ne HO_11.out BK111.out (by decide); intro e_; exact h_ (by rw [e_]; rfl)) _; (with_reducible repeat (first | refine blk_drewN ?_ _ | refine blk_drew ?_ | refine blk_alloc ?_ _)); exact BK111.out⟩, ⟨by repeat (first | (with_reducible first | exact HB.out | apply below_alloc | apply pw_below_drewN | apply below_drew1 | refine below_set ?_ GB57.out | refine below_set ?_ GE111.out | refine below_set ?_ GE119.out) | exact HB.out)⟩⟩
                                              · replace c66 := Bool.eq_false_iff.mpr c66
                                                subst c66
                                                have H1 : (flow_Check.l0 kj41 a1 a2 l3 l4 y127 (wrap64 (x12_2 + ((rd_T39 l0_1 x56_2).f2))) l0_1 (l0_1.length : Int) (wrap64 (x56_2 + 1))) = some r := by rw [if_neg (show ¬ (false = true) by decide)] at H; exact H
                                                clear H
                                                have H := H1
                                                clear H1
                                                have H' := Aside0.mk H
                                                clear H
                                                (try have hgo1_ : gb119 ≠ go57 := (by have h_ := Kd.R_ne HO_11.out BK119.out (by decide); intro e_; exact h_ (by rw [e_]; rfl)))
                                                (try have hgo2_ : go57 ≠ gb119 := fun e_ => hgo1_ e_.symm)
                                                try go_wp2
                                                have n0_ := Aside0.mk (Kd.R_drew HO_11.out)
                                                have n1_ := Aside0.mk (blk_drew BK111.out)
                                                have n2_ := Aside0.mk (blk_drew BK119.out)
                                                have n3_ := Aside0.mk (below_drew1 HB.out)
                                                clear HO_11
                                                clear BK111
                                                clear BK119
                                                clear HB
                                                have HO_11 := n0_
                                                have BK111 := n1_
                                                have BK119 := n2_
                                                have HB := n3_
                                                clear n0_ n1_ n2_ n3_
                                                obtain ⟨Ao76, co76, eo76⟩ := Kd.R_slice HO_11.out
                                                (first | subst eo76 | (injection eo76 with f1_ f2_ f3_; have f4_ := f1_.symm; have f5_ := f3_.symm; clear f1_ f2_ f3_; subst f4_; subst f5_))
                                                have p122 : 0 ≤ (((rd_T39 l0_1 x56_2).f0) : Int) := of_decide_eq_true (by first | (with_reducible assumption) | assumption)
                                                have q122 : ((rd_T39 l0_1 x56_2).f0) < (x11_2.length : Int) := of_decide_eq_true (by first | (with_reducible assumption) | assumption)
                                                obtain ⟨ad122, e122, hx122_0⟩ := Kd.at_int (Kd.R_reads' HO_11.out).2.2 ((rd_T39 l0_1 x56_2).f0) p122 q122
                                                cases e122
                                                replace p122 := eq_true p122
                                                replace q122 := eq_true q122
                                                have p123 : 0 ≤ (x56_2 : Int) := of_decide_eq_true (by first | (with_reducible assumption) | assumption)
                                                have q123 : x56_2 < (l3.length : Int) := of_decide_eq_true (by first | (with_reducible assumption) | assumption)
                                                obtain ⟨ad123, e123, hx123_0⟩ := Kd.at_int HR3.out x56_2 p123 q123
                                                have hw123_0 := hx123_0
                                                cases e123
                                                replace hx123_0 := (HB.out.cell (World.block_lt_of_cell? w _ hx123_0)).trans hx123_0
                                                replace p123 := eq_true p123
                                                replace q123 := eq_true q123
                                                have p57 : 0 ≤ (((rd_T39 l0_1 x56_2).f0) : Int) := of_decide_eq_true (by first | (with_reducible assumption) | assumption)
                                                have q57 : (((rd_T39 l0_1 x56_2).f0) : Int) < ((x11_2.length : Int) : Int) := of_decide_eq_true (by first | (with_reducible assumption) | assumption)
                                                obtain ⟨go57, co57, eo57, gb57, gl57, cl57, HG57⟩ := Kd.R_form HO_11.out (by omega)
                                                (first | cases eo57 | (injection eo57 with ea_ en_ ec_; (first | subst ea_ | (injection ea_ with ea_; subst ea_)); subst ec_; clear en_))
                                                have GB57 := Aside0.mk gb57
                                                have GG57 := Aside0.mk HG57
                                                clear gb57 gl57 HG57
                                                (first | simp only [add_plain] at hx122_0 | skip)
                                                obtain ⟨hx57_0, hf57_0⟩ := Kd.R_celln 0 HO_11.out (((rd_T39 l0_1 x56_2).f0) : Int) p57 q57
                                                replace p57 := eq_true p57
                                                replace q57 := eq_true q57
                                                have HP77 := Kd.R_putn HO_11.out (((rd_T39 l0_1 x56_2).f0) : Int) (wrap64 ((rd x11_2 ((rd_T39 l0_1 x56_2).f0)) + (rd l3 x56_2)))
                                                rw [← Ny124.out] at HP77
                                                have HQ77 := Aside0.mk HP77
                                                clear HP77
                                                refine start_ (n := 12) (S := fun w' => w'.cell? ⟨gb119, 0, none⟩ = some (.int .i64 ((rd_T39 l0_1 x56_2).f0)) ∧ w'.cell? ⟨gb119, 1, none⟩ = some (.int .i64 ((rd_T39 l0_1 x56_2).f1)) ∧ w'.cell? ⟨gb119, 2, none⟩ = some (.int .i64 ((rd_T39 l0_1 x56_2).f2)) ∧ w'.cell? ⟨go57, (((rd_T39 l0_1 x56_2).f0)).toNat, none⟩ = some (.int .i64 (rd x11_2 ((rd_T39 l0_1 x56_2).f0))) ∧ w'.cell? (ad123.add (x56_2).toNat) = some (.int .i64 (rd l3 x56_2))) (ds := [11]) #[false, false, false, false, false, false, false, false, false, false, false, false] (by kernel_rfl) rfl rfl ⟨(blk_cell BK119.out 0).trans rfl, (blk_cell BK119.out 1).trans rfl, (blk_cell BK119.out 2).trans rfl, hx122_0, ((HB.out.cell (World.block_lt_of_cell? w _ hw123_0)).trans hw123_0)⟩ (fun hHeld => ?_); refine with_tabW flow_Check.tab10 flow_Check.bits10 (fun HT_ HW_ => ?_)
                                                generalize wc.drew = w75 at HO_11 BK111 BK119 HB GG57 HQ77 hf57_0 hx122_0 hx123_0 hx57_0 hHeld ⊢
                                                refine pure_ (i := 0) (N := some 75) (v := ?_) (a' := ?_) #[true, false, false, false, false, false, false, false, false, false, false, false] rfl rfl (any_of HT_.out (by kernel_rfl)) (fun _ _ _ h => h) (Or.inl ⟨by rfl, ?_⟩) ?_ ?_
                                                rotate_left
                                                · intro w'
                                                  go_simp
                                                  with_reducible rfl
                                                rotate_left
                                                · simp only [Act.put, List.setIfInBounds_toArray, List.set_cons_zero, List.set_cons_succ, i64_w, i32_w]
                                                  rfl
                                                refine pure_ (i := 1) (N := some 76) (v := ?_) (a' := ?_) #[true, true, false, false, false, false, false, false, false, false, false, false] rfl rfl (any_of HT_.out (by kernel_rfl)) (fun _ _ _ h => h) (Or.inl ⟨by rfl, ?_⟩) ?_ ?_
                                                rotate_left
                                                · intro w'
                                                  go_simp
                                                  with_reducible rfl
                                                rotate_left
                                                · simp only [Act.put, List.setIfInBounds_toArray, List.set_cons_zero, List.set_cons_succ, i64_w, i32_w]
                                                  rfl
                                                refine pure_ (i := 5) (N := some 80) (v := ?_) (a' := ?_) #[true, true, false, false, false, true, false, false, false, false, false, false] rfl rfl (any_of HT_.out (by kernel_rfl)) (fun _ _ _ h => h) (Or.inl ⟨by rfl, ?_⟩) ?_ ?_
                                                rotate_left
                                                · intro w'
                                                  go_simp
                                                  with_reducible rfl
                                                rotate_left
                                                · simp only [Act.put, List.setIfInBounds_toArray, List.set_cons_zero, List.set_cons_succ, i64_w, i32_w]
                                                  rfl
                                                refine pure_ (i := 6) (N := some 81) (v := ?_) (a' := ?_) #[true, true, false, false, false, true, true, false, false, false, false, false] rfl rfl (any_of HT_.out (by kernel_rfl)) (fun _ _ _ h => h) (Or.inl ⟨by rfl, ?_⟩) ?_ ?_
                                                rotate_left
                                                · intro w'
                                                  go_simp
                                                  with_reducible rfl
                                                rotate_left
                                                · simp only [Act.put, List.setIfInBounds_toArray, List.set_cons_zero, List.set_cons_succ, i64_w, i32_w]
                                                  rfl
                                                refine pure_ (i := 7) (N := some 82) (v := ?_) (a' := ?_) #[true, true, false, false, false, true, true, true, false, false, false, false] rfl rfl (any_of HT_.out (by kernel_rfl)) (fun _ _ _ h => h) (Or.inl ⟨by rfl, ?_⟩) ?_ ?_
                                                rotate_left
                                                · intro w'
                                                  go_simp
                                                  with_reducible rfl
                                                rotate_left
                                                · simp only [Act.put, List.setIfInBounds_toArray, List.set_cons_zero, List.set_cons_succ, i64_w, i32_w]
                                                  rfl
                                                refine take_ (i := 2) (N := some 77) (v := ?_) (a' := ?_) #[true, true, true, false, false, true, true, true, false, false, false, false] rfl rfl (take_ofW HT_.out HW_.out (by kernel_rfl)) (fun _ _ _ h => h) (Or.inl ⟨by rfl, ?_⟩) hHeld ?_ ?_
                                                rotate_left
                                                · rintro w' ⟨s0, s1, s2, s3, s4⟩
                                                  go_simp
                                                  with_reducible rfl
                                                rotate_left
                                                · simp only [Act.put, List.setIfInBounds_toArray, List.set_cons_zero, List.set_cons_succ, i64_w, i32_w]
                                                  rfl
                                                refine pure_ (i := 3) (N := some 78) (v := ?_) (a' := ?_) #[true, true, true, true, false, true, true, true, false, false, false, false] rfl rfl (any_of HT_.out (by kernel_rfl)) (fun _ _ _ h => h) (Or.inl ⟨by rfl, ?_⟩) ?_ ?_
                                                rotate_left
                                                · intro w'
                                                  go_simp
                                                  with_reducible rfl
                                                rotate_left
                                                · simp only [Act.put, List.setIfInBounds_toArray, List.set_cons_zero, List.set_cons_succ, i64_w, i32_w]
                                                  rfl
                                                refine take_ (i := 4) (N := some 79) (v := ?_) (a' := ?_) #[true, true, true, true, true, true, true, true, false, false, false, false] rfl rfl (take_ofW HT_.out HW_.out (by kernel_rfl)) (fun _ _ _ h => h) (Or.inl ⟨by rfl, ?_⟩) hHeld ?_ ?_
                                                rotate_left
                                                · rintro w' ⟨s0, s1, s2, s3, s4⟩
                                                  go_simp
                                                  with_reducible rfl
                                                rotate_left
                                                · simp only [Act.put, List.setIfInBounds_toArray, List.set_cons_zero, List.set_cons_succ, i64_w, i32_w]
                                                  rfl
                                                refine take_ (i := 8) (N := some 83) (v := ?_) (a' := ?_) #[true, true, true, true, true, true, true, true, true, false, false, false] rfl rfl (take_ofW HT_.out HW_.out (by kernel_rfl)) (fun _ _ _ h => h) (Or.inl ⟨by rfl, ?_⟩) hHeld ?_ ?_
                                                rotate_left
                                                · rintro w' ⟨s0, s1, s2, s3, s4⟩
                                                  go_simp
                                                  with_reducible rfl
                                                rotate_left
                                                · simp only [Act.put, List.setIfInBounds_toArray, List.set_cons_zero, List.set_cons_succ, i64_w, i32_w]
                                                  rfl
                                                refine pure_ (i := 9) (N := some 84) (v := ?_) (a' := ?_) #[true, true, true, true, true, true, true, true, true, true, false, false] rfl rfl (any_of HT_.out (by kernel_rfl)) (fun _ _ _ h => h) (Or.inl ⟨by rfl, ?_⟩) ?_ ?_
                                                rotate_left
                                                · intro w'
                                                  go_simp
                                                  with_reducible rfl
                                                rotate_left
                                                · simp only [Act.put, List.setIfInBounds_toArray, List.set_cons_zero, List.set_cons_succ, i64_w, i32_w]
                                                  rfl
                                                refine pure_ (i := 10) (N := some 85) (v := ?_) (a' := ?_) #[true, true, true, true, true, true, true, true, true, true, true, false] rfl rfl (any_of HT_.out (by kernel_rfl)) (fun _ _ _ h => h) (Or.inl ⟨by rfl, ?_⟩) ?_ ?_
                                                rotate_left
                                                · intro w'
                                                  go_simp
                                                  with_reducible rfl
                                                rotate_left
                                                · simp only [Act.put, List.setIfInBounds_toArray, List.set_cons_zero, List.set_cons_succ, i64_w, i32_w]
                                                  rfl
                                                refine last_ (i := 11) (N := none) #[true, true, true, true, true, true, true, true, true, true, true, true] rfl rfl (one_of HT_.out (by kernel_rfl)) (by decide) (fun K hK => ?_)
                                                refine skip_ (w1 := ?_) (by rfl) rfl ?_ ?_
                                                rotate_left
                                                · go_simp
                                                  rfl
                                                refine hK.out _ _ ?_
                                                clear hK K
                                                refine done_ (done_of HT_.out (by kernel_rfl)) ?_
                                                try go_wp2
                                                have n0_ : Aside0 (Kd.R (Kd.int .i64) 3 (w75.setCell ⟨go57, (((rd_T39 l0_1 x56_2).f0) : Int).toNat, none⟩ (.int .i64 (wrap64 ((rd x11_2 ((rd_T39 l0_1 x56_2).f0)) + (rd l3 x56_2))))) w.heap.size (fun _ => True) (.slice (some ⟨go57, 0, none⟩) x11_2.length co76) y124) := ⟨by (with_reducible repeat (first | apply Kd.R_alloc | apply Kd.R_drewN | apply Kd.R_drew)); exact HQ77.out⟩
                                                have n1_ : Aside0 ((w75.setCell ⟨go57, (((rd_T39 l0_1 x56_2).f0) : Int).toNat, none⟩ (.int .i64 (wrap64 ((rd x11_2 ((rd_T39 l0_1 x56_2).f0)) + (rd l3 x56_2))))).heap[gb111]? = some (.cells #[.int .i64 a0_0, .slice (some ad118) l0_1.length c0_1] 24 (0, 0))) := ⟨by (with_reducible repeat (first | refine blk_drewN ?_ _ | refine blk_drew ?_ | refine blk_alloc ?_ _)); refine blk_far ?_ (by have h_ := Kd.R_ne HO_11.out BK111.out (by decide); intro e_; exact h_ (by rw [e_]; rfl)) _; (with_reducible repeat (first | refine blk_drewN ?_ _ | refine blk_drew ?_ | refine blk_alloc ?_ _)); exact BK111.out⟩
                                                have n2_ : Aside0 ((w75.setCell ⟨go57, (((rd_T39 l0_1 x56_2).f0) : Int).toNat, none⟩ (.int .i64 (wrap64 ((rd x11_2 ((rd_T39 l0_1 x56_2).f0)) + (rd l3 x56_2))))).heap[gb119]? = some (.cells #[.int .i64 ((rd_T39 l0_1 x56_2).f0), .int .i64 ((rd_T39 l0_1 x56_2).f1), .int .i64 ((rd_T39 l0_1 x56_2).f2)] 39 (0, 0))) := ⟨by (with_reducible repeat (first | refine blk_drewN ?_ _ | refine blk_drew ?_ | refine blk_alloc ?_ _)); refine blk_far ?_ (by have h_ := Kd.R_ne HO_11.out BK119.out (by decide); intro e_; exact h_ (by rw [e_]; rfl)) _; (with_reducible repeat (first | refine blk_drewN ?_ _ | refine blk_drew ?_ | refine blk_alloc ?_ _)); exact BK119.out⟩
                                                have n3_ : Aside0 (Below w.heap.size w (w75.setCell ⟨go57, (((rd_T39 l0_1 x56_2).f0) : Int).toNat, none⟩ (.int .i64 (wrap64 ((rd x11_2 ((rd_T39 l0_1 x56_2).f0)) + (rd l3 x56_2)))))) := ⟨by repeat (first | (with_reducible first | exact HB.out | apply below_alloc | apply pw_below_drewN | apply below_drew1 | refine below_set ?_ GB57.out | refine below_set ?_ GE111.out | refine below_set ?_ GE119.out) | exact HB.out)⟩
                                                (try clear HO_11)
                                                (try clear BK111)
                                                (try clear BK119)
                                                (try clear HB)
                                                generalize (w75.setCell ⟨go57, (((rd_T39 l0_1 x56_2).f0) : Int).toNat, none⟩ (.int .i64 (wrap64 ((rd x11_2 ((rd_T39 l0_1 x56_2).f0)) + (rd l3 x56_2))))) = w78 at n0_ n1_ n2_ n3_ ⊢
                                                have HO_11 := n0_
                                                have BK111 := n1_
                                                have BK119 := n2_
                                                have HB := n3_
                                                clear n0_ n1_ n2_ n3_
                                                have n0_ := Aside0.mk (Kd.R_drew HO_11.out)
                                                have n1_ := Aside0.mk (blk_drew BK111.out)
                                                have n2_ := Aside0.mk (blk_drew BK119.out)
                                                have n3_ := Aside0.mk (below_drew1 HB.out)
                                                clear HO_11
                                                clear BK111
                                                clear BK119
                                                clear HB
                                                have HO_11 := n0_
                                                have BK111 := n1_
                                                have BK119 := n2_
                                                have HB := n3_
                                                clear n0_ n1_ n2_ n3_
                                                have p125 : 0 ≤ (((rd_T39 l0_1 x56_2).f1) : Int) := of_decide_eq_true (by first | (with_reducible assumption) | assumption)
                                                have q125 : ((rd_T39 l0_1 x56_2).f1) < (y124.length : Int) := (by have h_ : (((rd_T39 l0_1 x56_2).f1) : Int) < ((x11_2.length : Int) : Int) := of_decide_eq_true (by first | (with_reducible assumption) | assumption); first | (have e_ := (Kd.R_reads' HO_11.out).1; omega) | simpa only [Ny124.out, List.length_set] using h_)
                                                have ql125 : ((((rd_T39 l0_1 x56_2).f1) : Int) < ((x11_2.length : Int) : Int)) = True := eq_true (of_decide_eq_true (by first | (with_reducible assumption) | assumption))
                                                obtain ⟨ad125, e125, hx125_0⟩ := Kd.at_int (Kd.R_reads' HO_11.out).2.2 ((rd_T39 l0_1 x56_2).f1) p125 q125
                                                obtain rfl : (⟨go57, 0, none⟩ : Addr) = ad125 := (by injection e125)
                                                (first | simp only [add_plain] at hx125_0 | simp only [add_at] at hx125_0 | simp only [Addr.add, Nat.zero_add] at hx125_0 | skip)
                                                replace p125 := eq_true p125
                                                replace q125 := eq_true q125
                                                have p126 : 0 ≤ (x56_2 : Int) := of_decide_eq_true (by first | (with_reducible assumption) | assumption)
                                                have q126 : x56_2 < (l3.length : Int) := of_decide_eq_true (by first | (with_reducible assumption) | assumption)
                                                obtain ⟨ad126, e126, hx126_0⟩ := Kd.at_int HR3.out x56_2 p126 q126
                                                have hw126_0 := hx126_0
                                                obtain rfl : ad123 = ad126 := (by injection e126)
                                                replace hx126_0 := (HB.out.cell (World.block_lt_of_cell? w _ hx126_0)).trans hx126_0
                                                replace p126 := eq_true p126
                                                replace q126 := eq_true q126
                                                have p60 : 0 ≤ (((rd_T39 l0_1 x56_2).f1) : Int) := of_decide_eq_true (by first | (with_reducible assumption) | assumption)
                                                have q60 : (((rd_T39 l0_1 x56_2).f1) : Int) < ((x11_2.length : Int) : Int) := of_decide_eq_true (by first | (with_reducible assumption) | assumption)
                                                obtain ⟨hx60_0, hf60_0⟩ := Kd.R_celln 0 HO_11.out (((rd_T39 l0_1 x56_2).f1) : Int) p60 q60
                                                replace p60 := eq_true p60
                                                replace q60 := eq_true q60
                                                have HP80 := Kd.R_putn HO_11.out (((rd_T39 l0_1 x56_2).f1) : Int) (wrap64 ((rd y124 ((rd_T39 l0_1 x56_2).f1)) - (rd l3 x56_2)))
                                                rw [← Ny127.out] at HP80
                                                have HQ80 := Aside0.mk HP80
                                                clear HP80
                                                refine start_ (n := 12) (S := fun w' => w'.cell? ⟨gb119, 0, none⟩ = some (.int .i64 ((rd_T39 l0_1 x56_2).f0)) ∧ w'.cell? ⟨gb119, 1, none⟩ = some (.int .i64 ((rd_T39 l0_1 x56_2).f1)) ∧ w'.cell? ⟨gb119, 2, none⟩ = some (.int .i64 ((rd_T39 l0_1 x56_2).f2)) ∧ w'.cell? ⟨go57, (((rd_T39 l0_1 x56_2).f1)).toNat, none⟩ = some (.int .i64 (rd y124 ((rd_T39 l0_1 x56_2).f1))) ∧ w'.cell? (ad123.add (x56_2).toNat) = some (.int .i64 (rd l3 x56_2))) (ds := [11]) #[false, false, false, false, false, false, false, false, false, false, false, false] (by kernel_rfl) rfl rfl ⟨(blk_cell BK119.out 0).trans rfl, (blk_cell BK119.out 1).trans rfl, (blk_cell BK119.out 2).trans rfl, hx125_0, ((HB.out.cell (World.block_lt_of_cell? w _ hw126_0)).trans hw126_0)⟩ (fun hHeld => ?_); refine with_tabW flow_Check.tab11 flow_Check.bits11 (fun HT_ HW_ => ?_)
                                                generalize w78.drew = w79 at HO_11 BK111 BK119 HB HQ77 HQ80 hf60_0 hx125_0 hx126_0 hx60_0 hHeld ⊢
                                                refine pure_ (i := 0) (N := some 86) (v := ?_) (a' := ?_) #[true, false, false, false, false, false, false, false, false, false, false, false] rfl rfl (any_of HT_.out (by kernel_rfl)) (fun _ _ _ h => h) (Or.inl ⟨by rfl, ?_⟩) ?_ ?_
                                                rotate_left
                                                · intro w'
                                                  go_simp
                                                  with_reducible rfl
                                                rotate_left
                                                · simp only [Act.put, List.setIfInBounds_toArray, List.set_cons_zero, List.set_cons_succ, i64_w, i32_w]
                                                  rfl
                                                refine pure_ (i := 1) (N := some 87) (v := ?_) (a' := ?_) #[true, true, false, false, false, false, false, false, false, false, false, false] rfl rfl (any_of HT_.out (by kernel_rfl)) (fun _ _ _ h => h) (Or.inl ⟨by rfl, ?_⟩) ?_ ?_
                                                rotate_left
                                                · intro w'
                                                  go_simp
                                                  with_reducible rfl
                                                rotate_left
                                                · simp only [Act.put, List.setIfInBounds_toArray, List.set_cons_zero, List.set_cons_succ, i64_w, i32_w]
                                                  rfl
                                                refine pure_ (i := 5) (N := some 91) (v := ?_) (a' := ?_) #[true, true, false, false, false, true, false, false, false, false, false, false] rfl rfl (any_of HT_.out (by kernel_rfl)) (fun _ _ _ h => h) (Or.inl ⟨by rfl, ?_⟩) ?_ ?_
                                                rotate_left
                                                · intro w'
                                                  go_simp
                                                  with_reducible rfl
                                                rotate_left
                                                · simp only [Act.put, List.setIfInBounds_toArray, List.set_cons_zero, List.set_cons_succ, i64_w, i32_w]
                                                  rfl
                                                refine pure_ (i := 6) (N := some 92) (v := ?_) (a' := ?_) #[true, true, false, false, false, true, true, false, false, false, false, false] rfl rfl (any_of HT_.out (by kernel_rfl)) (fun _ _ _ h => h) (Or.inl ⟨by rfl, ?_⟩) ?_ ?_
                                                rotate_left
                                                · intro w'
                                                  go_simp
                                                  with_reducible rfl
                                                rotate_left
                                                · simp only [Act.put, List.setIfInBounds_toArray, List.set_cons_zero, List.set_cons_succ, i64_w, i32_w]
                                                  rfl
                                                refine pure_ (i := 7) (N := some 93) (v := ?_) (a' := ?_) #[true, true, false, false, false, true, true, true, false, false, false, false] rfl rfl (any_of HT_.out (by kernel_rfl)) (fun _ _ _ h => h) (Or.inl ⟨by rfl, ?_⟩) ?_ ?_
                                                rotate_left
                                                · intro w'
                                                  go_simp
                                                  with_reducible rfl
                                                rotate_left
                                                · simp only [Act.put, List.setIfInBounds_toArray, List.set_cons_zero, List.set_cons_succ, i64_w, i32_w]
                                                  rfl
                                                refine take_ (i := 2) (N := some 88) (v := ?_) (a' := ?_) #[true, true, true, false, false, true, true, true, false, false, false, false] rfl rfl (take_ofW HT_.out HW_.out (by kernel_rfl)) (fun _ _ _ h => h) (Or.inl ⟨by rfl, ?_⟩) hHeld ?_ ?_
                                                rotate_left
                                                · rintro w' ⟨s0, s1, s2, s3, s4⟩
                                                  go_simp
                                                  with_reducible rfl
                                                rotate_left
                                                · simp only [Act.put, List.setIfInBounds_toArray, List.set_cons_zero, List.set_cons_succ, i64_w, i32_w]
                                                  rfl
                                                refine pure_ (i := 3) (N := some 89) (v := ?_) (a' := ?_) #[true, true, true, true, false, true, true, true, false, false, false, false] rfl rfl (any_of HT_.out (by kernel_rfl)) (fun _ _ _ h => h) (Or.inl ⟨by rfl, ?_⟩) ?_ ?_
                                                rotate_left
                                                · intro w'
                                                  go_simp
                                                  with_reducible rfl
                                                rotate_left
                                                · simp only [Act.put, List.setIfInBounds_toArray, List.set_cons_zero, List.set_cons_succ, i64_w, i32_w]
                                                  rfl
                                                refine take_ (i := 4) (N := some 90) (v := ?_) (a' := ?_) #[true, true, true, true, true, true, true, true, false, false, false, false] rfl rfl (take_ofW HT_.out HW_.out (by kernel_rfl)) (fun _ _ _ h => h) (Or.inl ⟨by rfl, ?_⟩) hHeld ?_ ?_
                                                rotate_left
                                                · rintro w' ⟨s0, s1, s2, s3, s4⟩
                                                  go_simp
                                                  with_reducible rfl
                                                rotate_left
                                                · simp only [Act.put, List.setIfInBounds_toArray, List.set_cons_zero, List.set_cons_succ, i64_w, i32_w]
                                                  rfl
                                                refine take_ (i := 8) (N := some 94) (v := ?_) (a' := ?_) #[true, true, true, true, true, true, true, true, true, false, false, false] rfl rfl (take_ofW HT_.out HW_.out (by kernel_rfl)) (fun _ _ _ h => h) (Or.inl ⟨by rfl, ?_⟩) hHeld ?_ ?_
                                                rotate_left
                                                · rintro w' ⟨s0, s1, s2, s3, s4⟩
                                                  go_simp
                                                  with_reducible rfl
                                                rotate_left
                                                · simp only [Act.put, List.setIfInBounds_toArray, List.set_cons_zero, List.set_cons_succ, i64_w, i32_w]
                                                  rfl
                                                refine pure_ (i := 9) (N := some 95) (v := ?_) (a' := ?_) #[true, true, true, true, true, true, true, true, true, true, false, false] rfl rfl (any_of HT_.out (by kernel_rfl)) (fun _ _ _ h => h) (Or.inl ⟨by rfl, ?_⟩) ?_ ?_
                                                rotate_left
                                                · intro w'
                                                  go_simp
                                                  with_reducible rfl
                                                rotate_left
                                                · simp only [Act.put, List.setIfInBounds_toArray, List.set_cons_zero, List.set_cons_succ, i64_w, i32_w]
                                                  rfl
                                                refine pure_ (i := 10) (N := some 96) (v := ?_) (a' := ?_) #[true, true, true, true, true, true, true, true, true, true, true, false] rfl rfl (any_of HT_.out (by kernel_rfl)) (fun _ _ _ h => h) (Or.inl ⟨by rfl, ?_⟩) ?_ ?_
                                                rotate_left
                                                · intro w'
                                                  go_simp
                                                  with_reducible rfl
                                                rotate_left
                                                · simp only [Act.put, List.setIfInBounds_toArray, List.set_cons_zero, List.set_cons_succ, i64_w, i32_w]
                                                  rfl
                                                refine last_ (i := 11) (N := none) #[true, true, true, true, true, true, true, true, true, true, true, true] rfl rfl (one_of HT_.out (by kernel_rfl)) (by decide) (fun K hK => ?_)
                                                refine skip_ (w1 := ?_) (by rfl) rfl ?_ ?_
                                                rotate_left
                                                · go_simp
                                                  rfl
                                                refine hK.out _ _ ?_
                                                clear hK K
                                                refine done_ (done_of HT_.out (by kernel_rfl)) ?_
                                                have hnb81 := NB119_111.out
                                                have hnc81 := NB111_119.out
                                                have hcz82_0 : w79.cell? ⟨gb119, 0, none⟩ = some (.int .i64 ((rd_T39 l0_1 x56_2).f0)) := (blk_cell BK119.out 0).trans rfl
                                                have hcz82_1 : w79.cell? ⟨gb119, 1, none⟩ = some (.int .i64 ((rd_T39 l0_1 x56_2).f1)) := (blk_cell BK119.out 1).trans rfl
                                                have hcz82_2 : w79.cell? ⟨gb119, 2, none⟩ = some (.int .i64 ((rd_T39 l0_1 x56_2).f2)) := (blk_cell BK119.out 2).trans rfl
                                                have hfz82_0 := blk_frozen BK119.out 0
                                                have hfz82_1 := blk_frozen BK119.out 1
                                                have hfz82_2 := blk_frozen BK119.out 2
                                                have p128 : 0 ≤ (((rd_T39 l0_1 x56_2).f0) : Int) := of_decide_eq_true (by first | (with_reducible assumption) | assumption)
                                                have q128 : ((rd_T39 l0_1 x56_2).f0) < (l4.length : Int) := of_decide_eq_true (by first | (with_reducible assumption) | assumption)
                                                obtain ⟨ad128, e128, hx128_0⟩ := Kd.at_bool HR4.out ((rd_T39 l0_1 x56_2).f0) p128 q128
                                                (try rw [← Nbq62.out] at hx128_0)
                                                (try rw [← Nbq65.out] at hx128_0)
                                                cases e128
                                                have hn128_0 : ad128.block ≠ go57 := Nat.ne_of_lt (Nat.lt_of_lt_of_le (by have := World.block_lt_of_cell? _ _ hx128_0; first | rwa [add_block] at this | exact this) GB57.out)
                                                replace hx128_0 := (HB.out.cell (World.block_lt_of_cell? w _ hx128_0)).trans hx128_0
                                                replace hx128_0 := (cell_far (p := ⟨go57, (((rd_T39 l0_1 x56_2).f1) : Int).toNat, none⟩) (by first | (rw [add_block]; exact hn128_0) | (show (Addr.add _ _).block ≠ _; rw [add_block]; exact hn128_0) | exact hn128_0) (.int .i64 (wrap64 ((rd y124 ((rd_T39 l0_1 x56_2).f1)) - (rd l3 x56_2))))).trans hx128_0
                                                clear hn128_0
                                                replace p128 := eq_true p128
                                                replace q128 := eq_true q128
                                                have p129 : 0 ≤ (((rd_T39 l0_1 x56_2).f1) : Int) := of_decide_eq_true (by first | (with_reducible assumption) | assumption)
                                                have q129 : ((rd_T39 l0_1 x56_2).f1) < (l4.length : Int) := of_decide_eq_true (by first | (with_reducible assumption) | assumption)
                                                obtain ⟨ad129, e129, hx129_0⟩ := Kd.at_bool HR4.out ((rd_T39 l0_1 x56_2).f1) p129 q129
                                                (try rw [← Nbq62.out] at hx129_0)
                                                (try rw [← Nbq65.out] at hx129_0)
                                                obtain rfl : ad128 = ad129 := (by injection e129)
                                                have hn129_0 : ad128.block ≠ go57 := Nat.ne_of_lt (Nat.lt_of_lt_of_le (by have := World.block_lt_of_cell? _ _ hx129_0; first | rwa [add_block] at this | exact this) GB57.out)
                                                replace hx129_0 := (HB.out.cell (World.block_lt_of_cell? w _ hx129_0)).trans hx129_0
                                                replace hx129_0 := (cell_far (p := ⟨go57, (((rd_T39 l0_1 x56_2).f1) : Int).toNat, none⟩) (by first | (rw [add_block]; exact hn129_0) | (show (Addr.add _ _).block ≠ _; rw [add_block]; exact hn129_0) | exact hn129_0) (.int .i64 (wrap64 ((rd y124 ((rd_T39 l0_1 x56_2).f1)) - (rd l3 x56_2))))).trans hx129_0
                                                clear hn129_0
                                                replace p129 := eq_true p129
                                                replace q129 := eq_true q129
                                                (try have hgo1_ : gb119 ≠ go57 := (by have h_ := Kd.R_ne HO_11.out BK119.out (by decide); intro e_; exact h_ (by rw [e_]; rfl)))
                                                (try have hgo2_ : go57 ≠ gb119 := fun e_ => hgo1_ e_.symm)
                                                try go_wp2
                                                go_roundg kj41
                                                case measure => have := HJ5.out; have := HK2.out; have := HJ41.out; omega
                                                case rel => exact ⟨(y127), (wrap64 (x12_2 + ((rd_T39 l0_1 x56_2).f2))), (wrap64 (x56_2 + 1)), (by first | rfl | (simp; done) | (simp [*]; done)), (by first | rfl | (simp; done) | (simp [*]; done)), H', ⟨by have := HJ5.out; have := HK2.out; have := HJ41.out; omega⟩, ⟨by (with_reducible repeat (first | apply Kd.R_alloc | apply Kd.R_drewN | apply Kd.R_drew)); exact HQ80.out⟩, ⟨by (with_reducible repeat (first | refine blk_drewN ?_ _ | refine blk_drew ?_ | refine blk_alloc ?_ _)); refine blk_far ?_ (by have h_ := Kd.R_ne HO_11.out BK111.out (by decide); intro e_; exact h_ (by rw [e_]; rfl)) _; (with_reducible repeat (first | refine blk_drewN ?_ _ | refine blk_drew ?_ | refine blk_alloc ?_ _)); exact BK111.out⟩, ⟨by repeat (first | (with_reducible first | exact HB.out | apply below_alloc | apply pw_below_drewN | apply below_drew1 | refine below_set ?_ GB57.out | refine below_set ?_ GE111.out | refine below_set ?_ GE119.out) | exact HB.out)⟩⟩
                                            · rw [if_neg c64] at H
                                              exact absurd H (by simp)
                                          · replace c63 := Bool.eq_false_iff.mpr c63
                                            subst c63
                                            have H1 : (flow_Check.l0 kj41 a1 a2 l3 l4 y127 x12_2 l0_1 (l0_1.length : Int) (wrap64 (x56_2 + 1))) = some r := by rw [if_neg (show ¬ (false = true) by decide)] at H; exact H
                                            clear H
                                            have H := H1
                                            clear H1
                                            have H' := Aside0.mk H
                                            clear H
                                            (try have hgo1_ : gb119 ≠ go57 := (by have h_ := Kd.R_ne HO_11.out BK119.out (by decide); intro e_; exact h_ (by rw [e_]; rfl)))
                                            (try have hgo2_ : go57 ≠ gb119 := fun e_ => hgo1_ e_.symm)
                                            try go_wp2
                                            have n0_ := Aside0.mk (Kd.R_drew HO_11.out)
                                            have n1_ := Aside0.mk (blk_drew BK111.out)
                                            have n2_ := Aside0.mk (blk_drew BK119.out)
                                            have n3_ := Aside0.mk (below_drew1 HB.out)
                                            clear HO_11
                                            clear BK111
                                            clear BK119
                                            clear HB
                                            have HO_11 := n0_
                                            have BK111 := n1_
                                            have BK119 := n2_
                                            have HB := n3_
                                            clear n0_ n1_ n2_ n3_
                                            obtain ⟨Ao84, co84, eo84⟩ := Kd.R_slice HO_11.out
                                            (first | subst eo84 | (injection eo84 with f1_ f2_ f3_; have f4_ := f1_.symm; have f5_ := f3_.symm; clear f1_ f2_ f3_; subst f4_; subst f5_))
                                            have p122 : 0 ≤ (((rd_T39 l0_1 x56_2).f0) : Int) := of_decide_eq_true (by first | (with_reducible assumption) | assumption)
                                            have q122 : ((rd_T39 l0_1 x56_2).f0) < (x11_2.length : Int) := of_decide_eq_true (by first | (with_reducible assumption) | assumption)
                                            obtain ⟨ad122, e122, hx122_0⟩ := Kd.at_int (Kd.R_reads' HO_11.out).2.2 ((rd_T39 l0_1 x56_2).f0) p122 q122
                                            cases e122
                                            replace p122 := eq_true p122
                                            replace q122 := eq_true q122
                                            have p123 : 0 ≤ (x56_2 : Int) := of_decide_eq_true (by first | (with_reducible assumption) | assumption)
                                            have q123 : x56_2 < (l3.length : Int) := of_decide_eq_true (by first | (with_reducible assumption) | assumption)
                                            obtain ⟨ad123, e123, hx123_0⟩ := Kd.at_int HR3.out x56_2 p123 q123
                                            have hw123_0 := hx123_0
                                            cases e123
                                            replace hx123_0 := (HB.out.cell (World.block_lt_of_cell? w _ hx123_0)).trans hx123_0
                                            replace p123 := eq_true p123
                                            replace q123 := eq_true q123
                                            have p57 : 0 ≤ (((rd_T39 l0_1 x56_2).f0) : Int) := of_decide_eq_true (by first | (with_reducible assumption) | assumption)
                                            have q57 : (((rd_T39 l0_1 x56_2).f0) : Int) < ((x11_2.length : Int) : Int) := of_decide_eq_true (by first | (with_reducible assumption) | assumption)
                                            obtain ⟨go57, co57, eo57, gb57, gl57, cl57, HG57⟩ := Kd.R_form HO_11.out (by omega)
                                            (first | cases eo57 | (injection eo57 with ea_ en_ ec_; (first | subst ea_ | (injection ea_ with ea_; subst ea_)); subst ec_; clear en_))
                                            have GB57 := Aside0.mk gb57
                                            have GG57 := Aside0.mk HG57
                                            clear gb57 gl57 HG57
                                            (first | simp only [add_plain] at hx122_0 | skip)
                                            obtain ⟨hx57_0, hf57_0⟩ := Kd.R_celln 0 HO_11.out (((rd_T39 l0_1 x56_2).f0) : Int) p57 q57
                                            replace p57 := eq_true p57
                                            replace q57 := eq_true q57
                                            have HP85 := Kd.R_putn HO_11.out (((rd_T39 l0_1 x56_2).f0) : Int) (wrap64 ((rd x11_2 ((rd_T39 l0_1 x56_2).f0)) + (rd l3 x56_2)))
                                            rw [← Ny124.out] at HP85
                                            have HQ85 := Aside0.mk HP85
                                            clear HP85
                                            refine start_ (n := 12) (S := fun w' => w'.cell? ⟨gb119, 0, none⟩ = some (.int .i64 ((rd_T39 l0_1 x56_2).f0)) ∧ w'.cell? ⟨gb119, 1, none⟩ = some (.int .i64 ((rd_T39 l0_1 x56_2).f1)) ∧ w'.cell? ⟨gb119, 2, none⟩ = some (.int .i64 ((rd_T39 l0_1 x56_2).f2)) ∧ w'.cell? ⟨go57, (((rd_T39 l0_1 x56_2).f0)).toNat, none⟩ = some (.int .i64 (rd x11_2 ((rd_T39 l0_1 x56_2).f0))) ∧ w'.cell? (ad123.add (x56_2).toNat) = some (.int .i64 (rd l3 x56_2))) (ds := [11]) #[false, false, false, false, false, false, false, false, false, false, false, false] (by kernel_rfl) rfl rfl ⟨(blk_cell BK119.out 0).trans rfl, (blk_cell BK119.out 1).trans rfl, (blk_cell BK119.out 2).trans rfl, hx122_0, ((HB.out.cell (World.block_lt_of_cell? w _ hw123_0)).trans hw123_0)⟩ (fun hHeld => ?_); refine with_tabW flow_Check.tab10 flow_Check.bits10 (fun HT_ HW_ => ?_)
                                            generalize wc.drew = w83 at HO_11 BK111 BK119 HB GG57 HQ85 hf57_0 hx122_0 hx123_0 hx57_0 hHeld ⊢
                                            refine pure_ (i := 0) (N := some 75) (v := ?_) (a' := ?_) #[true, false, false, false, false, false, false, false, false, false, false, false] rfl rfl (any_of HT_.out (by kernel_rfl)) (fun _ _ _ h => h) (Or.inl ⟨by rfl, ?_⟩) ?_ ?_
                                            rotate_left
                                            · intro w'
                                              go_simp
                                              with_reducible rfl
                                            rotate_left
                                            · simp only [Act.put, List.setIfInBounds_toArray, List.set_cons_zero, List.set_cons_succ, i64_w, i32_w]
                                              rfl
                                            refine pure_ (i := 1) (N := some 76) (v := ?_) (a' := ?_) #[true, true, false, false, false, false, false, false, false, false, false, false] rfl rfl (any_of HT_.out (by kernel_rfl)) (fun _ _ _ h => h) (Or.inl ⟨by rfl, ?_⟩) ?_ ?_
                                            rotate_left
                                            · intro w'
                                              go_simp
                                              with_reducible rfl
                                            rotate_left
                                            · simp only [Act.put, List.setIfInBounds_toArray, List.set_cons_zero, List.set_cons_succ, i64_w, i32_w]
                                              rfl
                                            refine pure_ (i := 5) (N := some 80) (v := ?_) (a' := ?_) #[true, true, false, false, false, true, false, false, false, false, false, false] rfl rfl (any_of HT_.out (by kernel_rfl)) (fun _ _ _ h => h) (Or.inl ⟨by rfl, ?_⟩) ?_ ?_
                                            rotate_left
                                            · intro w'
                                              go_simp
                                              with_reducible rfl
                                            rotate_left
                                            · simp only [Act.put, List.setIfInBounds_toArray, List.set_cons_zero, List.set_cons_succ, i64_w, i32_w]
                                              rfl
                                            refine pure_ (i := 6) (N := some 81) (v := ?_) (a' := ?_) #[true, true, false, false, false, true, true, false, false, false, false, false] rfl rfl (any_of HT_.out (by kernel_rfl)) (fun _ _ _ h => h) (Or.inl ⟨by rfl, ?_⟩) ?_ ?_
                                            rotate_left
                                            · intro w'
                                              go_simp
                                              with_reducible rfl
                                            rotate_left
                                            · simp only [Act.put, List.setIfInBounds_toArray, List.set_cons_zero, List.set_cons_succ, i64_w, i32_w]
                                              rfl
                                            refine pure_ (i := 7) (N := some 82) (v := ?_) (a' := ?_) #[true, true, false, false, false, true, true, true, false, false, false, false] rfl rfl (any_of HT_.out (by kernel_rfl)) (fun _ _ _ h => h) (Or.inl ⟨by rfl, ?_⟩) ?_ ?_
                                            rotate_left
                                            · intro w'
                                              go_simp
                                              with_reducible rfl
                                            rotate_left
                                            · simp only [Act.put, List.setIfInBounds_toArray, List.set_cons_zero, List.set_cons_succ, i64_w, i32_w]
                                              rfl
                                            refine take_ (i := 2) (N := some 77) (v := ?_) (a' := ?_) #[true, true, true, false, false, true, true, true, false, false, false, false] rfl rfl (take_ofW HT_.out HW_.out (by kernel_rfl)) (fun _ _ _ h => h) (Or.inl ⟨by rfl, ?_⟩) hHeld ?_ ?_
                                            rotate_left
                                            · rintro w' ⟨s0, s1, s2, s3, s4⟩
                                              go_simp
                                              with_reducible rfl
                                            rotate_left
                                            · simp only [Act.put, List.setIfInBounds_toArray, List.set_cons_zero, List.set_cons_succ, i64_w, i32_w]
                                              rfl
                                            refine pure_ (i := 3) (N := some 78) (v := ?_) (a' := ?_) #[true, true, true, true, false, true, true, true, false, false, false, false] rfl rfl (any_of HT_.out (by kernel_rfl)) (fun _ _ _ h => h) (Or.inl ⟨by rfl, ?_⟩) ?_ ?_
                                            rotate_left
                                            · intro w'
                                              go_simp
                                              with_reducible rfl
                                            rotate_left
                                            · simp only [Act.put, List.setIfInBounds_toArray, List.set_cons_zero, List.set_cons_succ, i64_w, i32_w]
                                              rfl
                                            refine take_ (i := 4) (N := some 79) (v := ?_) (a' := ?_) #[true, true, true, true, true, true, true, true, false, false, false, false] rfl rfl (take_ofW HT_.out HW_.out (by kernel_rfl)) (fun _ _ _ h => h) (Or.inl ⟨by rfl, ?_⟩) hHeld ?_ ?_
                                            rotate_left
                                            · rintro w' ⟨s0, s1, s2, s3, s4⟩
                                              go_simp
                                              with_reducible rfl
                                            rotate_left
                                            · simp only [Act.put, List.setIfInBounds_toArray, List.set_cons_zero, List.set_cons_succ, i64_w, i32_w]
                                              rfl
                                            refine take_ (i := 8) (N := some 83) (v := ?_) (a' := ?_) #[true, true, true, true, true, true, true, true, true, false, false, false] rfl rfl (take_ofW HT_.out HW_.out (by kernel_rfl)) (fun _ _ _ h => h) (Or.inl ⟨by rfl, ?_⟩) hHeld ?_ ?_
                                            rotate_left
                                            · rintro w' ⟨s0, s1, s2, s3, s4⟩
                                              go_simp
                                              with_reducible rfl
                                            rotate_left
                                            · simp only [Act.put, List.setIfInBounds_toArray, List.set_cons_zero, List.set_cons_succ, i64_w, i32_w]
                                              rfl
                                            refine pure_ (i := 9) (N := some 84) (v := ?_) (a' := ?_) #[true, true, true, true, true, true, true, true, true, true, false, false] rfl rfl (any_of HT_.out (by kernel_rfl)) (fun _ _ _ h => h) (Or.inl ⟨by rfl, ?_⟩) ?_ ?_
                                            rotate_left
                                            · intro w'
                                              go_simp
                                              with_reducible rfl
                                            rotate_left
                                            · simp only [Act.put, List.setIfInBounds_toArray, List.set_cons_zero, List.set_cons_succ, i64_w, i32_w]
                                              rfl
                                            refine pure_ (i := 10) (N := some 85) (v := ?_) (a' := ?_) #[true, true, true, true, true, true, true, true, true, true, true, false] rfl rfl (any_of HT_.out (by kernel_rfl)) (fun _ _ _ h => h) (Or.inl ⟨by rfl, ?_⟩) ?_ ?_
                                            rotate_left
                                            · intro w'
                                              go_simp
                                              with_reducible rfl
                                            rotate_left
                                            · simp only [Act.put, List.setIfInBounds_toArray, List.set_cons_zero, List.set_cons_succ, i64_w, i32_w]
                                              rfl
                                            refine last_ (i := 11) (N := none) #[true, true, true, true, true, true, true, true, true, true, true, true] rfl rfl (one_of HT_.out (by kernel_rfl)) (by decide) (fun K hK => ?_)
                                            refine skip_ (w1 := ?_) (by rfl) rfl ?_ ?_
                                            rotate_left
                                            · go_simp
                                              rfl
                                            refine hK.out _ _ ?_
                                            clear hK K
                                            refine done_ (done_of HT_.out (by kernel_rfl)) ?_
                                            try go_wp2
                                            have n0_ : Aside0 (Kd.R (Kd.int .i64) 3 (w83.setCell ⟨go57, (((rd_T39 l0_1 x56_2).f0) : Int).toNat, none⟩ (.int .i64 (wrap64 ((rd x11_2 ((rd_T39 l0_1 x56_2).f0)) + (rd l3 x56_2))))) w.heap.size (fun _ => True) (.slice (some ⟨go57, 0, none⟩) x11_2.length co84) y124) := ⟨by (with_reducible repeat (first | apply Kd.R_alloc | apply Kd.R_drewN | apply Kd.R_drew)); exact HQ85.out⟩
                                            have n1_ : Aside0 ((w83.setCell ⟨go57, (((rd_T39 l0_1 x56_2).f0) : Int).toNat, none⟩ (.int .i64 (wrap64 ((rd x11_2 ((rd_T39 l0_1 x56_2).f0)) + (rd l3 x56_2))))).heap[gb111]? = some (.cells #[.int .i64 a0_0, .slice (some ad118) l0_1.length c0_1] 24 (0, 0))) := ⟨by (with_reducible repeat (first | refine blk_drewN ?_ _ | refine blk_drew ?_ | refine blk_alloc ?_ _)); refine blk_far ?_ (by have h_ := Kd.R_ne HO_11.out BK111.out (by decide); intro e_; exact h_ (by rw [e_]; rfl)) _; (with_reducible repeat (first | refine blk_drewN ?_ _ | refine blk_drew ?_ | refine blk_alloc ?_ _)); exact BK111.out⟩
                                            have n2_ : Aside0 ((w83.setCell ⟨go57, (((rd_T39 l0_1 x56_2).f0) : Int).toNat, none⟩ (.int .i64 (wrap64 ((rd x11_2 ((rd_T39 l0_1 x56_2).f0)) + (rd l3 x56_2))))).heap[gb119]? = some (.cells #[.int .i64 ((rd_T39 l0_1 x56_2).f0), .int .i64 ((rd_T39 l0_1 x56_2).f1), .int .i64 ((rd_T39 l0_1 x56_2).f2)] 39 (0, 0))) := ⟨by (with_reducible repeat (first | refine blk_drewN ?_ _ | refine blk_drew ?_ | refine blk_alloc ?_ _)); refine blk_far ?_ (by have h_ := Kd.R_ne HO_11.out BK119.out (by decide); intro e_; exact h_ (by rw [e_]; rfl)) _; (with_reducible repeat (first | refine blk_drewN ?_ _ | refine blk_drew ?_ | refine blk_alloc ?_ _)); exact BK119.out⟩
                                            have n3_ : Aside0 (Below w.heap.size w (w83.setCell ⟨go57, (((rd_T39 l0_1 x56_2).f0) : Int).toNat, none⟩ (.int .i64 (wrap64 ((rd x11_2 ((rd_T39 l0_1 x56_2).f0)) + (rd l3 x56_2)))))) := ⟨by repeat (first | (with_reducible first | exact HB.out | apply below_alloc | apply pw_below_drewN | apply below_drew1 | refine below_set ?_ GB57.out | refine below_set ?_ GE111.out | refine below_set ?_ GE119.out) | exact HB.out)⟩
                                            (try clear HO_11)
                                            (try clear BK111)
                                            (try clear BK119)
                                            (try clear HB)
                                            generalize (w83.setCell ⟨go57, (((rd_T39 l0_1 x56_2).f0) : Int).toNat, none⟩ (.int .i64 (wrap64 ((rd x11_2 ((rd_T39 l0_1 x56_2).f0)) + (rd l3 x56_2))))) = w86 at n0_ n1_ n2_ n3_ ⊢
                                            have HO_11 := n0_
                                            have BK111 := n1_
                                            have BK119 := n2_
                                            have HB := n3_
                                            clear n0_ n1_ n2_ n3_
                                            have n0_ := Aside0.mk (Kd.R_drew HO_11.out)
                                            have n1_ := Aside0.mk (blk_drew BK111.out)
                                            have n2_ := Aside0.mk (blk_drew BK119.out)
                                            have n3_ := Aside0.mk (below_drew1 HB.out)
                                            clear HO_11
                                            clear BK111
                                            clear BK119
                                            clear HB
                                            have HO_11 := n0_
                                            have BK111 := n1_
                                            have BK119 := n2_
                                            have HB := n3_
                                            clear n0_ n1_ n2_ n3_
                                            have p125 : 0 ≤ (((rd_T39 l0_1 x56_2).f1) : Int) := of_decide_eq_true (by first | (with_reducible assumption) | assumption)
                                            have q125 : ((rd_T39 l0_1 x56_2).f1) < (y124.length : Int) := (by have h_ : (((rd_T39 l0_1 x56_2).f1) : Int) < ((x11_2.length : Int) : Int) := of_decide_eq_true (by first | (with_reducible assumption) | assumption); first | (have e_ := (Kd.R_reads' HO_11.out).1; omega) | simpa only [Ny124.out, List.length_set] using h_)
                                            have ql125 : ((((rd_T39 l0_1 x56_2).f1) : Int) < ((x11_2.length : Int) : Int)) = True := eq_true (of_decide_eq_true (by first | (with_reducible assumption) | assumption))
                                            obtain ⟨ad125, e125, hx125_0⟩ := Kd.at_int (Kd.R_reads' HO_11.out).2.2 ((rd_T39 l0_1 x56_2).f1) p125 q125
                                            obtain rfl : (⟨go57, 0, none⟩ : Addr) = ad125 := (by injection e125)
                                            (first | simp only [add_plain] at hx125_0 | simp only [add_at] at hx125_0 | simp only [Addr.add, Nat.zero_add] at hx125_0 | skip)
                                            replace p125 := eq_true p125
                                            replace q125 := eq_true q125
                                            have p126 : 0 ≤ (x56_2 : Int) := of_decide_eq_true (by first | (with_reducible assumption) | assumption)
                                            have q126 : x56_2 < (l3.length : Int) := of_decide_eq_true (by first | (with_reducible assumption) | assumption)
                                            obtain ⟨ad126, e126, hx126_0⟩ := Kd.at_int HR3.out x56_2 p126 q126
                                            have hw126_0 := hx126_0
                                            obtain rfl : ad123 = ad126 := (by injection e126)
                                            replace hx126_0 := (HB.out.cell (World.block_lt_of_cell? w _ hx126_0)).trans hx126_0
                                            replace p126 := eq_true p126
                                            replace q126 := eq_true q126
                                            have p60 : 0 ≤ (((rd_T39 l0_1 x56_2).f1) : Int) := of_decide_eq_true (by first | (with_reducible assumption) | assumption)
                                            have q60 : (((rd_T39 l0_1 x56_2).f1) : Int) < ((x11_2.length : Int) : Int) := of_decide_eq_true (by first | (with_reducible assumption) | assumption)
                                            obtain ⟨hx60_0, hf60_0⟩ := Kd.R_celln 0 HO_11.out (((rd_T39 l0_1 x56_2).f1) : Int) p60 q60
                                            replace p60 := eq_true p60
                                            replace q60 := eq_true q60
                                            have HP88 := Kd.R_putn HO_11.out (((rd_T39 l0_1 x56_2).f1) : Int) (wrap64 ((rd y124 ((rd_T39 l0_1 x56_2).f1)) - (rd l3 x56_2)))
                                            rw [← Ny127.out] at HP88
                                            have HQ88 := Aside0.mk HP88
                                            clear HP88
                                            refine start_ (n := 12) (S := fun w' => w'.cell? ⟨gb119, 0, none⟩ = some (.int .i64 ((rd_T39 l0_1 x56_2).f0)) ∧ w'.cell? ⟨gb119, 1, none⟩ = some (.int .i64 ((rd_T39 l0_1 x56_2).f1)) ∧ w'.cell? ⟨gb119, 2, none⟩ = some (.int .i64 ((rd_T39 l0_1 x56_2).f2)) ∧ w'.cell? ⟨go57, (((rd_T39 l0_1 x56_2).f1)).toNat, none⟩ = some (.int .i64 (rd y124 ((rd_T39 l0_1 x56_2).f1))) ∧ w'.cell? (ad123.add (x56_2).toNat) = some (.int .i64 (rd l3 x56_2))) (ds := [11]) #[false, false, false, false, false, false, false, false, false, false, false, false] (by kernel_rfl) rfl rfl ⟨(blk_cell BK119.out 0).trans rfl, (blk_cell BK119.out 1).trans rfl, (blk_cell BK119.out 2).trans rfl, hx125_0, ((HB.out.cell (World.block_lt_of_cell? w _ hw126_0)).trans hw126_0)⟩ (fun hHeld => ?_); refine with_tabW flow_Check.tab11 flow_Check.bits11 (fun HT_ HW_ => ?_)
                                            generalize w86.drew = w87 at HO_11 BK111 BK119 HB HQ85 HQ88 hf60_0 hx125_0 hx126_0 hx60_0 hHeld ⊢
                                            refine pure_ (i := 0) (N := some 86) (v := ?_) (a' := ?_) #[true, false, false, false, false, false, false, false, false, false, false, false] rfl rfl (any_of HT_.out (by kernel_rfl)) (fun _ _ _ h => h) (Or.inl ⟨by rfl, ?_⟩) ?_ ?_
                                            rotate_left
                                            · intro w'
                                              go_simp
                                              with_reducible rfl
                                            rotate_left
                                            · simp only [Act.put, List.setIfInBounds_toArray, List.set_cons_zero, List.set_cons_succ, i64_w, i32_w]
                                              rfl
                                            refine pure_ (i := 1) (N := some 87) (v := ?_) (a' := ?_) #[true, true, false, false, false, false, false, false, false, false, false, false] rfl rfl (any_of HT_.out (by kernel_rfl)) (fun _ _ _ h => h) (Or.inl ⟨by rfl, ?_⟩) ?_ ?_
                                            rotate_left
                                            · intro w'
                                              go_simp
                                              with_reducible rfl
                                            rotate_left
                                            · simp only [Act.put, List.setIfInBounds_toArray, List.set_cons_zero, List.set_cons_succ, i64_w, i32_w]
                                              rfl
                                            refine pure_ (i := 5) (N := some 91) (v := ?_) (a' := ?_) #[true, true, false, false, false, true, false, false, false, false, false, false] rfl rfl (any_of HT_.out (by kernel_rfl)) (fun _ _ _ h => h) (Or.inl ⟨by rfl, ?_⟩) ?_ ?_
                                            rotate_left
                                            · intro w'
                                              go_simp
                                              with_reducible rfl
                                            rotate_left
                                            · simp only [Act.put, List.setIfInBounds_toArray, List.set_cons_zero, List.set_cons_succ, i64_w, i32_w]
                                              rfl
                                            refine pure_ (i := 6) (N := some 92) (v := ?_) (a' := ?_) #[true, true, false, false, false, true, true, false, false, false, false, false] rfl rfl (any_of HT_.out (by kernel_rfl)) (fun _ _ _ h => h) (Or.inl ⟨by rfl, ?_⟩) ?_ ?_
                                            rotate_left
                                            · intro w'
                                              go_simp
                                              with_reducible rfl
                                            rotate_left
                                            · simp only [Act.put, List.setIfInBounds_toArray, List.set_cons_zero, List.set_cons_succ, i64_w, i32_w]
                                              rfl
                                            refine pure_ (i := 7) (N := some 93) (v := ?_) (a' := ?_) #[true, true, false, false, false, true, true, true, false, false, false, false] rfl rfl (any_of HT_.out (by kernel_rfl)) (fun _ _ _ h => h) (Or.inl ⟨by rfl, ?_⟩) ?_ ?_
                                            rotate_left
                                            · intro w'
                                              go_simp
                                              with_reducible rfl
                                            rotate_left
                                            · simp only [Act.put, List.setIfInBounds_toArray, List.set_cons_zero, List.set_cons_succ, i64_w, i32_w]
                                              rfl
                                            refine take_ (i := 2) (N := some 88) (v := ?_) (a' := ?_) #[true, true, true, false, false, true, true, true, false, false, false, false] rfl rfl (take_ofW HT_.out HW_.out (by kernel_rfl)) (fun _ _ _ h => h) (Or.inl ⟨by rfl, ?_⟩) hHeld ?_ ?_
                                            rotate_left
                                            · rintro w' ⟨s0, s1, s2, s3, s4⟩
                                              go_simp
                                              with_reducible rfl
                                            rotate_left
                                            · simp only [Act.put, List.setIfInBounds_toArray, List.set_cons_zero, List.set_cons_succ, i64_w, i32_w]
                                              rfl
                                            refine pure_ (i := 3) (N := some 89) (v := ?_) (a' := ?_) #[true, true, true, true, false, true, true, true, false, false, false, false] rfl rfl (any_of HT_.out (by kernel_rfl)) (fun _ _ _ h => h) (Or.inl ⟨by rfl, ?_⟩) ?_ ?_
                                            rotate_left
                                            · intro w'
                                              go_simp
                                              with_reducible rfl
                                            rotate_left
                                            · simp only [Act.put, List.setIfInBounds_toArray, List.set_cons_zero, List.set_cons_succ, i64_w, i32_w]
                                              rfl
                                            refine take_ (i := 4) (N := some 90) (v := ?_) (a' := ?_) #[true, true, true, true, true, true, true, true, false, false, false, false] rfl rfl (take_ofW HT_.out HW_.out (by kernel_rfl)) (fun _ _ _ h => h) (Or.inl ⟨by rfl, ?_⟩) hHeld ?_ ?_
                                            rotate_left
                                            · rintro w' ⟨s0, s1, s2, s3, s4⟩
                                              go_simp
                                              with_reducible rfl
                                            rotate_left
                                            · simp only [Act.put, List.setIfInBounds_toArray, List.set_cons_zero, List.set_cons_succ, i64_w, i32_w]
                                              rfl
                                            refine take_ (i := 8) (N := some 94) (v := ?_) (a' := ?_) #[true, true, true, true, true, true, true, true, true, false, false, false] rfl rfl (take_ofW HT_.out HW_.out (by kernel_rfl)) (fun _ _ _ h => h) (Or.inl ⟨by rfl, ?_⟩) hHeld ?_ ?_
                                            rotate_left
                                            · rintro w' ⟨s0, s1, s2, s3, s4⟩
                                              go_simp
                                              with_reducible rfl
                                            rotate_left
                                            · simp only [Act.put, List.setIfInBounds_toArray, List.set_cons_zero, List.set_cons_succ, i64_w, i32_w]
                                              rfl
                                            refine pure_ (i := 9) (N := some 95) (v := ?_) (a' := ?_) #[true, true, true, true, true, true, true, true, true, true, false, false] rfl rfl (any_of HT_.out (by kernel_rfl)) (fun _ _ _ h => h) (Or.inl ⟨by rfl, ?_⟩) ?_ ?_
                                            rotate_left
                                            · intro w'
                                              go_simp
                                              with_reducible rfl
                                            rotate_left
                                            · simp only [Act.put, List.setIfInBounds_toArray, List.set_cons_zero, List.set_cons_succ, i64_w, i32_w]
                                              rfl
                                            refine pure_ (i := 10) (N := some 96) (v := ?_) (a' := ?_) #[true, true, true, true, true, true, true, true, true, true, true, false] rfl rfl (any_of HT_.out (by kernel_rfl)) (fun _ _ _ h => h) (Or.inl ⟨by rfl, ?_⟩) ?_ ?_
                                            rotate_left
                                            · intro w'
                                              go_simp
                                              with_reducible rfl
                                            rotate_left
                                            · simp only [Act.put, List.setIfInBounds_toArray, List.set_cons_zero, List.set_cons_succ, i64_w, i32_w]
                                              rfl
                                            refine last_ (i := 11) (N := none) #[true, true, true, true, true, true, true, true, true, true, true, true] rfl rfl (one_of HT_.out (by kernel_rfl)) (by decide) (fun K hK => ?_)
                                            refine skip_ (w1 := ?_) (by rfl) rfl ?_ ?_
                                            rotate_left
                                            · go_simp
                                              rfl
                                            refine hK.out _ _ ?_
                                            clear hK K
                                            refine done_ (done_of HT_.out (by kernel_rfl)) ?_
                                            have hnb89 := NB119_111.out
                                            have hnc89 := NB111_119.out
                                            have hcz90_0 : w87.cell? ⟨gb119, 0, none⟩ = some (.int .i64 ((rd_T39 l0_1 x56_2).f0)) := (blk_cell BK119.out 0).trans rfl
                                            have hcz90_1 : w87.cell? ⟨gb119, 1, none⟩ = some (.int .i64 ((rd_T39 l0_1 x56_2).f1)) := (blk_cell BK119.out 1).trans rfl
                                            have hcz90_2 : w87.cell? ⟨gb119, 2, none⟩ = some (.int .i64 ((rd_T39 l0_1 x56_2).f2)) := (blk_cell BK119.out 2).trans rfl
                                            have hfz90_0 := blk_frozen BK119.out 0
                                            have hfz90_1 := blk_frozen BK119.out 1
                                            have hfz90_2 := blk_frozen BK119.out 2
                                            have p128 : 0 ≤ (((rd_T39 l0_1 x56_2).f0) : Int) := of_decide_eq_true (by first | (with_reducible assumption) | assumption)
                                            have q128 : ((rd_T39 l0_1 x56_2).f0) < (l4.length : Int) := of_decide_eq_true (by first | (with_reducible assumption) | assumption)
                                            obtain ⟨ad128, e128, hx128_0⟩ := Kd.at_bool HR4.out ((rd_T39 l0_1 x56_2).f0) p128 q128
                                            (try rw [← Nbq62.out] at hx128_0)
                                            cases e128
                                            have hn128_0 : ad128.block ≠ go57 := Nat.ne_of_lt (Nat.lt_of_lt_of_le (by have := World.block_lt_of_cell? _ _ hx128_0; first | rwa [add_block] at this | exact this) GB57.out)
                                            replace hx128_0 := (HB.out.cell (World.block_lt_of_cell? w _ hx128_0)).trans hx128_0
                                            replace hx128_0 := (cell_far (p := ⟨go57, (((rd_T39 l0_1 x56_2).f1) : Int).toNat, none⟩) (by first | (rw [add_block]; exact hn128_0) | (show (Addr.add _ _).block ≠ _; rw [add_block]; exact hn128_0) | exact hn128_0) (.int .i64 (wrap64 ((rd y124 ((rd_T39 l0_1 x56_2).f1)) - (rd l3 x56_2))))).trans hx128_0
                                            clear hn128_0
                                            replace p128 := eq_true p128
                                            replace q128 := eq_true q128
                                            (try have hgo1_ : gb119 ≠ go57 := (by have h_ := Kd.R_ne HO_11.out BK119.out (by decide); intro e_; exact h_ (by rw [e_]; rfl)))
                                            (try have hgo2_ : go57 ≠ gb119 := fun e_ => hgo1_ e_.symm)
                                            try go_wp2
                                            go_roundg kj41
                                            case measure => have := HJ5.out; have := HK2.out; have := HJ41.out; omega
                                            case rel => exact ⟨(y127), (x12_2), (wrap64 (x56_2 + 1)), (by first | rfl | (simp; done) | (simp [*]; done)), (by first | rfl | (simp; done) | (simp [*]; done)), H', ⟨by have := HJ5.out; have := HK2.out; have := HJ41.out; omega⟩, ⟨by (with_reducible repeat (first | apply Kd.R_alloc | apply Kd.R_drewN | apply Kd.R_drew)); exact HQ88.out⟩, ⟨by (with_reducible repeat (first | refine blk_drewN ?_ _ | refine blk_drew ?_ | refine blk_alloc ?_ _)); refine blk_far ?_ (by have h_ := Kd.R_ne HO_11.out BK111.out (by decide); intro e_; exact h_ (by rw [e_]; rfl)) _; (with_reducible repeat (first | refine blk_drewN ?_ _ | refine blk_drew ?_ | refine blk_alloc ?_ _)); exact BK111.out⟩, ⟨by repeat (first | (with_reducible first | exact HB.out | apply below_alloc | apply pw_below_drewN | apply below_drew1 | refine below_set ?_ GB57.out | refine below_set ?_ GE111.out | refine below_set ?_ GE119.out) | exact HB.out)⟩⟩
                                        · rw [if_neg c61] at H
                                          exact absurd H (by simp)
                                      · rw [if_neg c59] at H
                                        exact absurd H (by simp)
                                    · rw [if_neg c58] at H
                                      exact absurd H (by simp)
                                  · rw [if_neg c56] at H
                                    exact absurd H (by simp)
                                · rw [if_neg c55] at H
                                  exact absurd H (by simp)
                              · rw [if_neg c54] at H
                                exact absurd H (by simp)
                            · rw [if_neg c53] at H
                              exact absurd H (by simp)
                    · rw [if_neg c41] at H
                      exact absurd H (by simp)
                  · rw [if_neg c40] at H
                    exact absurd H (by simp)
                · rw [if_neg c39] at H
                  have c39b0 : decide (x56_2 < (l0_1.length : Int)) = false := decide_eq_false c39
                  clear c39
                  have H' := Aside0.mk H
                  clear H
                  obtain ⟨Ao91, co91, eo91⟩ := Kd.R_slice HO_11.out
                  subst eo91
                  go_wp2
                  go_loopg [117] k2 (fun kq v117 w' => ∃ (x117_3 : Int), v117 = .int .i64 x117_3 ∧ Aside0 (flow_Check.l1 kq a1 a2 x11_2 x12_2 x11_2 (x11_2.length : Int) x117_3 = some r) ∧ Aside0 (kq ≤ k2) ∧ Aside0 (Kd.R (Kd.int .i64) 3 w' w.heap.size (fun _ => True) (.slice Ao91 x11_2.length co91) x11_2) ∧ Aside0 (Kd.R (Kd.int .i64) 3 w' w.heap.size (fun _ => True) (.slice Ao91 x11_2.length co91) x11_2) ∧ Aside0 (w'.heap[gb111]? = some (.cells #[.int .i64 a0_0, (.slice A0_1 l0_1.length c0_1)] 24 (0, 0))) ∧ Aside0 (Below w.heap.size w w'))
                  case atStart => exact ⟨(0), (by first | rfl | (simp; done) | (simp [*]; done)), H', ⟨Nat.le_refl _⟩, ⟨by (with_reducible repeat (first | apply Kd.R_alloc | apply Kd.R_drewN | apply Kd.R_drew)); exact HO_11.out⟩, ⟨by (with_reducible repeat (first | apply Kd.R_alloc | apply Kd.R_drewN | apply Kd.R_drew)); exact HO_11.out⟩, ⟨by (with_reducible repeat (first | refine blk_drewN ?_ _ | refine blk_drew ?_ | refine blk_alloc ?_ _)); exact BK111.out⟩, ⟨by repeat (first | (with_reducible first | exact HB.out | apply below_alloc | apply pw_below_drewN | apply below_drew1 | refine below_set ?_ GE111.out) | exact HB.out)⟩⟩
                  case round =>
                    clear H'
                    try clear p1
                    try clear q1
                    try clear hx1
                    try clear p2
                    try clear c3
                    try clear c4
                    try clear c5
                    try clear p5
                    try clear q5
                    try clear hx5
                    try clear hf5
                    try clear c6
                    try clear p6
                    try clear q6
                    try clear hx6
                    try clear hf6
                    try clear c8
                    try clear p12
                    try clear q12
                    try clear hx12
                    try clear c39
                    try clear c39b0
                    try clear c40
                    try clear c41
                    try clear c53
                    try clear c54
                    try clear c55
                    try clear c56
                    try clear p57
                    try clear q57
                    try clear hx57
                    try clear hf57
                    try clear c58
                    try clear c59
                    try clear p60
                    try clear q60
                    try clear hx60
                    try clear hf60
                    try clear c61
                    try clear q62
                    try clear c63
                    try clear c64
                    try clear p64
                    try clear q65
                    try clear c81
                    try clear c89
                    try clear hcz82_0
                    try clear hcz82_1
                    try clear hcz82_2
                    try clear hcz90_0
                    try clear hcz90_1
                    try clear hcz90_2
                    try clear hfz82_0
                    try clear hfz82_1
                    try clear hfz82_2
                    try clear hfz90_0
                    try clear hfz90_1
                    try clear hfz90_2
                    try clear hx122_0
                    try clear hx123_0
                    try clear hx125_0
                    try clear hx126_0
                    try clear hx128_0
                    try clear hx129_0
                    try clear hx57_0
                    try clear hx60_0
                    try clear p122
                    try clear p123
                    try clear p125
                    try clear p126
                    try clear p128
                    try clear p129
                    try clear p57
                    try clear p60
                    try clear q122
                    try clear q123
                    try clear q125
                    try clear q126
                    try clear q128
                    try clear q129
                    try clear q57
                    try clear q60
                    obtain ⟨x117_3, rfl, HA, HK3, HO_11, HO_115, BK111, HB⟩ := hrel
                    cases gk with
                    | zero => exact absurd HA.out (by simp [flow_Check.l1])
                    | succ k3 =>
                      have H := HA.out
                      clear HA
                      simp only [flow_Check.l1] at H
                      by_cases c92 : x117_3 < (x11_2.length : Int)
                      · rw [if_pos c92] at H
                        have c92b0 : decide (x117_3 < (x11_2.length : Int)) = true := decide_eq_true c92
                        clear c92
                        by_cases c93 : 0 ≤ x117_3
                        · rw [if_pos c93] at H
                          have c93b0 : decide (0 ≤ x117_3) = true := decide_eq_true c93
                          clear c93
                          by_cases c94 : x117_3 < (x11_2.length : Int)
                          · rw [if_pos c94] at H
                            have c94b0 : decide (x117_3 < (x11_2.length : Int)) = true := decide_eq_true c94
                            clear c94
                            by_cases c95 : x117_3 = a1
                            · rw [if_pos c95] at H
                              have c95b0 : (x117_3 == a1) = true := beq_iff_eq.mpr c95
                              have c95b1 : (x117_3 != a1) = false := bne_eq_false_iff_eq.mpr c95
                              clear c95
                              have H' := Aside0.mk H
                              clear H
                              have p130 : 0 ≤ (x117_3 : Int) := of_decide_eq_true (by first | (with_reducible assumption) | assumption)
                              have q130 : x117_3 < (x11_2.length : Int) := of_decide_eq_true (by first | (with_reducible assumption) | assumption)
                              obtain ⟨ad130, e130, hx130_0⟩ := Kd.at_int (Kd.R_reads' HO_115.out).2.2 x117_3 p130 q130
                              cases e130
                              replace p130 := eq_true p130
                              replace q130 := eq_true q130
                              go_wp2
                              go_roundg k3
                              case measure => have := HJ5.out; have := HK2.out; have := HK3.out; omega
                              case rel => exact ⟨(wrap64 (x117_3 + 1)), (by first | rfl | (simp; done) | (simp [*]; done)), H', ⟨by have := HJ5.out; have := HK2.out; have := HK3.out; omega⟩, ⟨by (with_reducible repeat (first | apply Kd.R_alloc | apply Kd.R_drewN | apply Kd.R_drew)); exact HO_11.out⟩, ⟨by (with_reducible repeat (first | apply Kd.R_alloc | apply Kd.R_drewN | apply Kd.R_drew)); exact HO_115.out⟩, ⟨by (with_reducible repeat (first | refine blk_drewN ?_ _ | refine blk_drew ?_ | refine blk_alloc ?_ _)); exact BK111.out⟩, ⟨by repeat (first | (with_reducible first | exact HB.out | apply below_alloc | apply pw_below_drewN | apply below_drew1 | refine below_set ?_ GE111.out) | exact HB.out)⟩⟩
                            · rw [if_neg c95] at H
                              have c95b0 : (x117_3 == a1) = false := beq_eq_false_iff_ne.mpr c95
                              have c95b1 : (x117_3 != a1) = true := bne_iff_ne.mpr c95
                              by_cases c96 : x117_3 = a2
                              · rw [if_pos c96] at H
                                have c96b0 : (x117_3 == a2) = true := beq_iff_eq.mpr c96
                                have c96b1 : (x117_3 != a2) = false := bne_eq_false_iff_eq.mpr c96
                                clear c96
                                have H' := Aside0.mk H
                                clear H
                                have p130 : 0 ≤ (x117_3 : Int) := of_decide_eq_true (by first | (with_reducible assumption) | assumption)
                                have q130 : x117_3 < (x11_2.length : Int) := of_decide_eq_true (by first | (with_reducible assumption) | assumption)
                                obtain ⟨ad130, e130, hx130_0⟩ := Kd.at_int (Kd.R_reads' HO_115.out).2.2 x117_3 p130 q130
                                cases e130
                                replace p130 := eq_true p130
                                replace q130 := eq_true q130
                                go_wp2
                                go_roundg k3
                                case measure => have := HJ5.out; have := HK2.out; have := HK3.out; omega
                                case rel => exact ⟨(wrap64 (x117_3 + 1)), (by first | rfl | (simp; done) | (simp [*]; done)), H', ⟨by have := HJ5.out; have := HK2.out; have := HK3.out; omega⟩, ⟨by (with_reducible repeat (first | apply Kd.R_alloc | apply Kd.R_drewN | apply Kd.R_drew)); exact HO_11.out⟩, ⟨by (with_reducible repeat (first | apply Kd.R_alloc | apply Kd.R_drewN | apply Kd.R_drew)); exact HO_115.out⟩, ⟨by (with_reducible repeat (first | refine blk_drewN ?_ _ | refine blk_drew ?_ | refine blk_alloc ?_ _)); exact BK111.out⟩, ⟨by repeat (first | (with_reducible first | exact HB.out | apply below_alloc | apply pw_below_drewN | apply below_drew1 | refine below_set ?_ GE111.out) | exact HB.out)⟩⟩
                              · rw [if_neg c96] at H
                                have c96b0 : (x117_3 == a2) = false := beq_eq_false_iff_ne.mpr c96
                                have c96b1 : (x117_3 != a2) = true := bne_iff_ne.mpr c96
                                by_cases c97 : (rd x11_2 x117_3) = 0
                                · rw [if_pos c97] at H
                                  have c97b0 : ((rd x11_2 x117_3) == 0) = true := beq_iff_eq.mpr c97
                                  have c97b1 : ((rd x11_2 x117_3) != 0) = false := bne_eq_false_iff_eq.mpr c97
                                  clear c97
                                  have H' := Aside0.mk H
                                  clear H
                                  have p130 : 0 ≤ (x117_3 : Int) := of_decide_eq_true (by first | (with_reducible assumption) | assumption)
                                  have q130 : x117_3 < (x11_2.length : Int) := of_decide_eq_true (by first | (with_reducible assumption) | assumption)
                                  obtain ⟨ad130, e130, hx130_0⟩ := Kd.at_int (Kd.R_reads' HO_115.out).2.2 x117_3 p130 q130
                                  cases e130
                                  replace p130 := eq_true p130
                                  replace q130 := eq_true q130
                                  go_wp2
                                  go_roundg k3
                                  case measure => have := HJ5.out; have := HK2.out; have := HK3.out; omega
                                  case rel => exact ⟨(wrap64 (x117_3 + 1)), (by first | rfl | (simp; done) | (simp [*]; done)), H', ⟨by have := HJ5.out; have := HK2.out; have := HK3.out; omega⟩, ⟨by (with_reducible repeat (first | apply Kd.R_alloc | apply Kd.R_drewN | apply Kd.R_drew)); exact HO_11.out⟩, ⟨by (with_reducible repeat (first | apply Kd.R_alloc | apply Kd.R_drewN | apply Kd.R_drew)); exact HO_115.out⟩, ⟨by (with_reducible repeat (first | refine blk_drewN ?_ _ | refine blk_drew ?_ | refine blk_alloc ?_ _)); exact BK111.out⟩, ⟨by repeat (first | (with_reducible first | exact HB.out | apply below_alloc | apply pw_below_drewN | apply below_drew1 | refine below_set ?_ GE111.out) | exact HB.out)⟩⟩
                                · rw [if_neg c97] at H
                                  have c97b0 : ((rd x11_2 x117_3) == 0) = false := beq_eq_false_iff_ne.mpr c97
                                  have c97b1 : ((rd x11_2 x117_3) != 0) = true := bne_iff_ne.mpr c97
                                  obtain rfl := Option.some.inj H
                                  have p130 : 0 ≤ (x117_3 : Int) := of_decide_eq_true (by first | (with_reducible assumption) | assumption)
                                  have q130 : x117_3 < (x11_2.length : Int) := of_decide_eq_true (by first | (with_reducible assumption) | assumption)
                                  obtain ⟨ad130, e130, hx130_0⟩ := Kd.at_int (Kd.R_reads' HO_115.out).2.2 x117_3 p130 q130
                                  cases e130
                                  replace p130 := eq_true p130
                                  replace q130 := eq_true q130
                                  go_wp2
                                  go_ret
                                  exact ⟨by first | rfl | (simp [errW_none, errW_some] <;> rfl) | (simp [*, errW_none, errW_some] <;> rfl), by repeat (first | (with_reducible first | exact HB.out | apply below_alloc | apply pw_below_drewN | apply below_drew1 | refine below_set ?_ GE111.out) | exact HB.out)⟩
                          · rw [if_neg c94] at H
                            exact absurd H (by simp)
                        · rw [if_neg c93] at H
                          exact absurd H (by simp)
                      · rw [if_neg c92] at H
                        have c92b0 : decide (x117_3 < (x11_2.length : Int)) = false := decide_eq_false c92
                        clear c92
                        by_cases c98 : 0 ≤ a1
                        · rw [if_pos c98] at H
                          have c98b0 : decide (0 ≤ a1) = true := decide_eq_true c98
                          clear c98
                          by_cases c99 : a1 < (x11_2.length : Int)
                          · rw [if_pos c99] at H
                            have c99b0 : decide (a1 < (x11_2.length : Int)) = true := decide_eq_true c99
                            clear c99
                            obtain rfl := Option.some.inj H
                            have p131 : 0 ≤ (a1 : Int) := of_decide_eq_true (by first | (with_reducible assumption) | assumption)
                            have q131 : a1 < (x11_2.length : Int) := of_decide_eq_true (by first | (with_reducible assumption) | assumption)
                            obtain ⟨ad131, e131, hx131_0⟩ := Kd.at_int (Kd.R_reads' HO_11.out).2.2 a1 p131 q131
                            cases e131
                            replace p131 := eq_true p131
                            replace q131 := eq_true q131
                            go_wp2
                            go_ret
                            exact ⟨by first | rfl | (simp [errW_none, errW_some] <;> rfl) | (simp [*, errW_none, errW_some] <;> rfl), by repeat (first | (with_reducible first | exact HB.out | apply below_alloc | apply pw_below_drewN | apply below_drew1 | refine below_set ?_ GE111.out) | exact HB.out)⟩
                          · rw [if_neg c99] at H
                            exact absurd H (by simp)
                        · rw [if_neg c98] at H
                          exact absurd H (by simp)
          · rw [if_neg c34] at H
            exact absurd H (by simp)
        · rw [if_neg c33] at H
          exact absurd H (by simp)

end Go.Proofs.Ytfjbbmgnfpeogaa.Pr
