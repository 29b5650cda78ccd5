import Derived.Test.YtioglahnliajlaaCkCut1
set_option linter.unusedVariables false
set_option linter.unusedSimpArgs false
/-! CheckCut's contract. -/
namespace Go.Proofs.Ytioglahnliajlaa.Pr
open Go.RowKit Go.Proofs.YtioglahnliajlaaW.PrintWords Go.Proofs.YtioglahnliajlaaW.PrintLast Go.Proofs.YtioglahnliajlaaW.PrintMore
attribute [local go_sem] Oper.semAt_some

theorem cboolinfo : (Try.prog.info? 4).map (fun i => (i.zero, i.size, i.bytes)) = some (some (.bool false), 1, 1) := by kernel_rfl

set_option maxRecDepth 1000000 in
set_option maxHeartbeats 4000000 in
theorem cut_start (A0 : Option Addr) (c0 : Nat) (l0 : List S38) (A1 : Option Addr) (c1 : Nat) (l1 : List Int) (A2 : Option Addr) (c2 : Nat) (cj : List Int) (A3 : Option Addr) (c3 : Nat) (cs : List Int) (w : World)
    (hr0 : Kd.C k38 w A0 l0.length l0) (hc0 : l0.length ≤ c0) (hr1 : Kd.C (Kd.int .i64) w A1 l1.length l1) (hc1 : l1.length ≤ c1) (hr2 : Kd.C (Kd.int .i64) w A2 cj.length cj) (hc2 : cj.length ≤ c2) (hr3 : Kd.C (Kd.int .i64) w A3 cs.length cs) (hc3 : cs.length ≤ c3)
    (R : Ending → World → Prop) (hR : ∀ w', Below w.heap.size w w' → R (.returned (.bool (ckCut l0 l1 cj cs))) w') :
    Calls Try.prog 18 #[.slice A0 l0.length c0, .slice A1 l1.length c1, .agg #[.slice A2 cj.length c2, .slice A3 cs.length c3]] w R := by
  have hA := Aside0.mk (And.intro hr0 (And.intro hr1 (And.intro hr2 hr3)))
  have hR' := Aside0.mk hR
  clear hr0 hr1 hr2 hr3 hR
  have hmk := fun h => print_make_of 54 4 (.bool false) 1 Try.underlying54 cboolinfo rfl (by decide) l1.length h
  refine callsIn_wide (n := 0).1 ?_
  refine callsIn_of_wp_marks Try.func18 rfl trivial ?_ rfl
  refine wpIn_wide.2 ?_
  simp only [Try.ntmps18, List.size_toArray, List.length_cons, List.length_nil, Nat.reduceAdd, Nat.reduceSub, Array.replicate_succ, Array.replicate_zero, List.push_toArray, List.append_toArray, List.nil_append, List.cons_append]
  refine wp_seq_k (fun K hK => ?_)
  have hK' := Aside0.mk hK
  clear hK
  go_wp2
  refine hK'.out _ _ ?_
  clear hK'
  have hX := allocs2 w (.cells #[.slice A0 l0.length c0] 22) (.cells #[.slice A2 cj.length c2, .slice A3 cs.length c3] 26)
  generalize ((w.alloc (.cells #[.slice A0 l0.length c0] 22)).alloc (.cells #[.slice A2 cj.length c2, .slice A3 cs.length c3] 26)) = X at *
  obtain ⟨hXb, x2, x5, hXs⟩ := hX
  have hX2 := Aside0.mk (And.intro hXb (And.intro x2 (And.intro x5 hXs)))
  have q2 := blk_cell x2 0
  simp at q2
  clear hXb x2 x5 hXs
  have refuse : Aside0 (¬ (validOk l0 l1 ∧ choiceOk l0.length cj ∧ choiceOk l1.length cs) → ∀ w', Below w.heap.size w w' → R (.returned (.bool false)) w') := ⟨fun hn w' hb => by
    have := hR'.out w' hb
    unfold ckCut at this
    rwa [if_neg hn] at this⟩
  refine wp_seq_k (fun K hK => ?_)
  have hK' := Aside0.mk hK
  clear hK
  by_cases hv : validOk l0 l1
  · have hd := Aside0.mk (show plan_Valid.f 100 l0 l1 = some true by rw [valid_pf l0 l1 100 (by omega), decide_eq_true hv])
    have hJ12 := hv.1.1
    have hS24 := hv.1.2
    have hd1 := Aside0.mk (choice_pf cj l0.length (by omega))
    have hd2 := Aside0.mk (choice_pf cs l1.length (by omega))
    go_wp2_with fail
    refine (plan_Valid.calls 100 A0 c0 l0 A1 c1 l1 true X (Kd.C_below hA.out.1 hX2.out.1) hc0 (Kd.C_below hA.out.2.1 hX2.out.1) hc1 hd.out).mono ?_
    rintro e w1 ⟨rfl, hb1⟩
    have hbw := Aside0.mk (below_then hX2.out.1 hX2.out.1.size hb1)
    have x3 := blk_below hX2.out.2.1 hb1
    have x5 := blk_below hX2.out.2.2.1 hb1
    have q3 := blk_cell x3 0
    have q5 := blk_cell x5 0
    have q51 := blk_cell x5 1
    simp at q3 q5 q51
    have hx3 := Aside0.mk x3
    have hx5 := Aside0.mk x5
    clear hb1 q2 x3 x5
    by_cases hcj : choiceOk l0.length cj
    · rw [decide_eq_true hcj] at hd1
      go_wp2_with fail
      refine (plan_isChoice.calls (cj.length + 1) A2 c2 cj (l0.length : Int) true w1 (Kd.C_below hA.out.2.2.1 hbw.out) hc2 hd1.out).mono ?_
      rintro e w2 ⟨rfl, ⟨⟨m, rfl⟩⟩⟩
      have hbw2 := Aside0.mk (pw_below_drewN hbw.out m)
      by_cases hcs : choiceOk l1.length cs
      · rw [decide_eq_true hcs] at hd2
        go_wp2_with fail
        refine (plan_isChoice.calls (cs.length + 1) A3 c3 cs (l1.length : Int) true (w1.drewN m) (Kd.C_below hA.out.2.2.2 hbw2.out) hc3 hd2.out).mono ?_
        rintro e w3 ⟨rfl, ⟨⟨m2, rfl⟩⟩⟩
        have hbw3 := Aside0.mk (pw_below_drewN hbw2.out m2)
        go_wp2
        refine hK'.out _ _ ?_
        clear hK'
        have hbw4 := Aside0.mk (pw_below_drewN hbw.out (m + m2))
        have z3 : Aside0 ((w1.drewN (m + m2)).heap[w.heap.size]? = some (.cells #[.slice A0 l0.length c0] 22 (0, 0))) := ⟨blk_below hx3.out (pw_below_drewN (Below.refl _ _) (m + m2))⟩
        have z5 : Aside0 ((w1.drewN (m + m2)).heap[w.heap.size + 1]? = some (.cells #[.slice A2 cj.length c2, .slice A3 cs.length c3] 26 (0, 0))) := ⟨blk_below hx5.out (pw_below_drewN (Below.refl _ _) (m + m2))⟩
        clear q3 q5 q51 hbw hbw2 hbw3 hx3 hx5
        generalize w1.drewN (m + m2) = w4 at *
        have hsz4 := blk_lt z5.out
        have hmk' := hmk (by omega)
        clear hmk
        refine wp_seq_k (fun K hK => ?_)
        have hK' := Aside0.mk hK
        clear hK
        go_wp2
        refine hK'.out _ _ ?_
        clear hK' hmk'
        rw [made_bools]
        have hX7 := allocs2 w4 (.cells (boolCells (List.replicate l1.length false)) 4) (.cells #[.slice (some ⟨w4.heap.size, 0, none⟩) l1.length l1.length] 54)
        generalize ((w4.alloc (.cells (boolCells (List.replicate l1.length false)) 4)).alloc (.cells #[.slice (some ⟨w4.heap.size, 0, none⟩) l1.length l1.length] 54)) = w5 at *
        obtain ⟨hb5, y0, y7, hs5⟩ := hX7
        refine wp_seq_k (fun K hK => ?_)
        have hK' := Aside0.mk hK
        clear hK
        go_wp2
        refine hK'.out _ _ ?_
        clear hK'
        have y9 := blk_new w5 (.cells #[.int .i64 0] 3)
        have hb6 : Below w5.heap.size w5 (w5.alloc (.cells #[.int .i64 0] 3)) := below_alloc (Below.refl _ _) _
        generalize (w5.alloc (.cells #[.int .i64 0] 3)) = w6 at *
        rw [hs5] at y9
        have hbw4s := hbw4.out.size
        have hM : CM w w6 w.heap.size (w4.heap.size + 1) (w4.heap.size + 2) w4.heap.size A0 A2 A3 l0.length c0 cj.length c2 cs.length c3 l1.length (List.replicate l1.length false) 0 :=
          ⟨blk_below (blk_below z3.out hb5) hb6, blk_below (blk_below z5.out hb5) hb6, blk_below y7 hb6, blk_below y0 hb6, y9, Nat.le_refl _, by omega, by omega, by omega, below_then (below_then hbw4.out hbw4s hb5) (Nat.le_trans hbw4s hb5.size) hb6⟩
        clear y9 y0 y7
        try simp only [hs5]
        refine cut_slots w w6 w.heap.size (w4.heap.size + 1) (w4.heap.size + 2) w4.heap.size A0 A1 A2 A3 c0 c1 c2 c3 l0 l1 cj cs [] hM hA.out.2.2.2 hA.out.2.1 hv hcs _ _ _ _ _ _ _ _ _ _ _ _ _ _ _ _ _ _ _ _ _ _ _ _ _ _ _ _ _ _ _ _ _ _ _ _ _ _ _ _ _ _ _ _ _ _ _ _ _ _ _ _ _ _ _ _ _ _ _ _ _ _ _ _ _ _ _ _ _ _ _ _ _ _ _ _ _ _ _ _ _ _ _ _ _ _ ?_
        intro y0 y2 y4 y6 y10 y11 y12 y13 y14 y15 y16 y17 y18 y19 y20 y21 y22 y23 y24 y25 y26 y27 y28 y29 y30 y31 y32 y33 y34 y35 y36 y37 y38 y39 y40 y41 y42 y43 y44 y45 y46 y47 y48 y49 y50 y51 y52 y53 y54 y55 y56 y57 y58 y59 y60 y61 y62 y63 y64 y65 y66 y67 y68 y69 y70 y71 y72 y73 y74 y75 y76 y77 y78 y79 y80 y81 y82 y83 y84 y85 y86 y87 y88 y89 y90 W7 hM7
        have hgs := giveS_le (cs := cs) hv.2.1 cs.length
        have hcl := choice_small hcs
        refine cut_jobs w W7 w.heap.size (w4.heap.size + 1) (w4.heap.size + 2) w4.heap.size A0 A1 A2 A3 c0 c1 c2 c3 cs.length l0 l1 cj (markOf l1.length cs cs.length) (giveS l1 cs cs.length) (markOf_length _ _ _) (by omega) hM7 hA.out.2.2.1 hA.out.1 hv hcj _ _ _ _ _ _ _ _ _ _ _ _ _ _ _ _ _ _ _ _ _ _ _ _ _ _ _ _ _ _ _ _ _ _ _ _ _ _ _ _ _ _ _ _ _ _ _ _ _ _ _ _ _ _ _ _ _ _ _ _ _ _ _ _ _ _ _ _ _ _ _ _ _ _ _ _ _ _ _ _ _ _ _ _ _ _ ?_
        intro y0 y2 y4 y6 y10 y11 y12 y13 y14 y15 y16 y17 y18 y19 y20 y21 y22 y23 y24 y25 y26 y27 y28 y29 y30 y31 y32 y33 y34 y35 y36 y37 y38 y39 y40 y41 y42 y43 y44 y45 y46 y47 y48 y49 y50 y51 y52 y53 y54 y55 y56 y57 y58 y59 y60 y61 y62 y63 y64 y65 y66 y67 y68 y69 y70 y71 y72 y73 y74 y75 y76 y77 y78 y79 y80 y81 y82 y83 y84 y85 y86 y87 y88 y89 y90 l W8 hM8 hm8
        have hfin := Aside0.mk hM8
        have q9 := blk_cell hM8.m9 0
        simp at q9
        have q9l := blk_lt hM8.m9
        clear hM hM7 hM8
        conv => arg 2; whnf
        go_wp2
        refine leave_marks2 (v := .bool (ckCut l0 l1 cj cs)) l w.heap.size W8 hm8 (fun w' h1 h2 h3 h4 h5 => ⟨?_, hR'.out w' (hfin.out.b.trans ⟨h3, h4, h5, by omega, fun k hk => h1 k (fun hkl => ?_)⟩)⟩)
        · refine (results_tmp rfl _ _ _).trans ?_
          unfold ckCut
          rw [if_pos ⟨hv, hcj, hcs⟩]
          rfl
        · have := (hm8.at_ k hkl).2
          omega
      · rw [decide_eq_false hcs] at hd2
        go_wp2_with fail
        refine (plan_isChoice.calls (cs.length + 1) A3 c3 cs (l1.length : Int) false (w1.drewN m) (Kd.C_below hA.out.2.2.2 hbw2.out) hc3 hd2.out).mono ?_
        rintro e w3 ⟨rfl, ⟨⟨m2, rfl⟩⟩⟩
        have hbw3 := Aside0.mk (pw_below_drewN hbw2.out m2)
        go_wp2
        refine ⟨_, results_tmp rfl _ _ _, ?_⟩
        exact refuse.out (fun h => hcs h.2.2) _ (pw_below_drewN hbw.out (m + m2))
    · rw [decide_eq_false hcj] at hd1
      go_wp2_with fail
      refine (plan_isChoice.calls (cj.length + 1) A2 c2 cj (l0.length : Int) false w1 (Kd.C_below hA.out.2.2.1 hbw.out) hc2 hd1.out).mono ?_
      rintro e w2 ⟨rfl, ⟨⟨m, rfl⟩⟩⟩
      have hbw2 := Aside0.mk (pw_below_drewN hbw.out m)
      go_wp2
      refine ⟨_, results_tmp rfl _ _ _, ?_⟩
      exact refuse.out (fun h => hcj h.2.1) _ hbw2.out
  · have hd := Aside0.mk (show plan_Valid.f 100 l0 l1 = some false by rw [valid_pf l0 l1 100 (by omega), decide_eq_false hv])
    go_wp2_with fail
    refine (plan_Valid.calls 100 A0 c0 l0 A1 c1 l1 false X (Kd.C_below hA.out.1 hX2.out.1) hc0 (Kd.C_below hA.out.2.1 hX2.out.1) hc1 hd.out).mono ?_
    rintro e w1 ⟨rfl, hb1⟩
    have hbw := Aside0.mk (below_then hX2.out.1 hX2.out.1.size hb1)
    clear hb1 q2
    go_wp2
    refine ⟨_, results_tmp rfl _ _ _, ?_⟩
    exact refuse.out (fun h => hv h.1) _ hbw.out

theorem plan_CheckCut.calls (A0 : Option Addr) (c0 : Nat) (l0 : List S38) (A1 : Option Addr) (c1 : Nat) (l1 : List Int) (A2 : Option Addr) (c2 : Nat) (l2 : List Int) (A3 : Option Addr) (c3 : Nat) (l3 : List Int) (r : Bool) (w : World)
    (hr0 : Kd.C k38 w A0 l0.length l0) (hc0 : l0.length ≤ c0) (hr1 : Kd.C (Kd.int .i64) w A1 l1.length l1) (hc1 : l1.length ≤ c1) (hr2 : Kd.C (Kd.int .i64) w A2 l2.length l2) (hc2 : l2.length ≤ c2) (hr3 : Kd.C (Kd.int .i64) w A3 l3.length l3) (hc3 : l3.length ≤ c3)
    (h : plan_CheckCut.f l0 l1 l2 l3 = some r) :
    Calls Try.prog 18 #[.slice A0 l0.length c0, .slice A1 l1.length c1, .agg #[.slice A2 l2.length c2, .slice A3 l3.length c3]] w fun e w' => e = .returned (.bool r) ∧ Below w.heap.size w w' := by
  have hr : ckCut l0 l1 l2 l3 = r := Option.some.inj h
  subst hr
  exact cut_start A0 c0 l0 A1 c1 l1 A2 c2 l2 A3 c3 l3 w hr0 hc0 hr1 hc1 hr2 hc2 hr3 hc3 _ (fun w' hb => ⟨rfl, hb⟩)
end Go.Proofs.Ytioglahnliajlaa.Pr
