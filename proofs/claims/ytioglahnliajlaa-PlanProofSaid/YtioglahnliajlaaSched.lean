import Derived.Test.YtioglahnliajlaaSchedF
set_option linter.unusedVariables false
set_option linter.unusedSimpArgs false
/-! Schedule's contract. -/
namespace Go.Proofs.Ytioglahnliajlaa.Pr
open Go.RowKit Go.Proofs.YtioglahnliajlaaW.PrintWords Go.Proofs.YtioglahnliajlaaW.PrintLast Go.Proofs.YtioglahnliajlaaW.PrintMore
attribute [local go_sem] Oper.semAt_some

theorem sched_store_func {P : Program} {w : World} {a : Addr} {m : Mode} (fn : Fn) (first captured : Array Value) : (store a (.func fn first captured) m).run P w = stored P w a (.func fn first captured) m := run_store P w a _ m rfl
attribute [local go_sem] sched_store_func

set_option maxRecDepth 1000000 in
set_option maxHeartbeats 4000000 in
theorem sched_yes (A0 : Option Addr) (c0 : Nat) (l0 : List S38) (A1 : Option Addr) (c1 : Nat) (l1 : List Int) (w : World) (hr0 : Kd.C k38 w A0 l0.length l0) (hc0 : l0.length ≤ c0) (hr1 : Kd.C (Kd.int .i64) w A1 l1.length l1) (hc1 : l1.length ≤ c1)
    (hv : validOk l0 l1) (n : Int) (fl : List Int) (sd : List Bool) (hmost : flow_Most.f (sinkOf l0 l1 + 1) (esAll l0 l1) 0 (sinkOf l0 l1) = some (n, fl, sd, 0)) (hfl : fl.length = (esAll l0 l1).length) (hsd : sd.length = l0.length + l1.length + 2)
    (R : Ending → World → Prop)
    (hR1 : wantE l0 l0.length ≤ n → ∀ v1 w', Kd.S (Kd.slice 3 (Kd.int .i64)) 23 w' w.heap.size (fun _ => True) v1 ((List.range l0.length).map (matOf l0.length l1.length (sinkOf l0 l1) (esAll l0 l1) fl (esAll l0 l1).length)) →
      Below w.heap.size w w' → R (.returned (.tuple #[v1, .agg #[.slice none 0 0, .slice none 0 0], .int .i64 0])) w')
    (hR2 : n < wantE l0 l0.length → ∀ v2 v3 w', Kd.R (Kd.int .i64) 3 w' w.heap.size (fun _ => True) v2 (placesFrom 0 ((sd.take (1 + l0.length)).drop 1)) → Kd.R (Kd.int .i64) 3 w' w.heap.size (fun _ => True) v3 (placesFrom 0 ((sd.take (1 + l0.length + l1.length)).drop (1 + l0.length))) →
      (∀ k, v2.ownBlock = some k → some k ≠ v3.ownBlock) → Below w.heap.size w w' → R (.returned (.tuple #[.slice none 0 0, .agg #[v2, v3], .int .i64 10])) w') :
    Calls Try.prog 12 #[.slice A0 l0.length c0, .slice A1 l1.length c1] w R := by
  have hA := Aside0.mk (And.intro hr0 (And.intro hr1 (And.intro hmost (And.intro hfl hsd))))
  have hv' := Aside0.mk hv
  have hR1' := Aside0.mk hR1
  have hR2' := Aside0.mk hR2
  have hd := Aside0.mk (show plan_Valid.f 100 l0 l1 = some true by rw [valid_pf l0 l1 100 (by omega), decide_eq_true hv])
  obtain ⟨⟨hJ, hS⟩, _, _⟩ := hv
  clear hr0 hr1 hmost hfl hsd hR1 hR2
  refine callsIn_wide (n := 0).1 ?_
  refine callsIn_of_wp_marks Try.func12 rfl trivial ?_ rfl
  refine wpIn_wide.2 ?_
  simp only [Try.ntmps12, List.size_toArray, List.length_cons, List.length_nil, Nat.reduceAdd, Nat.reduceSub, Array.replicate_succ, Array.replicate_zero, List.push_toArray, List.append_toArray, List.nil_append, List.cons_append]
  refine wp_seq_k (fun K hK => ?_)
  have hK' := Aside0.mk hK
  clear hK
  go_wp2
  refine hK'.out _ _ ?_
  clear hK'
  have hX := allocs2 w (.cells #[.slice A0 l0.length c0] 22) (.cells #[.slice none 0 0, .slice none 0 0] 26)
  generalize ((w.alloc (.cells #[.slice A0 l0.length c0] 22)).alloc (.cells #[.slice none 0 0, .slice none 0 0] 26)) = X at *
  obtain ⟨hXb, x2, x5, hXs⟩ := hX
  have q2 := blk_cell x2 0
  simp at q2
  have hX2 := Aside0.mk (And.intro hXb (And.intro x2 (And.intro x5 hXs)))
  clear hXb x2 x5 hXs
  refine wp_seq_k (fun K hK => ?_)
  have hK' := Aside0.mk hK
  clear hK
  go_wp2_with fail
  refine (plan_Valid.calls 100 A0 c0 l0 A1 c1 l1 true X (Kd.C_below hA.out.1 hX2.out.1) hc0 (Kd.C_below hA.out.2.1 hX2.out.1) hc1 hd.out).mono ?_
  rintro e w1 ⟨rfl, hb1⟩
  have hb1' := Aside0.mk hb1
  clear hb1 q2
  go_wp2
  refine hK'.out _ _ ?_
  clear hK'
  have x2 := blk_below hX2.out.2.1 hb1'.out
  have x5 := blk_below hX2.out.2.2.1 hb1'.out
  have hsz1 := hb1'.out.size
  have hszX := hX2.out.2.2.2
  have hbw := Aside0.mk (below_then hX2.out.1 hX2.out.1.size hb1'.out)
  have hx2 := Aside0.mk x2
  have hx5 := Aside0.mk x5
  clear x2 x5
  refine wp_seq_k (fun K hK => ?_)
  have hK' := Aside0.mk hK
  clear hK
  go_wp2
  refine hK'.out _ _ ?_
  clear hK'
  refine wp_seq_k (fun K hK => ?_)
  have hK' := Aside0.mk hK
  clear hK
  go_wp2
  refine hK'.out _ _ ?_
  clear hK'
  have h2 := allocs2 w1 (.cells #[.func (.func 22) #[] #[]] 44) (.cells #[.func (.func 23) #[] #[.pointer (some ⟨w.heap.size, 0, none⟩)]] 44)
  generalize ((w1.alloc (.cells #[.func (.func 22) #[] #[]] 44)).alloc (.cells #[.func (.func 23) #[] #[.pointer (some ⟨w.heap.size, 0, none⟩)]] 44)) = w2 at *
  obtain ⟨hb2, x7, x8, hs2⟩ := h2
  have q8 := blk_cell x8 0
  simp at q8
  have q8l := blk_lt x8
  have hx7 := Aside0.mk x7
  have hx8 := Aside0.mk x8
  have hb2' := Aside0.mk hb2
  have hx22 := Aside0.mk (blk_below hx2.out hb2)
  have hs2' := Aside0.mk hs2
  clear x7 x8 hb2 hs2
  refine wp_seq_k (fun K hK => ?_)
  have hK' := Aside0.mk hK
  clear hK
  go_wp2_with fail
  refine (s2_calls w2 w.heap.size A0 c0 l0.length (l1.length : Int) (by omega) (by omega) (by omega) hx22.out).mono ?_
  rintro e w3 ⟨rfl, rfl⟩
  go_wp2
  refine hK'.out _ _ ?_
  clear hK' q8
  refine wp_seq_k (fun K hK => ?_)
  have hK' := Aside0.mk hK
  clear hK
  go_wp2
  refine hK'.out _ _ ?_
  clear hK'
  refine wp_seq_k (fun K hK => ?_)
  have hK' := Aside0.mk hK
  clear hK
  go_wp2
  refine hK'.out _ _ ?_
  clear hK'
  refine wp_seq_k (fun K hK => ?_)
  have hK' := Aside0.mk hK
  clear hK
  go_wp2
  refine hK'.out _ _ ?_
  clear hK'
  have h4 := allocs2 w2 (.cells #[.int .i64 (1 + (l0.length : Int) + (l1.length : Int) + 1), .slice none 0 0] 47) (.cells #[.func (.func 24) #[] #[.pointer (some ⟨w2.heap.size, 0, none⟩)]] 50)
  generalize ((w2.alloc (.cells #[.int .i64 (1 + (l0.length : Int) + (l1.length : Int) + 1), .slice none 0 0] 47)).alloc (.cells #[.func (.func 24) #[] #[.pointer (some ⟨w2.heap.size, 0, none⟩)]] 50)) = w4 at *
  obtain ⟨hb4, x10, x11, _⟩ := h4
  have hL : LM w w4 w.heap.size (w.heap.size + 1) w1.heap.size (w1.heap.size + 1) w2.heap.size (w2.heap.size + 1) A0 l0.length c0 (1 + (l0.length : Int) + (l1.length : Int) + 1) [] := by
    have hbw2 := below_then hbw.out hbw.out.size hb2'.out
    refine ⟨blk_below hx22.out hb4, blk_below (blk_below hx5.out hb2'.out) hb4, blk_below hx7.out hb4, blk_below hx8.out hb4, x11, ⟨_, x10, Kd.R_nil _ _ _ _ _⟩, hbw2.size, below_then hbw2 hbw2.size hb4⟩
  have hb5 := blk_lt hX2.out.2.2.1
  refine sched_jobs w w4 w.heap.size (w.heap.size + 1) w1.heap.size (w1.heap.size + 1) w2.heap.size (w2.heap.size + 1) A0 A1 c0 c1 (1 + (l0.length : Int) + (l1.length : Int) + 1) (1 + (l0.length : Int) + (l1.length : Int)) l0 l1 hL hA.out.1 hJ (by omega)
    (fun i hi => by
      obtain ⟨⟨a, b⟩, c, d, _⟩ := hv'.out.2.2 _ (rd_memJ l0 i hi)
      exact ⟨a, b, by omega, d.1, d.2⟩) _ _ _ _ _ _ _ _ _ _ _ _ _ _ _ _ _ _ _ _ _ _ _ _ _ _ _ _ _ _ _ _ _ _ _ _ _ _ _ _ _ _ _ _ _ _ _ _ _ _ _ _ _ _ _ _ _ _ _ _ _ _ _ _ _ _ _ _ _ _ _ _ _ _ _ _ _ _ _ _ _ _ _ _ _ _ _ _ _ _ _ _ _ _ _ _ _ _ _ _ _ _ _ _ _ _ _ _ _ _ _ _ _ _ _ _ _ _ _ _ _ _ _ _ _ _ _ _ _ _ _ _ _ _ _ _ _ _ _ _ _ _ _ _ _ _ _ _ _ _ _ _ _ _ _ _ _ _ _ _ ?_
  intro y0 y3 y4 y6 y13 y14 y15 y16 y17 y18 y19 y20 y21 y22 y23 y24 y25 y26 y27 y28 y29 y30 y31 y32 y33 y34 y35 y36 y37 y38 y39 y40 y41 y42 y43 y44 y45 y46 y47 y48 y49 y50 y51 y52 y53 y54 y55 y56 y57 y58 y59 y60 y61 y62 y63 y64 y65 y66 y67 y68 y69 y70 y71 y72 y73 y74 y75 y76 y77 y78 y79 y80 y81 y82 y83 y84 y85 y86 y87 y88 y89 y90 y91 y92 y93 y94 y95 y96 y97 y98 y99 y100 y101 y102 y103 y104 y105 y106 y107 y108 y109 y110 y111 y112 y113 y114 y115 y116 y117 y118 y119 y120 y121 y122 y123 y124 y125 y126 y127 y128 y129 y130 y131 y132 y133 y134 y135 y136 y137 y138 y139 y140 y141 y142 y143 y144 y145 y146 y147 y148 y149 y150 y151 y152 y153 y154 y155 y156 y157 y158 y159 y160 y161 y162 y163 y164 y165 y166 y167 l W5 hL5 hm5
  have hlen := es_len hv'.out
  have hle1 : (jobsE l0.length l0 l0.length).length ≤ 324 := by
    unfold esAll at hlen
    rw [List.length_append] at hlen
    omega
  refine sched_sup w W5 w.heap.size (w.heap.size + 1) w1.heap.size (w1.heap.size + 1) w2.heap.size (w2.heap.size + 1) A0 A1 l0.length c0 c1 (1 + (l0.length : Int) + (l1.length : Int) + 1) (1 + (l0.length : Int) + (l1.length : Int)) (wantE l0 l0.length) (jobsE l0.length l0 l0.length) l1 (l.map mark) hL5 hA.out.2.1 (by omega) (by omega) (by omega) _ _ _ _ _ _ _ _ _ _ _ _ _ _ _ _ _ _ _ _ _ _ _ _ _ _ _ _ _ _ _ _ _ _ _ _ _ _ _ _ _ _ _ _ _ _ _ _ _ _ _ _ _ _ _ _ _ _ _ _ _ _ _ _ _ _ _ _ _ _ _ _ _ _ _ _ _ _ _ _ _ _ _ _ _ _ _ _ _ _ _ _ _ _ _ _ _ _ _ _ _ _ _ _ _ _ _ _ _ _ _ _ _ _ _ _ _ _ _ _ _ _ _ _ _ _ _ _ _ _ _ _ _ _ _ _ _ _ _ _ _ _ _ _ _ _ _ _ _ _ _ _ _ _ _ _ _ _ _ _ ?_
  intro y0 y3 y4 y6 y13 y14 y15 y16 y17 y18 y19 y20 y21 y22 y23 y24 y25 y26 y27 y28 y29 y30 y31 y32 y33 y34 y35 y36 y37 y38 y39 y40 y41 y42 y43 y44 y45 y46 y47 y48 y49 y50 y51 y52 y53 y54 y55 y56 y57 y58 y59 y60 y61 y62 y63 y64 y65 y66 y67 y68 y69 y70 y71 y72 y73 y74 y75 y76 y77 y78 y79 y80 y81 y82 y83 y84 y85 y86 y87 y88 y89 y90 y91 y92 y93 y94 y95 y96 y97 y98 y99 y100 y101 y102 y103 y104 y105 y106 y107 y108 y109 y110 y111 y112 y113 y114 y115 y116 y117 y118 y119 y120 y121 y122 y123 y124 y125 y126 y127 y128 y129 y130 y131 y132 y133 y134 y135 y136 y137 y138 y139 y140 y141 y142 y143 y144 y145 y146 y147 y148 y149 y150 y151 y152 y153 y154 y155 y156 y157 y158 y159 y160 y161 y162 y163 y164 y165 y166 y167 W6 hL6 hk6
  have hm6 : Marks l w.heap.size W6 := by
    obtain ⟨v10, h10, _⟩ := hL5.m10
    exact marks_kept hm5 ⟨_, _, h10⟩ hk6
  obtain ⟨v10, h10, hR10⟩ := hL6.m10
  obtain ⟨Ae, ce, rfl, hce, hCe⟩ := Kd.R_reads hR10
  have hbw6 := hL6.b
  have hb5w : w.heap.size ≤ w.heap.size + 1 := by omega
  have hes : jobsE l0.length l0 l0.length ++ supE l0.length (1 + (l0.length : Int) + (l1.length : Int)) l1 l1.length = esAll l0 l1 := rfl
  rw [hes] at h10 hCe hce
  have final : ∀ (W7 : World) (a' : Act) (cs : Array Value) (x y : Value), a'.defers = l.map mark → a'.tmps[4]? = some x → a'.tmps[5]? = some (.pointer (some ⟨w.heap.size + 1, 0, none⟩)) → a'.tmps[6]? = some y → cs.size = 2 →
      W7.heap[w.heap.size + 1]? = some (.cells cs 26 (0, 0)) → Kept W6 W7 (fun k => k = w.heap.size + 1) → Silent W6 W7 →
      (∀ w', (∀ (k : Nat) (o : Obj), W7.heap[k]? = some o → o.isCells = true → w'.heap[k]? = some o) → Below w.heap.size w w' → R (.returned (.tuple #[x, .agg cs, y])) w') →
      bodyPostM Fence.wide 0 Try.prog Try.f12 R .ret a' W7 := by
    intro W7 a' cs x y e1 e2 e3 e4 e5 e6 hk7 hs7 hR
    have hm7 : Marks l w.heap.size W7 := ⟨hm6.nd, fun D hD => by
      obtain ⟨a, b⟩ := hm6.at_ D hD
      refine ⟨(hk7.2 D (blk_lt a) (fun e => ?_)).trans a, b⟩
      have h5 := hL6.m5
      rw [← e, a] at h5; cases h5⟩
    have hbw7 : Below w.heap.size w W7 := hbw6.trans (below_silent hk7 hs7 hbw6.size (fun k hk => by omega))
    show LeavesInM Fence.wide 0 Try.prog Try.f12 a'.tmps R a'.defers .returning W7
    rw [e1]
    refine leave_marks2 (v := .tuple #[x, .agg cs, y]) l w.heap.size W7 hm7 (fun w' h1 h2 h3 h4 h5 => ?_)
    have hne : ∀ (k : Nat) (o : Obj), W7.heap[k]? = some o → o.isCells = true → w'.heap[k]? = some o := fun k o ho hc => (h1 k (fun hk => by
      have := (hm7.at_ k hk).1
      rw [ho] at this
      cases Option.some.inj this
      cases hc)).trans ho
    refine ⟨results_tct rfl a'.tmps w' (w.heap.size + 1) 26 cs (0, 0) _ e3 (hne _ _ e6 rfl) Try.underlying26 rfl (by rw [cutinfo, e5]) e2 e4, ?_⟩
    refine hR w' hne (hbw7.trans ⟨h3, h4, h5, by omega, fun k hk => h1 k (fun hkl => ?_)⟩)
    have := (hm7.at_ k hkl).2
    omega
  have move : ∀ {α : Type} (d : Kd α) (e : Nat) (W7 w' : World) (v : Value) (xs : List α), (∀ (k : Nat) (o : Obj), W7.heap[k]? = some o → o.isCells = true → w'.heap[k]? = some o) → Kd.R d e W7 W6.heap.size (fun _ => True) v xs → Kd.R d e w' w.heap.size (fun _ => True) v xs := by
    intro α d e W7 w' v xs hne h
    refine Kd.R_lower (Kd.R_mono (Kd.R_move (Kd.R_bound h) (fun k hk => ?_)) (fun _ _ => trivial)) hbw6.size
    obtain ⟨_, _, _, q, _, cells, hc⟩ := hk
    rw [hc]; exact hne _ _ hc rfl
  refine sched_most W6 w.heap.size (w.heap.size + 1) w2.heap.size A0 A1 l0.length l1.length c0 c1 (1 + (l0.length : Int) + (l1.length : Int) + 1) (1 + (l0.length : Int) + (l1.length : Int)) (wantE l0 l0.length) Ae ce (esAll l0 l1) (l.map mark) n fl sd hL6.m2 hL6.m5 h10 hCe hce (by omega) (by omega) hA.out.2.2.2.1 (by omega) hA.out.2.2.2.2 rfl (es_in hv'.out) hA.out.2.2.1 _ _ _ _ _ _ _ _ _ _ _ _ _ _ _ _ _ _ _ _ _ _ _ _ _ _ _ _ _ _ _ _ _ _ _ _ _ _ _ _ _ _ _ _ _ _ _ _ _ _ _ _ _ _ _ _ _ _ _ _ _ _ _ _ _ _ _ _ _ _ _ _ _ _ _ _ _ _ _ _ _ _ _ _ _ _ _ _ _ _ _ _ _ _ _ _ _ _ _ _ _ _ _ _ _ _ _ _ _ _ _ _ _ _ _ _ _ _ _ _ _ _ _ _ _ _ _ _ _ _ _ _ _ _ _ _ _ _ _ _ _ _ _ _ _ _ _ _ _ _ _ _ _ _ _ _ _ _ _ _ _ _ _ ?_ ?_
  · intro hle g a' W7 e1 e2 e3 e4 hg hrows e6 hk7 hs7
    refine final W7 a' _ _ _ e1 e2 e3 e4 rfl e6 hk7 hs7 (fun w' hne hb => hR1'.out hle _ w' ?_ hb)
    have hrows' : RowsAt w' g l0.length l1.length l0.length (matOf l0.length l1.length (1 + (l0.length : Int) + (l1.length : Int)) (esAll l0 l1) fl (esAll l0 l1).length) := ⟨hne _ _ hrows.out rfl, fun j hj => hne _ _ (hrows.rows j hj) rfl⟩
    have := hbw6.size
    exact rows_S hrows' (by omega) (by omega) (by omega) (fun j => matOf_length _ _ _ _ _ _ _)
  · intro hlt va vb a' W7 e1 e2 e3 e4 e6 hra hrb hap hk7 hs7
    exact final W7 a' _ _ _ e1 e2 e3 e4 rfl e6 hk7 hs7 (fun w' hne hb => hR2'.out hlt va vb w' (move _ _ W7 w' va _ hne hra) (move _ _ W7 w' vb _ hne hrb) hap hb)

set_option maxRecDepth 1000000 in
set_option maxHeartbeats 4000000 in
theorem sched_no (A0 : Option Addr) (c0 : Nat) (l0 : List S38) (A1 : Option Addr) (c1 : Nat) (l1 : List Int) (w : World) (hr0 : Kd.C k38 w A0 l0.length l0) (hc0 : l0.length ≤ c0) (hr1 : Kd.C (Kd.int .i64) w A1 l1.length l1) (hc1 : l1.length ≤ c1)
    (hv : ¬ validOk l0 l1) (R : Ending → World → Prop) (hR : ∀ w', Below w.heap.size w w' → R (.returned (.tuple #[.slice none 0 0, .agg #[.slice none 0 0, .slice none 0 0], .int .i64 1])) w') :
    Calls Try.prog 12 #[.slice A0 l0.length c0, .slice A1 l1.length c1] w R := by
  have hA := Aside0.mk (And.intro hr0 hr1)
  have hR' := Aside0.mk hR
  have hd := Aside0.mk (show plan_Valid.f 100 l0 l1 = some false by rw [valid_pf l0 l1 100 (by omega), decide_eq_false hv])
  clear hr0 hr1 hR hv
  refine callsIn_wide (n := 0).1 ?_
  refine callsIn_of_wp_marks Try.func12 rfl trivial ?_ rfl
  refine wpIn_wide.2 ?_
  simp only [Try.ntmps12, List.size_toArray, List.length_cons, List.length_nil, Nat.reduceAdd, Nat.reduceSub, Array.replicate_succ, Array.replicate_zero, List.push_toArray, List.append_toArray, List.nil_append, List.cons_append]
  refine wp_seq_k (fun K hK => ?_)
  have hK' := Aside0.mk hK
  clear hK
  go_wp2
  refine hK'.out _ _ ?_
  clear hK'
  have hX := allocs2 w (.cells #[.slice A0 l0.length c0] 22) (.cells #[.slice none 0 0, .slice none 0 0] 26)
  generalize ((w.alloc (.cells #[.slice A0 l0.length c0] 22)).alloc (.cells #[.slice none 0 0, .slice none 0 0] 26)) = X at *
  obtain ⟨hXb, x2, x5, hXs⟩ := hX
  have q2 := blk_cell x2 0
  simp at q2
  have hX2 := Aside0.mk (And.intro hXb (And.intro x2 (And.intro x5 hXs)))
  clear hXb x2 x5 hXs
  refine wp_seq_k (fun K hK => ?_)
  have hK' := Aside0.mk hK
  clear hK
  go_wp2_with fail
  refine (plan_Valid.calls 100 A0 c0 l0 A1 c1 l1 false X (Kd.C_below hA.out.1 hX2.out.1) hc0 (Kd.C_below hA.out.2 hX2.out.1) hc1 hd.out).mono ?_
  rintro e w1 ⟨rfl, hb1⟩
  have x5 := blk_below hX2.out.2.2.1 hb1
  have hbw := Aside0.mk (below_then hX2.out.1 hX2.out.1.size hb1)
  have p0 := blk_cell x5 0
  have p1 := blk_cell x5 1
  have p2 := blk_frozen x5 0
  have p3 := blk_frozen x5 1
  simp at p0 p1
  have hx5 := Aside0.mk x5
  clear hb1 q2 x5
  go_wp2
  have hfin := blk_set (blk_set hx5.out 0 (.slice none 0 0)) 1 (.slice none 0 0)
  have hb2 := (hbw.out.setCell (p := ⟨w.heap.size + 1, 0, none⟩) (by show w.heap.size ≤ w.heap.size + 1; omega) (.slice none 0 0)).setCell (p := ⟨w.heap.size + 1, 1, none⟩) (by show w.heap.size ≤ w.heap.size + 1; omega) (.slice none 0 0)
  refine ⟨_, results_tct rfl _ _ (w.heap.size + 1) 26 _ (0, 0) _ ?_ hfin Try.underlying26 rfl cutinfo (x := .slice none 0 0) (y := .int .i64 1) ?_ ?_, hR'.out _ hb2⟩
  · simp only [List.getElem?_toArray, List.getElem?_cons_succ, List.getElem?_cons_zero]
  · simp only [List.getElem?_toArray, List.getElem?_cons_succ, List.getElem?_cons_zero]
  · simp only [List.getElem?_toArray, List.getElem?_cons_succ, List.getElem?_cons_zero]

theorem plan_Schedule.calls (A0 : Option Addr) (c0 : Nat) (l0 : List S38) (A1 : Option Addr) (c1 : Nat) (l1 : List Int) (r1 : List (List Int)) (r2 r3 : List Int) (r4 : Int) (w : World) (hr0 : Kd.C k38 w A0 l0.length l0) (hc0 : l0.length ≤ c0) (hr1 : Kd.C (Kd.int .i64) w A1 l1.length l1) (hc1 : l1.length ≤ c1)
    (h : plan_Schedule.f l0 l1 = some (r1, r2, r3, r4)) :
    Calls Try.prog 12 #[.slice A0 l0.length c0, .slice A1 l1.length c1] w fun e w' =>
      ∃ v1 v2 v3 : Value, e = .returned (.tuple #[v1, .agg #[v2, v3], .int .i64 r4]) ∧ Kd.S (Kd.slice 3 (Kd.int .i64)) 23 w' w.heap.size (fun k => some k ≠ v2.ownBlock ∧ some k ≠ v3.ownBlock) v1 r1 ∧ Kd.R (Kd.int .i64) 3 w' w.heap.size (fun k => some k ≠ v3.ownBlock) v2 r2 ∧ Kd.R (Kd.int .i64) 3 w' w.heap.size (fun k => some k ≠ v2.ownBlock) v3 r3 ∧ Below w.heap.size w w' := by
  unfold plan_Schedule.f at h
  by_cases hv : validOk l0 l1
  · rw [if_pos hv] at h
    obtain ⟨n, fl, sd, hm, hfl, hsd, _⟩ := sched_good hv
    rw [hm] at h
    simp only [Option.bind_some] at h
    refine sched_yes A0 c0 l0 A1 c1 l1 w hr0 hc0 hr1 hc1 hv n fl sd hm hfl hsd _ (fun hle v1 w' h1 h4 => ?_) (fun hlt v2 v3 w' h2 h3 hap h4 => ?_)
    · rw [if_neg (by omega)] at h
      simp only [Option.some.injEq, Prod.mk.injEq] at h
      obtain ⟨rfl, rfl, rfl, rfl⟩ := h
      exact ⟨v1, _, _, rfl, Kd.S_mono h1 (fun k _ => by simp [Value.ownBlock]), Kd.R_nil _ _ _ _ _, Kd.R_nil _ _ _ _ _, h4⟩
    · rw [if_pos hlt] at h
      simp only [Option.some.injEq, Prod.mk.injEq] at h
      obtain ⟨rfl, rfl, rfl, rfl⟩ := h
      exact ⟨_, v2, v3, rfl, Kd.S_nil _ _ _ _ _, Kd.R_reok rfl h2 hap, Kd.R_reok rfl h3 (fun k hk e => hap k e.symm hk.symm), h4⟩
  · rw [if_neg hv] at h
    simp only [Option.some.injEq, Prod.mk.injEq] at h
    obtain ⟨rfl, rfl, rfl, rfl⟩ := h
    exact sched_no A0 c0 l0 A1 c1 l1 w hr0 hc0 hr1 hc1 hv _ (fun w' hb => ⟨_, _, _, rfl, Kd.S_nil _ _ _ _ _, Kd.R_nil _ _ _ _ _, Kd.R_nil _ _ _ _ _, hb⟩)
end Go.Proofs.Ytioglahnliajlaa.Pr
