import Derived.Test.YtioglahnliajlaaGFlowA
import Derived.Test.YtioglahnliajlaaGBits
import Derived.RangeFuncNested
import Derived.RangeFuncBound
import Derived.RangeFuncCalls
import Derived.RangeFuncLeaves
import Derived.Shelf.Abstract
import Derived.Shelf.RegionOpen
import Derived.OwnWalkIn
import Derived.TacticsInMore
import Derived.LoopNIn
import Derived.LoopIn
import Derived.Sort.QuietIn
set_option linter.unusedVariables false
set_option linter.unusedSimpArgs false
/-! The steps from a node: the iterator. -/
namespace Go.Proofs.Ytioglahnliajlaa.Pr
open Go.RowKit Go.Proofs.YtioglahnliajlaaW.PrintWords Go.Proofs.YtioglahnliajlaaW.PrintLast Go.Proofs.YtioglahnliajlaaW.PrintMore
attribute [local go_sem] Oper.semAt_some

/-- All offers of a node, in the order of the edges. -/
def offersTo (es : List FlowM.E) (fl : List Int) (n : Int) (i : Nat) : List FlowM.Step := (List.range i).filterMap (FlowM.offer es fl n)

theorem offersTo_some {es : List FlowM.E} {fl : List Int} {n : Int} {i : Nat} {s : FlowM.Step} (h : FlowM.offer es fl n i = some s) : offersTo es fl n (i + 1) = offersTo es fl n i ++ [s] := by
  simp [offersTo, List.range_succ, List.filterMap_append, h]
theorem offersTo_none {es : List FlowM.E} {fl : List Int} {n : Int} {i : Nat} (h : FlowM.offer es fl n i = none) : offersTo es fl n (i + 1) = offersTo es fl n i := by
  simp [offersTo, List.range_succ, List.filterMap_append, h]
theorem offersTo_pre (es : List FlowM.E) (fl : List Int) (n : Int) (i d : Nat) : offersTo es fl n i <+: offersTo es fl n (i + d) := by
  induction d with
  | zero => exact List.prefix_refl _
  | succ d ih =>
    refine ih.trans ?_
    rw [← Nat.add_assoc]
    cases h : FlowM.offer es fl n (i + d) with
    | none => rw [offersTo_none h]; exact List.prefix_refl _
    | some s => rw [offersTo_some h]; exact List.prefix_append _ _
theorem offersTo_length (es : List FlowM.E) (fl : List Int) (n : Int) (i : Nat) : (offersTo es fl n i).length ≤ i := by
  have := List.length_filterMap_le (FlowM.offer es fl n) (List.range i)
  simpa [offersTo] using this

/-- What the iterator reads. -/
structure StepsMem (W : World) (b1 b2 bw base : Nat) (nodes : Int) (A : Option Addr) (c : Nat) (es : List S49) (vf : Value) (fl : List Int) (n : Int) : Prop where
  p1 : W.heap[b1]? = some (.cells #[.pointer (some ⟨bw, 0, none⟩)] 66 (0, 0))
  p2 : W.heap[b2]? = some (.cells #[.int .i64 n] 3 (0, 0))
  g : Graph0 W bw nodes A c es vf
  f : Kd.R (Kd.int .i64) 3 W base (fun _ => True) vf fl

/-- The blocks that it reads. -/
def Reads (b1 b2 bw : Nat) (A : Option Addr) (es : List S49) (vf : Value) (k : Nat) : Prop :=
  k = b1 ∨ k = b2 ∨ k = bw ∨ some k = vf.ownBlock ∨ (0 < es.length ∧ ∃ ad, A = some ad ∧ k = ad.block)

theorem StepsMem.keep {W W1 : World} {b1 b2 bw base : Nat} {nodes : Int} {A : Option Addr} {c : Nat} {es : List S49} {vf : Value} {fl : List Int} {n : Int} (h : StepsMem W b1 b2 bw base nodes A c es vf fl n)
    (hk : ∀ k, k < W.heap.size → Reads b1 b2 bw A es vf k → W1.heap[k]? = W.heap[k]?) : StepsMem W1 b1 b2 bw base nodes A c es vf fl n := by
  refine ⟨(hk b1 (blk_lt h.p1) (.inl rfl)).trans h.p1, (hk b2 (blk_lt h.p2) (.inr (.inl rfl))).trans h.p2,
    ⟨(hk bw (blk_lt h.g.blk) (.inr (.inr (.inl rfl)))).trans h.g.blk, C_same h.g.row (fun h0 ad e hl => hk _ hl (.inr (.inr (.inr (.inr ⟨h0, ad, e, rfl⟩)))))⟩, ?_⟩
  have ht : Kd.R (Kd.int .i64) 3 W base (fun k => some k = vf.ownBlock) vf fl := Kd.R_tight rfl h.f
  exact Kd.R_mono (Kd.R_step ht (fun k e hl => hk k hl (.inr (.inr (.inr (.inl e)))))) (fun _ _ => trivial)

/-- A round that goes on keeps what is read. -/
def KeepsR (R : Nat → Prop) (W W' : World) : Prop := W.heap.size ≤ W'.heap.size ∧ ∀ k, k < W.heap.size → R k → W'.heap[k]? = W.heap[k]?
theorem KeepsR.trans {R : Nat → Prop} {A B C : World} (h : KeepsR R A B) (k : KeepsR R B C) : KeepsR R A C :=
  ⟨Nat.le_trans h.1 k.1, fun i hi hr => (k.2 i (Nat.lt_of_lt_of_le hi h.1) hr).trans (h.2 i hi hr)⟩
theorem KeepsR.below {R : Nat → Prop} {A B : World} (h : Below A.heap.size A B) : KeepsR R A B := ⟨h.size, fun i hi _ => h.block i hi⟩

/-- One edge, in numbers. -/
theorem offer_of {es : List S49} {fl : List Int} {n : Int} {i : Nat} (h : i < es.length) :
    FlowM.offer (esOf es) fl n i = if (rd_T49 es (i : Int)).f0 = (rd_T49 es (i : Int)).f1 then none
      else if (rd_T49 es (i : Int)).f0 = n ∧ rd fl (i : Int) < (rd_T49 es (i : Int)).f2 then some ⟨i, false, (rd_T49 es (i : Int)).f1, (rd_T49 es (i : Int)).f2 - rd fl (i : Int)⟩
      else if (rd_T49 es (i : Int)).f1 = n ∧ 0 < rd fl (i : Int) then some ⟨i, true, (rd_T49 es (i : Int)).f0, rd fl (i : Int)⟩ else none := by
  have e1 : (esOf es)[i]? = some (eOf (rd_T49 es (i : Int))) := by simp [esOf, rd_T49, List.getD_eq_getElem?_getD, h]
  have e2 : rd fl (i : Int) = fl.getD i 0 := by simp [rd]
  unfold FlowM.offer
  rw [e1, e2]
  rfl

abbrev Off (es : List S49) (fl : List Int) (n : Int) := { s : FlowM.Step // FlowM.offer (esOf es) fl n s.edge = some s }

set_option maxRecDepth 100000 in
set_option maxHeartbeats 2000000 in
theorem steps1_stops (m : Nat) (b1 b2 bw base : Nat) (nodes : Int) (A : Option Addr) (c : Nat) (es : List S49) (vf : Value) (fl : List Int) (n : Int) (hl : fl.length = es.length) (hcap : ∀ i : Nat, i < es.length → 0 ≤ rd fl (i : Int) ∧ rd fl (i : Int) ≤ 1000000 ∧ 0 ≤ (rd_T49 es (i : Int)).f2 ∧ (rd_T49 es (i : Int)).f2 ≤ 1000000)
    (hle : es.length ≤ 1000000) (w : World) (hM : StepsMem w b1 b2 bw base nodes A c es vf fl n) :
    SeqStopsK Fence.wide m Try.prog 54 #[.pointer (some ⟨b1, 0, none⟩), .pointer (some ⟨b2, 0, none⟩)] (fun x : Off es fl n => #[valS x.1]) (KeepsR (Reads b1 b2 bw A es vf))
      (fun xs => xs.map (·.1) = offersTo (esOf es) fl n es.length) (fun xs => xs.map (·.1) <+: offersTo (esOf es) fl n es.length) (es.length + 1) w := by
  intro l J Jx W hW hJ hJx hY h0
  have hM1 : StepsMem W b1 b2 bw base nodes A c es vf fl n := hM.keep (fun k hk _ => hW.block k hk)
  have hN := blk_lt hM.p1
  have p1 := blk_cell hM1.p1 0
  have p2 := blk_cell hM1.p2 0
  obtain ⟨c0, c1, c2, hbw⟩ := hM1.g.cells
  simp at p1 p2
  have hM1' := Aside0.mk hM1
  have hY' := Aside0.mk hY
  have hJ' := Aside0.mk hJ
  have hcap' := Aside0.mk hcap
  clear hM1 hY hJ hcap hM hJx hN
  refine callsIn_of_wp Try.func54 rfl trivial ?_ rfl
  simp only [Try.ntmps54, List.size_toArray, List.length_cons, List.length_nil, Nat.reduceAdd, Nat.reduceSub, Array.replicate_succ, Array.replicate_zero, List.push_toArray, List.append_toArray, List.nil_append, List.cons_append]
  gi_wp2
  gi_loopw [12] (fun t wr => ∃ (i : Nat) (pre : List (Off es fl n)), t = .int .i64 (i : Int) ∧ i ≤ es.length ∧ pre.map (·.1) = offersTo (esOf es) fl n i ∧ J pre wr ∧ KeepsR (Reads b1 b2 bw A es vf) W wr)
    (fun t _ => es.length - (intOf t).toNat)
  case atStart => exact ⟨0, [], rfl, by omega, rfl, h0, KeepsR.below (Below.refl _ _)⟩
  case round =>
    obtain ⟨i, pre, rfl, hi, hpre, hj, hk⟩ := hrel
    have hpre' := Aside0.mk hpre
    have hk' := Aside0.mk hk
    have hMr : StepsMem wr b1 b2 bw base nodes A c es vf fl n := hM1'.out.keep (fun k h1 h2 => hk.2 k h1 h2)
    clear hpre hk
    by_cases hlt : i < es.length
    · have q1 := blk_cell hMr.p1 0
      have q2 := blk_cell hMr.p2 0
      simp at q1 q2
      have q1l := blk_lt hMr.p1
      have q2l := blk_lt hMr.p2
      obtain ⟨_, d1, d2, hbwl⟩ := hMr.g.cells
      obtain ⟨ad, hA, e0, e1, e2⟩ := at_T49 hMr.g.row (i : Int) (by omega) (by omega)
      obtain ⟨g, cap, rfl, hgb, hgl, _⟩ := Kd.R_form hMr.f (by omega)
      obtain ⟨f0, ff⟩ := Kd.R_celln (0 : Int) hMr.f (i : Int) (by omega) (by omega)
      subst hA
      simp only [Int.toNat_natCast] at e0 e1 e2 f0 ff
      rw [show rdOf 0 fl (i : Int) = rd fl (i : Int) from rfl] at f0
      have had := World.block_lt_of_cell? wr _ e0
      have had1 := World.block_lt_of_cell? wr _ e1
      have had2 := World.block_lt_of_cell? wr _ e2
      have hoff := Aside0.mk (offer_of (fl := fl) (n := n) hlt)
      obtain ⟨g1, g2, g3, g4⟩ := hcap'.out i hlt
      have hMr' := Aside0.mk hMr
      clear hMr
      generalize hx0 : (rd_T49 es (i : Int)).f0 = x0 at *
      generalize hx1 : (rd_T49 es (i : Int)).f1 = x1 at *
      generalize hx2 : (rd_T49 es (i : Int)).f2 = x2 at *
      generalize hxf : rd fl (i : Int) = xf at *
      clear hx0 hx1 hx2 hxf
      have stay : Aside0 (FlowM.offer (esOf es) fl n i = none → ∀ w', Below wr.heap.size wr w' → (∃ (j : Nat) (pre' : List (Off es fl n)), Value.int .i64 ((i : Int) + 1) = .int .i64 (j : Int) ∧ j ≤ es.length ∧ pre'.map (·.1) = offersTo (esOf es) fl n j ∧ J pre' w' ∧ KeepsR (Reads b1 b2 bw (some ad) es (.slice (some ⟨g, 0, none⟩) fl.length cap)) W w')) :=
        ⟨fun hn w' hb => ⟨i + 1, pre, rfl, hlt, by rw [offersTo_none hn]; exact hpre'.out, hJ'.out pre wr w' none hj (grown_of_below hb none) (fun r e => by cases e), hk'.out.trans (KeepsR.below hb)⟩⟩
      have go_on : Aside0 (∀ s (hs : FlowM.offer (esOf es) fl n s.edge = some s), s.edge = i → ∀ w', J (pre ++ [⟨s, hs⟩]) w' → KeepsR (Reads b1 b2 bw (some ad) es (.slice (some ⟨g, 0, none⟩) fl.length cap)) W w' → (∃ (j : Nat) (pre' : List (Off es fl n)), Value.int .i64 ((i : Int) + 1) = .int .i64 (j : Int) ∧ j ≤ es.length ∧ pre'.map (·.1) = offersTo (esOf es) fl n j ∧ J pre' w' ∧ KeepsR (Reads b1 b2 bw (some ad) es (.slice (some ⟨g, 0, none⟩) fl.length cap)) W w')) :=
        ⟨fun s hs he w' h1 h2 => ⟨i + 1, pre ++ [⟨s, hs⟩], rfl, hlt, by rw [offersTo_some (he ▸ hs), List.map_append, hpre'.out]; rfl, h1, h2⟩⟩
      have yields : Aside0 (∀ s (hs : FlowM.offer (esOf es) fl n s.edge = some s), s.edge = i → ∀ w', Below wr.heap.size wr w' → YieldAt Fence.wide (m - 1) Try.prog l #[valS s] w' fun e W' =>
          (e = .returned (.bool true) ∧ J (pre ++ [⟨s, hs⟩]) W' ∧ KeepsR (Reads b1 b2 bw (some ad) es (.slice (some ⟨g, 0, none⟩) fl.length cap)) W W') ∨
          (e = .returned (.bool false) ∧ ∃ q : List (Off es fl n), q.map (·.1) <+: offersTo (esOf es) fl n es.length ∧ Jx q W')) := ⟨fun s hs he w' hb => by
        have hJ1 := hJ'.out pre wr w' none hj (grown_of_below hb none) (fun r e => by cases e)
        have hplen : pre.length < es.length + 1 := by
          have h1 : pre.length = (offersTo (esOf es) fl n i).length := by rw [← hpre'.out, List.length_map]
          have := offersTo_length (esOf es) fl n i
          omega
        obtain ⟨fn, tmps, assign, body, hy, hR⟩ := hY'.out pre ⟨s, hs⟩ w' hJ1 hplen
        refine ⟨fn, tmps, assign, body, hy, hR.mono ?_⟩
        rintro e W3 (⟨rfl, hJ3, hk3⟩ | ⟨rfl, hJx3⟩)
        · exact .inl ⟨rfl, hJ3, hk'.out.trans ((KeepsR.below hb).trans hk3)⟩
        · refine .inr ⟨rfl, _, ?_, hJx3⟩
          have := offersTo_pre (esOf es) fl n (i + 1) (es.length - (i + 1))
          rw [show i + 1 + (es.length - (i + 1)) = es.length by omega, offersTo_some (he ▸ hs)] at this
          simpa [hpre'.out] using this⟩
      clear hj
      by_cases ca : x0 = x1
      · have hb : (x0 == x1) = true := by simpa using ca
        have hnone := Aside0.mk (show FlowM.offer (esOf es) fl n i = none by rw [hoff.out, if_pos ca])
        clear ca
        gi_wp2
        exact ⟨stay.out hnone.out _ (below_alloc (Below.refl _ _) _), by simp [intOf]; omega⟩
      · have hb : (x0 == x1) = false := by simpa using ca
        by_cases cb : x0 = n
        · have hb1 : (x0 == n) = true := by simpa using cb
          by_cases cc : xf < x2
          · have hsome := Aside0.mk (show FlowM.offer (esOf es) fl n i = some ⟨i, false, x1, x2 - xf⟩ by rw [hoff.out, if_neg ca, if_pos ⟨cb, cc⟩])
            clear ca cb hoff
            gi_wp2
            gi_quiet (fail)
            gi_wp2
            refine TailIn.tail_in 15 (by kernel_rfl) (by kernel_rfl) ?_
            simp only [List.take_succ_cons, List.take_zero, List.drop_succ_cons, List.drop_zero]
            repeat still_step
            refine wpStill_nil ?_
            have hbw2 : Below wr.heap.size wr ((wr.alloc (.cells #[.int .i64 x0, .int .i64 x1, .int .i64 x2] 49)).drewN (nq + 1)) := pw_below_drewN (below_alloc (Below.refl _ _) _) _
            obtain ⟨fn, tmps, assign, body, hy, hR⟩ := yields.out ⟨i, false, x1, x2 - xf⟩ hsome.out rfl _ hbw2
            simp only [valS] at hy
            gi_wp2
            rw [hy]
            refine ⟨(fun h => by cases h), hR.mono ?_⟩
            rintro e W3 (⟨rfl, hJ3, hk3⟩ | ⟨rfl, q, hq, hJx3⟩)
            · have hJ3' := Aside0.mk hJ3
              have hk3' := Aside0.mk hk3
              clear hJ3 hk3 hR hy
              gi_wp2
              exact ⟨go_on.out ⟨i, false, x1, x2 - xf⟩ hsome.out rfl _ hJ3'.out hk3'.out, by simp [intOf]; omega⟩
            · have hq' := Aside0.mk hq
              have hJ3' := Aside0.mk hJx3
              clear hq hJx3 hR hy
              gi_wp2
              refine bodyPost_ret (results_none rfl _ _ _) rfl ?_
              exact ⟨⟨_, rfl⟩, .inr ⟨q, hq'.out, hJ3'.out⟩⟩
          · have hb2 : (x1 == n) = false := by
              have : x1 ≠ n := fun e => ca (cb.trans e.symm)
              simpa using this
            have hnone := Aside0.mk (show FlowM.offer (esOf es) fl n i = none by
              rw [hoff.out, if_neg ca, if_neg (fun h => cc h.2), if_neg (fun h => ca (cb.trans h.1.symm))])
            clear ca cb hoff
            gi_wp2
            gi_quiet (fail)
            gi_wp2
            exact ⟨stay.out hnone.out _ (by repeat (first | exact below_alloc (Below.refl _ _) _ | apply pw_below_drewN | apply below_drew)), by simp [intOf]; omega⟩
        · have hb1 : (x0 == n) = false := by simpa using cb
          by_cases cd : x1 = n
          · have hb2 : (x1 == n) = true := by simpa using cd
            by_cases ce : 0 < xf
            · have hsome := Aside0.mk (show FlowM.offer (esOf es) fl n i = some ⟨i, true, x0, xf⟩ by rw [hoff.out, if_neg ca, if_neg (fun h => cb h.1), if_pos ⟨cd, ce⟩])
              clear ca cb cd hoff
              gi_wp2
              gi_quiet (fail)
              gi_wp2
              refine TailIn.tail_in 12 (by kernel_rfl) (by kernel_rfl) ?_
              simp only [List.take_succ_cons, List.take_zero, List.drop_succ_cons, List.drop_zero]
              repeat still_step
              refine wpStill_nil ?_
              have hbw2 : Below wr.heap.size wr ((wr.alloc (.cells #[.int .i64 x0, .int .i64 x1, .int .i64 x2] 49)).drewN (nq + 1)) := pw_below_drewN (below_alloc (Below.refl _ _) _) _
              obtain ⟨fn, tmps, assign, body, hy, hR⟩ := yields.out ⟨i, true, x0, xf⟩ hsome.out rfl _ hbw2
              simp only [valS] at hy
              gi_wp2
              refine ⟨(fun h => by cases h), hR.mono ?_⟩
              rintro e W3 (⟨rfl, hJ3, hk3⟩ | ⟨rfl, q, hq, hJx3⟩)
              · have hJ3' := Aside0.mk hJ3
                have hk3' := Aside0.mk hk3
                clear hJ3 hk3 hR hy
                gi_wp2
                exact ⟨go_on.out ⟨i, true, x0, xf⟩ hsome.out rfl _ hJ3'.out hk3'.out, by simp [intOf]; omega⟩
              · have hq' := Aside0.mk hq
                have hJ3' := Aside0.mk hJx3
                clear hq hJx3 hR hy
                gi_wp2
                refine bodyPost_ret (results_none rfl _ _ _) rfl ?_
                exact ⟨⟨_, rfl⟩, .inr ⟨q, hq'.out, hJ3'.out⟩⟩
            · have hnone := Aside0.mk (show FlowM.offer (esOf es) fl n i = none by rw [hoff.out, if_neg ca, if_neg (fun h => cb h.1), if_neg (fun h => ce h.2)])
              clear ca cb cd hoff
              gi_wp2
              gi_quiet (fail)
              gi_wp2
              exact ⟨stay.out hnone.out _ (by repeat (first | exact below_alloc (Below.refl _ _) _ | apply pw_below_drewN | apply below_drew)), by simp [intOf]; omega⟩
          · have hb2 : (x1 == n) = false := by simpa using cd
            have hnone := Aside0.mk (show FlowM.offer (esOf es) fl n i = none by rw [hoff.out, if_neg ca, if_neg (fun h => cb h.1), if_neg (fun h => cd h.1)])
            clear ca cb cd hoff
            gi_wp2
            gi_quiet (fail)
            gi_wp2
            exact ⟨stay.out hnone.out _ (by repeat (first | exact below_alloc (Below.refl _ _) _ | apply pw_below_drewN | apply below_drew)), by simp [intOf]; omega⟩
    · have hge : i = es.length := by omega
      have hge' := Aside0.mk hge
      clear hge
      gi_wp2
      go_end0
      exact ⟨⟨_, rfl⟩, .inl ⟨pre, by rw [hpre'.out, hge'.out], hj⟩⟩
end Go.Proofs.Ytioglahnliajlaa.Pr
