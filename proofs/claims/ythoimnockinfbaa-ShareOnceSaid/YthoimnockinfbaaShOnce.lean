import Derived.Test.YthoimnockinfbaaShHead
import Derived.Test.YthoimnockinfbaaShRef
import Derived.Test.YthoimnockinfbaaShLaws
import Derived.Test.YthoimnockinfbaaPr3
set_option linter.unusedVariables false
set_option linter.unusedSimpArgs false
/-! The law ShareOnce, walked. -/
namespace Go.Proofs.Ythoimnockinfbaa.Pr
open Go.RowKit Go.Proofs.YthoimnockinfbaaW.PrintWords Go.Proofs.YthoimnockinfbaaW.PrintLast Go.Proofs.YthoimnockinfbaaW.PrintMore
attribute [local go_sem] Oper.semAt_some

/-- A share that lies in memory and is changed there. -/
structure Cur (w W : World) (g : Nat) (h n : Int) (A2 : Option Addr) (n2 c2 : Nat) (l2 : List S27) (A3 : Option Addr) (n3 c3 : Nat) (l3 : List Int) : Prop where
  blk : W.heap[g]? = some (.cells #[.int .i64 h, .int .i64 n, .slice A2 n2 c2, .slice A3 n3 c3] 25 (0, 0))
  r2 : Kd.R k27 27 W w.heap.size (fun k => k ≠ g) (.slice A2 n2 c2) l2
  r3 : Kd.R (Kd.int .i64) 3 W w.heap.size (fun k => k ≠ g) (.slice A3 n3 c3) l3
  low : w.heap.size ≤ g
  b : Below w.heap.size w W
theorem Cur.below {w W W2 : World} {g : Nat} {h n : Int} {A2 : Option Addr} {n2 c2 : Nat} {l2 : List S27} {A3 : Option Addr} {n3 c3 : Nat} {l3 : List Int} (c : Cur w W g h n A2 n2 c2 l2 A3 n3 c3 l3) (hb : Below W.heap.size W W2) : Cur w W2 g h n A2 n2 c2 l2 A3 n3 c3 l3 :=
  ⟨blk_below c.blk hb, Kd.R_below c.r2 hb, Kd.R_below c.r3 hb, c.low, below_step c.b hb⟩
theorem Cur.q2 {w W : World} {g : Nat} {h n : Int} {A2 : Option Addr} {n2 c2 : Nat} {l2 : List S27} {A3 : Option Addr} {n3 c3 : Nat} {l3 : List Int} (c : Cur w W g h n A2 n2 c2 l2 A3 n3 c3 l3) : n2 = l2.length ∧ n2 ≤ c2 ∧ Kd.C k27 W A2 l2.length l2 := Kd.R_reads' c.r2
theorem Cur.q3 {w W : World} {g : Nat} {h n : Int} {A2 : Option Addr} {n2 c2 : Nat} {l2 : List S27} {A3 : Option Addr} {n3 c3 : Nat} {l3 : List Int} (c : Cur w W g h n A2 n2 c2 l2 A3 n3 c3 l3) : n3 = l3.length ∧ n3 ≤ c3 ∧ Kd.C (Kd.int .i64) W A3 l3.length l3 := Kd.R_reads' c.r3
/-- It takes the parts of a share that was made later. -/
theorem Cur.put {w W0 W : World} {g : Nat} {h n : Int} {A2 : Option Addr} {n2 c2 : Nat} {l2 : List S27} {A3 : Option Addr} {n3 c3 : Nat} {l3 : List Int} (c : Cur w W g h n A2 n2 c2 l2 A3 n3 c3 l3) (hg : g < W0.heap.size) (hb0 : w.heap.size ≤ W0.heap.size)
    {h' n' : Int} {B2 : Option Addr} {m2 d2 : Nat} {k2 : List S27} {B3 : Option Addr} {m3 d3 : Nat} {k3 : List Int} {ok2 ok3 : Nat → Prop} (s2 : Kd.R k27 27 W W0.heap.size ok2 (.slice B2 m2 d2) k2) (s3 : Kd.R (Kd.int .i64) 3 W W0.heap.size ok3 (.slice B3 m3 d3) k3) :
    Cur w ((((W.setCell ⟨g, 0, none⟩ (.int .i64 h')).setCell ⟨g, 1, none⟩ (.int .i64 n')).setCell ⟨g, 2, none⟩ (.slice B2 m2 d2)).setCell ⟨g, 3, none⟩ (.slice B3 m3 d3)) g h' n' B2 m2 d2 k2 B3 m3 d3 k3 := by
  have f2 : Kd.R k27 27 W w.heap.size (fun k => k ≠ g) (.slice B2 m2 d2) k2 := Kd.R_lower (Kd.R_mono (Kd.R_bound s2) (fun k hk => by have := hk.2.1; omega)) hb0
  have f3 : Kd.R (Kd.int .i64) 3 W w.heap.size (fun k => k ≠ g) (.slice B3 m3 d3) k3 := Kd.R_lower (Kd.R_mono (Kd.R_bound s3) (fun k hk => by have := hk.2.1; omega)) hb0
  exact ⟨blk_set (blk_set (blk_set (blk_set c.blk 0 _) 1 _) 2 _) 3 _, R_four f2 (fun k hk => hk) _ _ _ _, R_four f3 (fun k hk => hk) _ _ _ _, c.low,
    (((c.b.setCell (by exact c.low) _).setCell (by exact c.low) _).setCell (by exact c.low) _).setCell (by exact c.low) _⟩
theorem blk_four {W : World} {g b : Nat} {o : Array Value} {t : TypeId} (h : W.heap[b]? = some (.cells o t (0, 0))) (hne : b ≠ g) (u0 u1 u2 u3 : Value) :
    ((((W.setCell ⟨g, 0, none⟩ u0).setCell ⟨g, 1, none⟩ u1).setCell ⟨g, 2, none⟩ u2).setCell ⟨g, 3, none⟩ u3).heap[b]? = some (.cells o t (0, 0)) :=
  blk_far (blk_far (blk_far (blk_far h (p := ⟨g, 0, none⟩) hne _) (p := ⟨g, 1, none⟩) hne _) (p := ⟨g, 2, none⟩) hne _) (p := ⟨g, 3, none⟩) hne _

theorem Cur.new {w W0 W : World} {h n : Int} {A2 : Option Addr} {n2 c2 : Nat} {l2 : List S27} {A3 : Option Addr} {n3 c3 : Nat} {l3 : List Int} {ok2 ok3 : Nat → Prop} (hb0 : w.heap.size ≤ W0.heap.size) (hb : Below w.heap.size w W)
    (s2 : Kd.R k27 27 W W0.heap.size ok2 (.slice A2 n2 c2) l2) (s3 : Kd.R (Kd.int .i64) 3 W W0.heap.size ok3 (.slice A3 n3 c3) l3) :
    Cur w (W.alloc (.cells #[.int .i64 h, .int .i64 n, .slice A2 n2 c2, .slice A3 n3 c3] 25)) W.heap.size h n A2 n2 c2 l2 A3 n3 c3 l3 := by
  have f2 : Kd.R k27 27 W w.heap.size (fun k => k ≠ W.heap.size) (.slice A2 n2 c2) l2 := Kd.R_lower (Kd.R_mono (Kd.R_bound s2) (fun k hk => by have := hk.2.2.1; omega)) hb0
  have f3 : Kd.R (Kd.int .i64) 3 W w.heap.size (fun k => k ≠ W.heap.size) (.slice A3 n3 c3) l3 := Kd.R_lower (Kd.R_mono (Kd.R_bound s3) (fun k hk => by have := hk.2.2.1; omega)) hb0
  exact ⟨blk_new W _, Kd.R_below f2 (below_alloc (Below.refl _ _) _), Kd.R_below f3 (below_alloc (Below.refl _ _) _), hb.size, below_alloc hb _⟩
theorem send_gives (h n : Int) (l2 : List S27) (l3 : List Int) (amps t0 : Int) (hs : shOk h n l2 l3 = true) (ht : t0 ∈ l3) : ∃ r1 r2 r3 r4 r5 r6 r7, share_Send.f h n l2 l3 amps = some (r1, r2, r3, r4, r5, r6, r7) ∧ (r7 = 0 → shOk r1 r2 r3 r4 = true ∧ t0 ∈ r4) := by
  unfold share_Send.f
  by_cases he : sendE h n l2 l3 amps = 0
  · rw [if_pos he]; exact ⟨_, _, _, _, _, _, _, rfl, fun _ => ⟨send_ok he, ht⟩⟩
  · rw [if_neg he]; exact ⟨_, _, _, _, _, _, _, rfl, fun h => absurd h he⟩
theorem ack_gives (h n : Int) (l2 : List S27) (l3 : List Int) (num t0 : Int) (hs : shOk h n l2 l3 = true) (ht : t0 ∈ l3) : ∃ r1 r2 r3 r4 r7, share_Acked.f h n l2 l3 num = some (r1, r2, r3, r4, r7) ∧ (r7 = 0 → shOk r1 r2 r3 r4 = true ∧ t0 ∈ r4) := by
  unfold share_Acked.f
  by_cases he : ackE h n l2 l3 num = 0
  · rw [if_pos he]; exact ⟨_, _, _, _, _, rfl, fun _ => ⟨ack_ok he, ht⟩⟩
  · rw [if_neg he]; exact ⟨_, _, _, _, _, rfl, fun h => absurd h he⟩
theorem recv_gives (h n : Int) (l2 : List S27) (l3 : List Int) (o0 o1 t0 : Int) (hs : shOk h n l2 l3 = true) (ht : t0 ∈ l3) : ∃ r1 r2 r3 r4 r7, share_Receive.f h n l2 l3 o0 o1 = some (r1, r2, r3, r4, r7) ∧ (r7 = 0 → shOk r1 r2 r3 r4 = true ∧ t0 ∈ r4) := by
  unfold share_Receive.f
  by_cases he : recvE h n l2 l3 ⟨o0, o1⟩ = 0
  · rw [if_pos he]; exact ⟨_, _, _, _, _, rfl, fun _ => ⟨recv_ok he, mem_putIn.2 (.inr ht)⟩⟩
  · rw [if_neg he]; exact ⟨_, _, _, _, _, rfl, fun h => absurd h he⟩
/-- What holds of the changed share. -/
def Inv (w W : World) (g : Nat) (t0 t1 o0 o1 : Int) : Prop :=
  ∃ (h n : Int) (A2 : Option Addr) (n2 c2 : Nat) (l2 : List S27) (A3 : Option Addr) (n3 c3 : Nat) (l3 : List Int), (Cur w W g h n A2 n2 c2 l2 A3 n3 c3 l3 ∧ w.heap.size + 2 < g) ∧ shOk h n l2 l3 = true ∧ t0 ∈ l3 ∧
    W.heap[w.heap.size + 1]? = some (.cells #[.int .i64 t0, .int .i64 t1] 27 (0, 0)) ∧ W.heap[w.heap.size + 2]? = some (.cells #[.int .i64 o0, .int .i64 o1] 27 (0, 0))

theorem once_start (w : World) (a0 a1 : Int) (A2 : Option Addr) (n2 c2 : Nat) (A3 : Option Addr) (n3 c3 : Nat) (t0 t1 o0 o1 : Int) :
    ((((w.alloc (.cells #[.int .i64 a0, .int .i64 a1, .slice A2 n2 c2, .slice A3 n3 c3] 25)).alloc (.cells #[.int .i64 t0, .int .i64 t1] 27)).alloc (.cells #[.int .i64 o0, .int .i64 o1] 27)).heap[w.heap.size]? = some (.cells #[.int .i64 a0, .int .i64 a1, .slice A2 n2 c2, .slice A3 n3 c3] 25 (0, 0))) ∧
    ((((w.alloc (.cells #[.int .i64 a0, .int .i64 a1, .slice A2 n2 c2, .slice A3 n3 c3] 25)).alloc (.cells #[.int .i64 t0, .int .i64 t1] 27)).alloc (.cells #[.int .i64 o0, .int .i64 o1] 27)).heap[w.heap.size + 1]? = some (.cells #[.int .i64 t0, .int .i64 t1] 27 (0, 0))) ∧
    ((((w.alloc (.cells #[.int .i64 a0, .int .i64 a1, .slice A2 n2 c2, .slice A3 n3 c3] 25)).alloc (.cells #[.int .i64 t0, .int .i64 t1] 27)).alloc (.cells #[.int .i64 o0, .int .i64 o1] 27)).heap[w.heap.size + 2]? = some (.cells #[.int .i64 o0, .int .i64 o1] 27 (0, 0))) ∧
    Below w.heap.size w (((w.alloc (.cells #[.int .i64 a0, .int .i64 a1, .slice A2 n2 c2, .slice A3 n3 c3] 25)).alloc (.cells #[.int .i64 t0, .int .i64 t1] 27)).alloc (.cells #[.int .i64 o0, .int .i64 o1] 27)) := by
  have h1 := blk_new w (.cells #[.int .i64 a0, .int .i64 a1, .slice A2 n2 c2, .slice A3 n3 c3] 25)
  have h2 := blk_new (w.alloc (.cells #[.int .i64 a0, .int .i64 a1, .slice A2 n2 c2, .slice A3 n3 c3] 25)) (.cells #[.int .i64 t0, .int .i64 t1] 27)
  have h3 := blk_new ((w.alloc (.cells #[.int .i64 a0, .int .i64 a1, .slice A2 n2 c2, .slice A3 n3 c3] 25)).alloc (.cells #[.int .i64 t0, .int .i64 t1] 27)) (.cells #[.int .i64 o0, .int .i64 o1] 27)
  rw [World.size_alloc] at h2
  rw [World.size_alloc, World.size_alloc] at h3
  refine ⟨?_, ?_, h3, ?_⟩
  · exact blk_below (blk_below h1 (below_alloc (Below.refl _ _) _)) (below_alloc (Below.refl _ _) _)
  · exact blk_below h2 (below_alloc (Below.refl _ _) _)
  · exact ((((Below.refl _ _).alloc (Nat.le_refl _) _).alloc (by simp) _).alloc (by simp; omega) _)

set_option maxHeartbeats 16000000 in
set_option maxRecDepth 100000 in
theorem once_walk (a0 a1 : Int) (A2 : Option Addr) (c2 : Nat) (l2 : List S27) (A3 : Option Addr) (c3 : Nat) (l3 : List Int) (t0 t1 amps num o0 o1 : Int) (w : World) (hr2 : Kd.C k27 w A2 l2.length l2) (hc2 : l2.length ≤ c2)
    (hr3 : Kd.C (Kd.int .i64) w A3 l3.length l3) (hc3 : l3.length ≤ c3) :
    Calls Try.prog 5 #[.agg #[.int .i64 a0, .int .i64 a1, .slice A2 l2.length c2, .slice A3 l3.length c3], .agg #[.int .i64 t0, .int .i64 t1], .int .i64 amps, .int .i64 num, .agg #[.int .i64 o0, .int .i64 o1]] w fun e w' => e = .returned (.bool true) ∧ Below w.heap.size w w' := by
  have hA := Aside0.mk (And.intro hr2 hr3)
  have hst := Aside0.mk (once_start w a0 a1 A2 l2.length c2 A3 l3.length c3 t0 t1 o0 o1)
  have hfw := Aside0.mk (few_f a0 a1 l2 l3)
  clear hr2 hr3
  go_enter Try.func5, Try.ntmps5
  go_wp2_with fail
  have bs := Aside0.mk hst.out.1
  have bt := Aside0.mk hst.out.2.1
  have bo := Aside0.mk hst.out.2.2.1
  have hb := Aside0.mk hst.out.2.2.2
  clear hst
  refine (chargeparklaw20_head.calls true _ rfl).mono ?_
  rintro e w1 ⟨rfl, hb1⟩
  replace bs := Aside0.mk (blk_below bs.out hb1)
  replace bt := Aside0.mk (blk_below bt.out hb1)
  replace bo := Aside0.mk (blk_below bo.out hb1)
  replace hb := Aside0.mk (below_step hb.out hb1)
  clear hb1
  have x0 := blk_cell bs.out 0
  have x1 := blk_cell bs.out 1
  have x2 := blk_cell bs.out 2
  have x3 := blk_cell bs.out 3
  simp at x0 x1 x2 x3
  go_wp2_with fail
  refine (chargeparkref20_Few.calls a0 a1 A2 c2 l2 A3 c3 l3 _ w1 (Kd.C_below hA.out.1 hb.out) hc2 (Kd.C_below hA.out.2 hb.out) hc3 hfw.out).mono ?_
  rintro e w2 ⟨rfl, hb2⟩
  clear x0 x1 x2 x3
  replace bs := Aside0.mk (blk_below bs.out hb2)
  replace bt := Aside0.mk (blk_below bt.out hb2)
  replace bo := Aside0.mk (blk_below bo.out hb2)
  replace hb := Aside0.mk (below_step hb.out hb2)
  clear hb2
  by_cases hf : l2.length ≤ 80 ∧ l3.length ≤ 80
  rotate_left
  · have hfd : decide (l2.length ≤ 80 ∧ l3.length ≤ 80) = false := decide_eq_false hf
    rw [hfd]
    clear hfd hf
    go_wp2
    go_ret
    exact ⟨rfl, hb.out⟩
  have hfd : decide (l2.length ≤ 80 ∧ l3.length ≤ 80) = true := decide_eq_true hf
  rw [hfd]
  have hvf := Aside0.mk (rValid_f a0 a1 l2 l3 hf.1 hf.2 400 (Nat.le_refl _))
  clear hfd hf hfw
  have x0 := blk_cell bs.out 0
  have x1 := blk_cell bs.out 1
  have x2 := blk_cell bs.out 2
  have x3 := blk_cell bs.out 3
  simp at x0 x1 x2 x3
  go_wp2_with fail
  refine (chargeparkref20_Valid.calls 400 a0 a1 A2 c2 l2 A3 c3 l3 _ w2 (Kd.C_below hA.out.1 hb.out) hc2 (Kd.C_below hA.out.2 hb.out) hc3 hvf.out).mono ?_
  rintro e w3 ⟨rfl, hb3⟩
  clear x0 x1 x2 x3
  replace bs := Aside0.mk (blk_below bs.out hb3)
  replace bt := Aside0.mk (blk_below bt.out hb3)
  replace bo := Aside0.mk (blk_below bo.out hb3)
  replace hb := Aside0.mk (below_step hb.out hb3)
  clear hb3
  cases hv : shOk a0 a1 l2 l3 with
  | false =>
    go_wp2
    go_ret
    exact ⟨rfl, hb.out⟩
  | true =>
    have x0 := blk_cell bs.out 0
    have x1 := blk_cell bs.out 1
    have x2 := blk_cell bs.out 2
    have x3 := blk_cell bs.out 3
    simp at x0 x1 x2 x3
    have z0 := blk_cell bt.out 0
    have z1 := blk_cell bt.out 1
    simp at z0 z1
    have hv' := Aside0.mk hv
    clear hv hvf
    go_wp2_with fail
    by_cases he : recvE a0 a1 l2 l3 ⟨t0, t1⟩ = 0
    rotate_left
    · refine (recv_no a0 a1 A2 c2 l2 A3 c3 l3 t0 t1 _ w3 (Kd.C_below hA.out.1 hb.out) hc2 (Kd.C_below hA.out.2 hb.out) hc3 rfl he).mono ?_
      rintro e w4 ⟨rfl, hb4⟩
      have hb5 := Aside0.mk (below_step hb.out hb4)
      generalize recvE a0 a1 l2 l3 ⟨t0, t1⟩ = ee at *
      clear x0 x1 x2 x3 z0 z1 hb4
      have hee : (ee != 0) = true := by simpa using he
      go_upto_region 6 with (fail)
      have hX := blk_new w4 (.cells #[.int .i64 0, .int .i64 0, .slice none 0 0, .slice none 0 0] 25)
      have hbX := Aside0.mk (below_alloc hb5.out (.cells #[.int .i64 0, .int .i64 0, .slice none 0 0, .slice none 0 0] 25))
      generalize w4.alloc (.cells #[.int .i64 0, .int .i64 0, .slice none 0 0, .slice none 0 0] 25) = w5 at *
      have x0 := blk_cell hX 0
      have x1 := blk_cell hX 1
      have x2 := blk_cell hX 2
      have x3 := blk_cell hX 3
      simp at x0 x1 x2 x3
      clear hX
      go_wp2_with fail
      refine (chargeparkref20_Same.calls 3 0 0 none 0 [] none 0 [] 0 0 none 0 [] none 0 [] true _ (nilT _) (Nat.le_refl _) (nilI _) (Nat.le_refl _) (nilT _) (Nat.le_refl _) (nilI _) (Nat.le_refl _) (rSame_f 0 0 [] [] (by simp) (by simp) 3 (by simp))).mono ?_
      rintro e w6 ⟨rfl, hb6⟩
      have hb7 := Aside0.mk (below_step hbX.out hb6)
      clear hb6
      go_wp2
      go_ret
      exact ⟨rfl, hb7.out⟩
    refine (recv_yes a0 a1 A2 c2 l2 A3 c3 l3 t0 t1 w3 (Kd.C_below hA.out.1 hb.out) hc2 (Kd.C_below hA.out.2 hb.out) hc3 he).mono ?_
    rintro e w4 ⟨v2, v3, rfl, r2, r3, hb4⟩
    clear x0 x1 x2 x3 z0 z1
    obtain ⟨A2x, c2x, rfl, _, _⟩ := Kd.R_reads r2
    obtain ⟨A3x, c3x, rfl, _, _⟩ := Kd.R_reads r3
    have hcur := Aside0.mk (Cur.new (h := a0 + t1) (n := a1) hb.out.size (below_step hb.out hb4) r2 r3)
    have bt4 := Aside0.mk (blk_below (blk_below bt.out hb4) (below_alloc (Below.refl _ _) (.cells #[.int .i64 (a0 + t1), .int .i64 a1, .slice A2x l2.length c2x, .slice A3x (putIn l3 t0).length c3x] 25)))
    have bo4 := Aside0.mk (blk_below (blk_below bo.out hb4) (below_alloc (Below.refl _ _) (.cells #[.int .i64 (a0 + t1), .int .i64 a1, .slice A2x l2.length c2x, .slice A3x (putIn l3 t0).length c3x] 25)))
    have htr := Aside0.mk (recv_iff.1 he).2.1
    have hinv : Aside0 (Inv w (w4.alloc (.cells #[.int .i64 (a0 + t1), .int .i64 a1, .slice A2x l2.length c2x, .slice A3x (putIn l3 t0).length c3x] 25)) w4.heap.size t0 t1 o0 o1) := ⟨_, _, _, _, _, _, _, _, _, _, ⟨hcur.out, blk_lt (blk_below bo.out hb4)⟩, recv_ok he, mem_putIn.2 (.inl rfl), bt4.out, bo4.out⟩
    clear r2 r3 hb4 hcur bt4 bo4 bs bt bo hb he hv' hA
    go_upto_region 7 with (fail)
    generalize (w4.alloc (.cells #[.int .i64 (a0 + t1), .int .i64 a1, .slice A2x l2.length c2x, .slice A3x (putIn l3 t0).length c3x] 25)) = X0 at *
    generalize w4.heap.size = gx at *
    unfold Inv at hinv
    obtain ⟨⟨h, n, A2, n2, c2, l2, A3, n3, c3, l3, ⟨hcur, hgw⟩, hok, hmem, hbt, hbo⟩⟩ := hinv
    have hc := Aside0.mk hcur
    have hok' := Aside0.mk hok
    have hm' := Aside0.mk hmem
    have bt := Aside0.mk hbt
    have bo := Aside0.mk hbo
    obtain ⟨e2, hc2', hC2⟩ := hcur.q2
    obtain ⟨e3, hc3', hC3⟩ := hcur.q3
    have hCC := Aside0.mk (And.intro hC2 hC3)
    have hlow := hcur.low
    have hsz := hcur.b.size
    have hgl := blk_lt hcur.blk
    subst e2 e3
    clear hcur hok hmem hbt hbo hC2 hC3
    have x0 := blk_cell hc.out.blk 0
    have x1 := blk_cell hc.out.blk 1
    have x2 := blk_cell hc.out.blk 2
    have x3 := blk_cell hc.out.blk 3
    simp at x0 x1 x2 x3
    obtain ⟨r1, r2, r3, r4, r5, r6, r7, hf, hgood⟩ := send_gives h n l2 l3 amps t0 hok'.out hm'.out
    have hf' := Aside0.mk hf
    have hgood' := Aside0.mk hgood
    clear hf hgood
    go_wp2_with fail
    refine (share_Send.calls h n A2 c2 l2 A3 c3 l3 amps r1 r2 r3 r4 r5 r6 r7 _ hCC.out.1 hc2' hCC.out.2 hc3' hf'.out).mono ?_
    rintro e w5 ⟨v2, v3, rfl, q2, q3, hb5⟩
    obtain ⟨B2, m2, d2, hv2⟩ : ∃ A m c, v2 = .slice A m c := by obtain ⟨A, c, h, _⟩ := Kd.R_reads q2; exact ⟨A, _, c, h⟩
    obtain ⟨B3, m3, d3, hv3⟩ : ∃ A m c, v3 = .slice A m c := by obtain ⟨A, c, h, _⟩ := Kd.R_reads q3; exact ⟨A, _, c, h⟩
    subst hv2 hv3
    have hba : Below w5.heap.size w5 ((w5.alloc (.cells #[.int .i64 r1, .int .i64 r2, .slice B2 m2 d2, .slice B3 m3 d3] 25)).alloc (.cells #[.int .i64 r5, .int .i64 r6] 27)) := ((Below.refl _ _).alloc (Nat.le_refl _) _).alloc (by simp) _
    have hy := blk_below (blk_new w5 (.cells #[.int .i64 r1, .int .i64 r2, .slice B2 m2 d2, .slice B3 m3 d3] 25)) (below_alloc (Below.refl _ _) (.cells #[.int .i64 r5, .int .i64 r6] 27))
    have hc6 := Aside0.mk ((hc.out.below hb5).below hba)
    have bt6 := Aside0.mk (blk_below (blk_below bt.out hb5) hba)
    have bo6 := Aside0.mk (blk_below (blk_below bo.out hb5) hba)
    have r26 := Aside0.mk (Kd.R_below q2 hba)
    have r36 := Aside0.mk (Kd.R_below q3 hba)
    have hy6 := Aside0.mk hy
    have hzz : Aside0 (gx < X0.heap.size ∧ w.heap.size ≤ X0.heap.size) := ⟨hgl, hsz⟩
    clear q2 q3 hb5 hba hy hc bt bo hf' hCC
    clear x0 x1 x2 x3
    go_upto_if 55 with (fail)
    generalize ((w5.alloc (.cells #[.int .i64 r1, .int .i64 r2, .slice B2 m2 d2, .slice B3 m3 d3] 25)).alloc (.cells #[.int .i64 r5, .int .i64 r6] 27)) = Y1 at *
    go_cut [] (fun wc => Inv w wc gx t0 t1 o0 o1)
    case first =>
      have y0 := blk_cell hy6.out 0
      have y1 := blk_cell hy6.out 1
      have y2 := blk_cell hy6.out 2
      have y3 := blk_cell hy6.out 3
      have x0 := blk_cell hc6.out.blk 0
      have x1 := blk_cell hc6.out.blk 1
      have x2 := blk_cell hc6.out.blk 2
      have x3 := blk_cell hc6.out.blk 3
      simp at x0 x1 x2 x3 y0 y1 y2 y3
      have u0 := blk_frozen hc6.out.blk 0
      have u1 := blk_frozen hc6.out.blk 1
      have u2 := blk_frozen hc6.out.blk 2
      have u3 := blk_frozen hc6.out.blk 3
      by_cases he : r7 = 0
      · subst he
        obtain ⟨g1, g2⟩ := hgood'.out rfl
        have g1' := Aside0.mk g1
        have g2' := Aside0.mk g2
        clear g1 g2 hgood'
        go_wp2_with fail
        go_meet
        exact ⟨_, _, _, _, _, _, _, _, _, _, ⟨hc6.out.put hzz.out.1 hzz.out.2 r26.out r36.out, hgw⟩, g1'.out, g2'.out, blk_four bt6.out (by omega) _ _ _ _, blk_four bo6.out (by omega) _ _ _ _⟩
      · have hee : (r7 == 0) = false := by simpa using he
        go_wp2_with fail
        go_meet
        exact ⟨_, _, _, _, _, _, _, _, _, _, ⟨hc6.out, hgw⟩, hok'.out, hm'.out, bt6.out, bo6.out⟩
    case rest =>
      have hinv : Aside0 (Inv w wc gx t0 t1 o0 o1) := Aside0.mk hcut
      clear hcut hc6 bt6 bo6 r26 r36 hy6 hzz hgood' hok' hm' hgw hsz hgl hlow hc2' hc3'
      go_upto_region 10 with (fail)
      generalize wc = X1 at *
      unfold Inv at hinv
      obtain ⟨⟨h, n, A2, n2, c2, l2, A3, n3, c3, l3, ⟨hcur, hgw⟩, hok, hmem, hbt, hbo⟩⟩ := hinv
      have hc := Aside0.mk hcur
      have hok' := Aside0.mk hok
      have hm' := Aside0.mk hmem
      have bt := Aside0.mk hbt
      have bo := Aside0.mk hbo
      obtain ⟨e2, hc2', hC2⟩ := hcur.q2
      obtain ⟨e3, hc3', hC3⟩ := hcur.q3
      have hCC := Aside0.mk (And.intro hC2 hC3)
      have hlow := hcur.low
      have hsz := hcur.b.size
      have hgl := blk_lt hcur.blk
      subst e2 e3
      clear hcur hok hmem hbt hbo hC2 hC3
      have x0 := blk_cell hc.out.blk 0
      have x1 := blk_cell hc.out.blk 1
      have x2 := blk_cell hc.out.blk 2
      have x3 := blk_cell hc.out.blk 3
      simp at x0 x1 x2 x3
      obtain ⟨r1, r2, r3, r4, r7, hf, hgood⟩ := ack_gives h n l2 l3 num t0 hok'.out hm'.out
      have hf' := Aside0.mk hf
      have hgood' := Aside0.mk hgood
      clear hf hgood
      go_wp2_with fail
      refine (share_Acked.calls h n A2 c2 l2 A3 c3 l3 num r1 r2 r3 r4 r7 _ hCC.out.1 hc2' hCC.out.2 hc3' hf'.out).mono ?_
      rintro e w5 ⟨v2, v3, rfl, q2, q3, hb5⟩
      obtain ⟨B2, m2, d2, hv2⟩ : ∃ A m c, v2 = .slice A m c := by obtain ⟨A, c, h, _⟩ := Kd.R_reads q2; exact ⟨A, _, c, h⟩
      obtain ⟨B3, m3, d3, hv3⟩ : ∃ A m c, v3 = .slice A m c := by obtain ⟨A, c, h, _⟩ := Kd.R_reads q3; exact ⟨A, _, c, h⟩
      subst hv2 hv3
      have hba : Below w5.heap.size w5 (w5.alloc (.cells #[.int .i64 r1, .int .i64 r2, .slice B2 m2 d2, .slice B3 m3 d3] 25)) := below_alloc (Below.refl _ _) _
      have hy := blk_new w5 (.cells #[.int .i64 r1, .int .i64 r2, .slice B2 m2 d2, .slice B3 m3 d3] 25)
      have hc6 := Aside0.mk ((hc.out.below hb5).below hba)
      have bt6 := Aside0.mk (blk_below (blk_below bt.out hb5) hba)
      have bo6 := Aside0.mk (blk_below (blk_below bo.out hb5) hba)
      have r26 := Aside0.mk (Kd.R_below q2 hba)
      have r36 := Aside0.mk (Kd.R_below q3 hba)
      have hy6 := Aside0.mk hy
      have hzz : Aside0 (gx < X1.heap.size ∧ w.heap.size ≤ X1.heap.size) := ⟨hgl, hsz⟩
      clear q2 q3 hb5 hba hy hc bt bo hf' hCC
      clear x0 x1 x2 x3
      go_upto_if 64 with (fail)
      generalize (w5.alloc (.cells #[.int .i64 r1, .int .i64 r2, .slice B2 m2 d2, .slice B3 m3 d3] 25)) = Y2 at *
      go_cut [] (fun wc => Inv w wc gx t0 t1 o0 o1)
      case first =>
        have y0 := blk_cell hy6.out 0
        have y1 := blk_cell hy6.out 1
        have y2 := blk_cell hy6.out 2
        have y3 := blk_cell hy6.out 3
        have x0 := blk_cell hc6.out.blk 0
        have x1 := blk_cell hc6.out.blk 1
        have x2 := blk_cell hc6.out.blk 2
        have x3 := blk_cell hc6.out.blk 3
        simp at x0 x1 x2 x3 y0 y1 y2 y3
        have u0 := blk_frozen hc6.out.blk 0
        have u1 := blk_frozen hc6.out.blk 1
        have u2 := blk_frozen hc6.out.blk 2
        have u3 := blk_frozen hc6.out.blk 3
        by_cases he : r7 = 0
        · subst he
          obtain ⟨g1, g2⟩ := hgood'.out rfl
          have g1' := Aside0.mk g1
          have g2' := Aside0.mk g2
          clear g1 g2 hgood'
          go_wp2_with fail
          go_meet
          exact ⟨_, _, _, _, _, _, _, _, _, _, ⟨hc6.out.put hzz.out.1 hzz.out.2 r26.out r36.out, hgw⟩, g1'.out, g2'.out, blk_four bt6.out (by omega) _ _ _ _, blk_four bo6.out (by omega) _ _ _ _⟩
        · have hee : (r7 == 0) = false := by simpa using he
          go_wp2_with fail
          go_meet
          exact ⟨_, _, _, _, _, _, _, _, _, _, ⟨hc6.out, hgw⟩, hok'.out, hm'.out, bt6.out, bo6.out⟩
      case rest =>
        have hinv : Aside0 (Inv w wc gx t0 t1 o0 o1) := Aside0.mk hcut
        clear hcut hc6 bt6 bo6 r26 r36 hy6 hzz hgood' hok' hm' hgw hsz hgl hlow hc2' hc3'
        go_upto_region 13 with (fail)
        generalize wc = X2 at *
        unfold Inv at hinv
        obtain ⟨⟨h, n, A2, n2, c2, l2, A3, n3, c3, l3, ⟨hcur, hgw⟩, hok, hmem, hbt, hbo⟩⟩ := hinv
        have hc := Aside0.mk hcur
        have hok' := Aside0.mk hok
        have hm' := Aside0.mk hmem
        have bt := Aside0.mk hbt
        have bo := Aside0.mk hbo
        obtain ⟨e2, hc2', hC2⟩ := hcur.q2
        obtain ⟨e3, hc3', hC3⟩ := hcur.q3
        have hCC := Aside0.mk (And.intro hC2 hC3)
        have hlow := hcur.low
        have hsz := hcur.b.size
        have hgl := blk_lt hcur.blk
        subst e2 e3
        clear hcur hok hmem hbt hbo hC2 hC3
        have x0 := blk_cell hc.out.blk 0
        have x1 := blk_cell hc.out.blk 1
        have x2 := blk_cell hc.out.blk 2
        have x3 := blk_cell hc.out.blk 3
        simp at x0 x1 x2 x3
        have z0 := blk_cell bo.out 0
        have z1 := blk_cell bo.out 1
        simp at z0 z1
        obtain ⟨r1, r2, r3, r4, r7, hf, hgood⟩ := recv_gives h n l2 l3 o0 o1 t0 hok'.out hm'.out
        have hf' := Aside0.mk hf
        have hgood' := Aside0.mk hgood
        clear hf hgood
        go_wp2_with fail
        refine (share_Receive.calls h n A2 c2 l2 A3 c3 l3 o0 o1 r1 r2 r3 r4 r7 _ hCC.out.1 hc2' hCC.out.2 hc3' hf'.out).mono ?_
        rintro e w5 ⟨v2, v3, rfl, q2, q3, hb5⟩
        obtain ⟨B2, m2, d2, hv2⟩ : ∃ A m c, v2 = .slice A m c := by obtain ⟨A, c, h, _⟩ := Kd.R_reads q2; exact ⟨A, _, c, h⟩
        obtain ⟨B3, m3, d3, hv3⟩ : ∃ A m c, v3 = .slice A m c := by obtain ⟨A, c, h, _⟩ := Kd.R_reads q3; exact ⟨A, _, c, h⟩
        subst hv2 hv3
        have hba : Below w5.heap.size w5 (w5.alloc (.cells #[.int .i64 r1, .int .i64 r2, .slice B2 m2 d2, .slice B3 m3 d3] 25)) := below_alloc (Below.refl _ _) _
        have hy := blk_new w5 (.cells #[.int .i64 r1, .int .i64 r2, .slice B2 m2 d2, .slice B3 m3 d3] 25)
        have hc6 := Aside0.mk ((hc.out.below hb5).below hba)
        have bt6 := Aside0.mk (blk_below (blk_below bt.out hb5) hba)
        have bo6 := Aside0.mk (blk_below (blk_below bo.out hb5) hba)
        have r26 := Aside0.mk (Kd.R_below q2 hba)
        have r36 := Aside0.mk (Kd.R_below q3 hba)
        have hy6 := Aside0.mk hy
        have hzz : Aside0 (gx < X2.heap.size ∧ w.heap.size ≤ X2.heap.size) := ⟨hgl, hsz⟩
        clear q2 q3 hb5 hba hy hc bt bo hf' hCC
        clear x0 x1 x2 x3 z0 z1
        go_upto_if 73 with (fail)
        generalize (w5.alloc (.cells #[.int .i64 r1, .int .i64 r2, .slice B2 m2 d2, .slice B3 m3 d3] 25)) = Y3 at *
        go_cut [] (fun wc => Inv w wc gx t0 t1 o0 o1)
        case first =>
          have y0 := blk_cell hy6.out 0
          have y1 := blk_cell hy6.out 1
          have y2 := blk_cell hy6.out 2
          have y3 := blk_cell hy6.out 3
          have x0 := blk_cell hc6.out.blk 0
          have x1 := blk_cell hc6.out.blk 1
          have x2 := blk_cell hc6.out.blk 2
          have x3 := blk_cell hc6.out.blk 3
          simp at x0 x1 x2 x3 y0 y1 y2 y3
          have u0 := blk_frozen hc6.out.blk 0
          have u1 := blk_frozen hc6.out.blk 1
          have u2 := blk_frozen hc6.out.blk 2
          have u3 := blk_frozen hc6.out.blk 3
          by_cases he : r7 = 0
          · subst he
            obtain ⟨g1, g2⟩ := hgood'.out rfl
            have g1' := Aside0.mk g1
            have g2' := Aside0.mk g2
            clear g1 g2 hgood'
            go_wp2_with fail
            go_meet
            exact ⟨_, _, _, _, _, _, _, _, _, _, ⟨hc6.out.put hzz.out.1 hzz.out.2 r26.out r36.out, hgw⟩, g1'.out, g2'.out, blk_four bt6.out (by omega) _ _ _ _, blk_four bo6.out (by omega) _ _ _ _⟩
          · have hee : (r7 == 0) = false := by simpa using he
            go_wp2_with fail
            go_meet
            exact ⟨_, _, _, _, _, _, _, _, _, _, ⟨hc6.out, hgw⟩, hok'.out, hm'.out, bt6.out, bo6.out⟩
        case rest =>
          have hinv : Aside0 (Inv w wc gx t0 t1 o0 o1) := Aside0.mk hcut
          clear hcut hc6 bt6 bo6 r26 r36 hy6 hzz hgood' hok' hm' hgw hsz hgl hlow hc2' hc3'
          go_upto_region 16 with (fail)
          generalize wc = X3 at *
          unfold Inv at hinv
          obtain ⟨⟨h, n, A2, n2, c2, l2, A3, n3, c3, l3, ⟨hcur, hgw⟩, hok, hmem, hbt, hbo⟩⟩ := hinv
          have hc := Aside0.mk hcur
          have hok' := Aside0.mk hok
          have hm' := Aside0.mk hmem
          have bt := Aside0.mk hbt
          have bo := Aside0.mk hbo
          obtain ⟨e2, hc2', hC2⟩ := hcur.q2
          obtain ⟨e3, hc3', hC3⟩ := hcur.q3
          have hCC := Aside0.mk (And.intro hC2 hC3)
          have hlow := hcur.low
          have hsz := hcur.b.size
          have hgl := blk_lt hcur.blk
          subst e2 e3
          clear hcur hok hmem hbt hbo hC2 hC3
          have x0 := blk_cell hc.out.blk 0
          have x1 := blk_cell hc.out.blk 1
          have x2 := blk_cell hc.out.blk 2
          have x3 := blk_cell hc.out.blk 3
          simp at x0 x1 x2 x3
          have z0 := blk_cell bt.out 0
          have z1 := blk_cell bt.out 1
          simp at z0 z1
          go_wp2_with fail
          refine (recv_no h n A2 c2 l2 A3 c3 l3 t0 t1 5 _ hCC.out.1 hc2' hCC.out.2 hc3' (recv_twice hok'.out htr.out hm'.out) (by decide)).mono ?_
          rintro e w5 ⟨rfl, hb5⟩
          have hfin := Aside0.mk (below_alloc (below_step hc.out.b hb5) (.cells #[.int .i64 0, .int .i64 0, .slice none 0 0, .slice none 0 0] 25))
          clear hb5
          go_wp2
          go_ret
          exact ⟨rfl, hfin.out⟩
end Go.Proofs.Ythoimnockinfbaa.Pr
