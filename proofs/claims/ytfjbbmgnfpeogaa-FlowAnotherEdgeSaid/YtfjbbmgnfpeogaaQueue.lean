import Derived.Test.YtfjbbmgnfpeogaaPr0
/-! The queue of the search: put and take. -/
namespace Go.Proofs.Ytfjbbmgnfpeogaa.Pr
open Go.RowKit Go.Proofs.YtfjbbmgnfpeogaaW.PrintWords Go.Proofs.YtfjbbmgnfpeogaaW.PrintLast Go.Proofs.YtfjbbmgnfpeogaaW.PrintMore

theorem q_put (W : World) (bq base : Nat) (ok : Nat → Prop) (v : Value) (xs : List Int) (x : Int) (hq : W.heap[bq]? = some (.cells #[v] 55 (0, 0)))
    (hok : ∀ k, ok k → k ≠ bq) (hfresh : ∀ k, W.heap.size ≤ k → ok k)
    (HQ : Kd.Q (Kd.int .i64) 3 W base ok v xs) (hbase : base ≤ W.heap.size) (hl : xs.length < 1000000) :
    Calls Try.prog 29 #[.pointer (some ⟨bq, 0, none⟩), .int .i64 x] W fun e W' => e = .returned (.tuple #[]) ∧
      ∃ v', W'.heap[bq]? = some (.cells #[v'] 55 (0, 0)) ∧ Kd.Q (Kd.int .i64) 3 W' base ok v' (xs ++ [x]) ∧
        Kept W W' (fun k => k = bq ∨ some k = v.ownBlock) ∧ ∀ B, B ≤ bq → B ≤ base → Below B W W' := by
  obtain ⟨A, c, rfl, hlc⟩ := Kd.Q_slice HQ
  have hc : W.cell? ⟨bq, 0, none⟩ = some (.slice A xs.length c) := by simp [World.cell?, hq]
  have hf : W.frozen? ⟨bq, 0, none⟩ = false := by simp [World.frozen?, hq]
  have hqlt : bq < W.heap.size := blk_lt hq
  have HQ' := Aside0.mk HQ
  have HN := Aside0.mk (Kd.Q_away HQ (g := bq) hok)
  have hok' := Aside0.mk hok
  have hfresh' := Aside0.mk hfresh
  have HB := Aside0.mk hq
  clear hq HQ hok hfresh
  go_enter Try.func29, Try.ntmps29
  go_wp2_with (at_builtin; go_loud (refine Kd.Q_append (w0 := W) (Kd.int .i64) base rfl _ _ 25 3 (.int .i64 0) 8 rfl Try.underlying25 info3 rfl (by decide) (by decide) (.slice A xs.length c) xs x [.int .i64 x] ok (fun k => False) rfl rfl rfl (fun k h => h.elim) hfresh'.out HQ'.out (Below.refl _ _) hbase (by omega) ?_; intro v1 w1 hq1 hb1 hg1 hat1; obtain ⟨A1, c1, rfl, hlc1⟩ := Kd.Q_slice hq1; have hB1 := Aside0.mk ((hg1.block bq hqlt HN.out).trans HB.out); have hc1 : w1.cell? ⟨bq, 0, none⟩ = some (.slice A xs.length c) := (by simp [World.cell?, hB1.out]); have hf1 : w1.frozen? ⟨bq, 0, none⟩ = false := (by simp [World.frozen?, hB1.out])))
  go_end0
  have h2 := blk_set hB1.out 0 (.slice A1 (xs ++ [x]).length c1)
  rw [show xs.length + 1 = (xs ++ [x]).length from by simp]
  refine ⟨rfl, _, h2, Kd.Q_far hq1 hok'.out _, ?_, fun B h3 h4 => ?_⟩
  · refine Kept.setCell ?_ (.inl (.inl rfl)) _
    exact (Kept.of_grown hg1 (Kept.refl _ _) (fun k h => .inl (.inr h.symm)))
  · exact (hb1.mono h4).setCell h3 _

/-- What is taken from a queue. -/
theorem q_take (W : World) (bq base : Nat) (ok : Nat → Prop) (v : Value) (x : Int) (xs : List Int) (hq : W.heap[bq]? = some (.cells #[v] 55 (0, 0)))
    (hok : ∀ k, ok k → k ≠ bq) (HQ : Kd.Q (Kd.int .i64) 3 W base ok v (x :: xs)) (hl : xs.length < 1000000) :
    Calls Try.prog 30 #[.pointer (some ⟨bq, 0, none⟩)] W fun e W' => e = .returned (.tuple #[.int .i64 x, .bool true]) ∧
      ∃ v', W'.heap[bq]? = some (.cells #[v'] 55 (0, 0)) ∧ Kd.Q (Kd.int .i64) 3 W' base ok v' xs ∧
        Kept W W' (fun k => k = bq) ∧ ∀ B, B ≤ bq → Below B W W' := by
  obtain ⟨A, c, rfl, hlc⟩ := Kd.Q_slice HQ
  obtain ⟨ad, c0, rfl, _, hK, hcc⟩ := Kd.C_get (Kd.Q_reads' HQ).2.2 (0 : Int) 0 (by omega) (by simp)
  obtain rfl : c0 = [.int .i64 x] := hK
  have hx : W.cell? ad = some (.int .i64 x) := by have := hcc 0 _ rfl; simpa [Addr.add] using this
  have hc : W.cell? ⟨bq, 0, none⟩ = some (.slice (some ad) (x :: xs).length c) := by simp [World.cell?, hq]
  have hf : W.frozen? ⟨bq, 0, none⟩ = false := by simp [World.frozen?, hq]
  have HQ' := Aside0.mk HQ
  have HB := Aside0.mk hq
  have hok' := Aside0.mk hok
  have hlc' : 1 ≤ c := by simp at hlc; omega
  rw [List.length_cons] at hc
  clear hq HQ hcc hlc hok
  go_enter Try.func30, Try.ntmps30
  go_wp2
  all_goals
    go_ret2
    refine ⟨rfl, _, blk_set HB.out 0 _, ?_, Kept.setCell (p := ⟨bq, 0, none⟩) (Kept.refl W (fun k => k = bq)) (.inl rfl) _, fun B h3 => (Below.refl B W).setCell (p := ⟨bq, 0, none⟩) h3 _⟩
    have h := Kd.Q_far (Kd.Q_drop (k := 1) HQ'.out (by simp)) (p := ⟨bq, 0, none⟩) hok'.out
  · rename_i hc1
    have h1 := h (.slice (some ad) xs.length 0)
    subst hc1
    simpa using h1
  · rename_i hc1
    have h1 := h (.slice (some ⟨ad.block, ad.off + 1, none⟩) xs.length (c - 1))
    rw [if_neg hc1] at h1
    simpa [Addr.add, show (Kd.int .i64).sz = 1 from rfl] using h1

theorem q_take_none (W : World) (bq base : Nat) (ok : Nat → Prop) (v : Value) (hq : W.heap[bq]? = some (.cells #[v] 55 (0, 0)))
    (HQ : Kd.Q (Kd.int .i64) 3 W base ok v []) :
    Calls Try.prog 30 #[.pointer (some ⟨bq, 0, none⟩)] W fun e W' => e = .returned (.tuple #[.int .i64 0, .bool false]) ∧ W = W' := by
  obtain ⟨A, c, rfl, hlc⟩ := Kd.Q_slice HQ
  have hc : W.cell? ⟨bq, 0, none⟩ = some (.slice A 0 c) := by simp [World.cell?, hq]
  clear hq HQ
  go_enter Try.func30, Try.ntmps30
  go_wp2
  go_ret2
  exact ⟨rfl, rfl⟩
end Go.Proofs.Ytfjbbmgnfpeogaa.Pr
