import Derived.Test.YtfjbbmgnfpeogaaQueue
/-! What the search reads of a graph: a work's memory; the node from which a step leads. -/
namespace Go.Proofs.Ytfjbbmgnfpeogaa.Pr
open Go.RowKit Go.Proofs.YtfjbbmgnfpeogaaW.PrintWords Go.Proofs.YtfjbbmgnfpeogaaW.PrintLast Go.Proofs.YtfjbbmgnfpeogaaW.PrintMore

/-- A work in memory, its graph. -/
structure Graph0 (W : World) (bw : Nat) (nodes : Int) (A : Option Addr) (c : Nat) (es : List S39) (vf : Value) : Prop where
  blk : W.heap[bw]? = some (.cells #[.int .i64 nodes, .slice A es.length c, vf] 46 (0, 0))
  row : Kd.C k39 W A es.length es

theorem Graph0.cells {W : World} {bw : Nat} {nodes : Int} {A : Option Addr} {c : Nat} {es : List S39} {vf : Value} (h : Graph0 W bw nodes A c es vf) :
    W.cell? ⟨bw, 0, none⟩ = some (.int .i64 nodes) ∧ W.cell? ⟨bw, 1, none⟩ = some (.slice A es.length c) ∧ W.cell? ⟨bw, 2, none⟩ = some vf ∧ bw < W.heap.size :=
  ⟨by simp [World.cell?, h.blk], by simp [World.cell?, h.blk], by simp [World.cell?, h.blk], blk_lt h.blk⟩

theorem cell_blk {W W1 : World} {a : Addr} {v : Value} (h : W.cell? a = some v) (hs : a.block < W.heap.size → W1.heap[a.block]? = W.heap[a.block]?) : W1.cell? a = some v := by
  have := hs (World.block_lt_of_cell? W a h)
  unfold World.cell? at h ⊢
  rw [this]; exact h

theorem C_same {W W1 : World} {A : Option Addr} {n : Nat} {es : List S39} (h : Kd.C k39 W A n es)
    (hs : 0 < n → ∀ ad, A = some ad → ad.block < W.heap.size → W1.heap[ad.block]? = W.heap[ad.block]?) : Kd.C k39 W1 A n es := by
  refine ⟨h.1, h.2.1, fun hn => ?_⟩
  obtain ⟨ad, e, hc⟩ := h.2.2 hn
  refine ⟨ad, e, fun j p hj => ?_⟩
  obtain ⟨c, hl, hK, hcc⟩ := hc j p hj
  refine ⟨c, hl, by rw [k39_open hK]; exact k39_mk W1 p, fun i u hi => cell_blk (hcc i u hi) ?_⟩
  have e1 : ∀ k, (ad.add k).block = ad.block := fun k => by unfold Addr.add; split <;> rfl
  rw [e1]; exact hs hn ad e

def stepV (edge : Int) (back : Bool) (tw room : Int) : Value := .agg #[.int .i64 edge, .bool back, .int .i64 tw, .int .i64 room]

theorem other_calls (W : World) (bw : Nat) (nodes : Int) (A : Option Addr) (c : Nat) (es : List S39) (vf : Value) (h : Graph0 W bw nodes A c es vf)
    (edge : Int) (back : Bool) (tw room : Int) (h0 : 0 ≤ edge) (h1 : edge < es.length) :
    Calls Try.prog 33 #[.pointer (some ⟨bw, 0, none⟩), .agg #[.int .i64 edge, .bool back, .int .i64 tw, .int .i64 room]] W fun e W' =>
      e = .returned (.int .i64 (if back = true then (rd_T39 es edge).f1 else (rd_T39 es edge).f0)) ∧ Below W.heap.size W W' := by
  obtain ⟨c0, c1, _, hb⟩ := h.cells
  obtain ⟨ad, rfl, e0, e1, _⟩ := at_T39 h.row edge h0 h1
  obtain ⟨k, rfl⟩ := Int.eq_ofNat_of_zero_le h0
  simp only [Int.toNat_natCast] at e0 e1
  have hk : k < es.length := by omega
  have had := World.block_lt_of_cell? W _ e0
  have had1 := World.block_lt_of_cell? W _ e1
  generalize hx0 : (rd_T39 es (k : Int)).f0 = x0 at *
  generalize hx1 : (rd_T39 es (k : Int)).f1 = x1 at *
  clear hx0 hx1 h
  cases back
  · go_enter Try.func33, Try.ntmps33
    go_wp2
    go_quiet (fail)
    go_wp2
    go_ret
    exact ⟨rfl, pw_below_drewN (below_alloc (Below.refl _ _) _) _⟩
  · go_enter Try.func33, Try.ntmps33
    go_wp2
    go_quiet (fail)
    go_wp2
    go_ret
    exact ⟨rfl, pw_below_drewN (below_alloc (Below.refl _ _) _) _⟩
end Go.Proofs.Ytfjbbmgnfpeogaa.Pr
