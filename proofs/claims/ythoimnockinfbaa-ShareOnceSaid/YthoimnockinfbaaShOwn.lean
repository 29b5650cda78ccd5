import Derived.Test.YthoimnockinfbaaBlk
import Derived.IntWalk
set_option linter.unusedVariables false
set_option linter.unusedSimpArgs false
/-! share.copied and share.own: lists of one's own, with room for one more element. -/
namespace Go.Proofs.Ythoimnockinfbaa.Pr
open Go.RowKit Go.Proofs.YthoimnockinfbaaW.PrintWords Go.Proofs.YthoimnockinfbaaW.PrintLast Go.Proofs.YthoimnockinfbaaW.PrintMore
attribute [local go_sem] Oper.semAt_some

def trCells (x : S27) : List Value := [.int .i64 x.f0, .int .i64 x.f1]
def inCells (x : Int) : List Value := [.int .i64 x]
theorem trCells_K (w : World) (x : S27) (cs : List Value) (h : k27.K w x cs) : cs = trCells x := k27_open h
theorem inCells_K (w : World) (x : Int) (cs : List Value) (h : (Kd.int .i64).K w x cs) : cs = inCells x := h
theorem trCells_len (x : S27) : (trCells x).length = k27.sz := rfl
theorem inCells_len (x : Int) : (inCells x).length = (Kd.int .i64).sz := rfl
theorem trCells_one (x : S27) : ∀ v ∈ trCells x, v.oneCell' = true := by simp [trCells, Value.oneCell']
theorem inCells_one (x : Int) : ∀ v ∈ inCells x, v.oneCell' = true := by simp [inCells, Value.oneCell']

/-- A row of one's own with its whole block, and room. -/
structure Roomy {α : Type} (d : Kd α) (f : α → List Value) (e : Nat) (w0 w : World) (g cap : Nat) (xs : List α) : Prop where
  blk : ∃ rest : List Value, w.heap[g]? = some (.cells (xs.flatMap f ++ rest).toArray e (0, 0)) ∧ rest.length = (cap - xs.length) * d.sz
  low : w0.heap.size ≤ g
  fit : xs.length ≤ cap
theorem Roomy.lt {α : Type} {d : Kd α} {f : α → List Value} {e : Nat} {w0 w : World} {g cap : Nat} {xs : List α} (h : Roomy d f e w0 w g cap xs) : g < w.heap.size := by
  obtain ⟨r, hr, _⟩ := h.blk
  exact blk_lt hr
theorem Roomy.below {α : Type} {d : Kd α} {f : α → List Value} {e : Nat} {w0 w w1 : World} {g cap : Nat} {xs : List α} (h : Roomy d f e w0 w g cap xs) (hb : Below w.heap.size w w1) : Roomy d f e w0 w1 g cap xs := by
  obtain ⟨⟨r, hr, hl⟩, h2, h3⟩ := h
  exact ⟨⟨r, blk_below hr hb, hl⟩, h2, h3⟩

theorem Roomy.far {α : Type} {d : Kd α} {f : α → List Value} {e : Nat} {w0 w : World} {g cap : Nat} {xs : List α} (h : Roomy d f e w0 w g cap xs) {p : Addr} (hp : g ≠ p.block) (u : Value) : Roomy d f e w0 (w.setCell p u) g cap xs := by
  obtain ⟨⟨r, hr, hl⟩, h2, h3⟩ := h
  exact ⟨⟨r, blk_far hr hp u, hl⟩, h2, h3⟩
theorem Roomy.low' {α : Type} {d : Kd α} {f : α → List Value} {e : Nat} {w0 w1 w : World} {g cap : Nat} {xs : List α} (h : Roomy d f e w1 w g cap xs) (hb : w0.heap.size ≤ w1.heap.size) : Roomy d f e w0 w g cap xs := ⟨h.blk, Nat.le_trans hb h.low, h.fit⟩

theorem Roomy.grown {α : Type} {d : Kd α} {f : α → List Value} {e : Nat} {w0 w w1 : World} {g cap : Nat} {xs : List α} {row : Option Nat} (h : Roomy d f e w0 w g cap xs) (hg : w.grownBy w1 row) (hne : some g ≠ row) : Roomy d f e w0 w1 g cap xs := by
  obtain ⟨⟨r, hr, hl⟩, h2, h3⟩ := h
  exact ⟨⟨r, blk_grown hr hg hne, hl⟩, h2, h3⟩
/-- A roomy row is a row of one's own. -/
theorem Roomy.R {α : Type} {d : Kd α} {f : α → List Value} {e : Nat} {w0 w : World} {g cap : Nat} {xs : List α} {ok : Nat → Prop} (h : Roomy d f e w0 w g cap xs) (hf : ∀ x, (f x).length = d.sz) (hM : ∀ x, d.M w w0.heap.size (fun k => ok k ∧ some k ≠ some g) x (f x)) (hok : ok g) (hm : cap ≤ maxLen) :
    d.R e w w0.heap.size ok (.slice (some ⟨g, 0, none⟩) xs.length cap) xs := by
  obtain ⟨⟨r, hr, hl⟩, h2, h3⟩ := h
  have hfl := flat_length hf xs
  refine R_blk hf hM hr ?_ h2 hok h3 hm ?_
  · simp [← hfl]
  · have := Nat.sub_mul cap xs.length d.sz
    have := Nat.mul_le_mul_right d.sz h3
    have e1 : ((xs.flatMap f ++ r).toArray).size = (xs.flatMap f).length + r.length := by simp
    rw [e1, hl, hfl]
    omega

set_option maxHeartbeats 2000000 in
theorem cpT_calls (A : Option Addr) (c : Nat) (l : List S27) (w : World) (hr : Kd.C k27 w A l.length l) (hc : l.length ≤ c) (hl : l.length ≤ 64) :
    Calls Try.prog 39 #[.slice A l.length c] w fun e w' => e = .returned (.slice (some ⟨w.heap.size, 0, none⟩) l.length (l.length + 1)) ∧ Roomy k27 trCells 27 w w' w.heap.size (l.length + 1) l ∧ Below w.heap.size w w' := by
  obtain ⟨W2, rest, hcp, hg, hrl, hb, _⟩ := copied_run (P := Try.prog) trCells_K trCells_len trCells_one (by decide) 22 22 3 27 w A l.length c (l.length + 1) ((l.length + 1) * 2) #[.int .i64 0, .int .i64 0] l Try.underlying22 (by kernel_rfl) hr (by omega) rfl
  have hmk := make_wide 22 27 (.agg #[.int .i64 0, .int .i64 0]) 2 16 Try.underlying22 info27 l.length (l.length + 1) (by omega) (by omega) (by omega)
  simp only [Value.cells, Int.natCast_add, Int.cast_ofNat_Int] at hmk
  have hfin : Aside0 (Roomy k27 trCells 27 w W2 w.heap.size (l.length + 1) l ∧ Below w.heap.size w W2) := ⟨⟨⟨rest, hg, hrl⟩, Nat.le_refl _, by omega⟩, hb⟩
  clear hg hrl hb hr
  go_enter Try.func39, Try.ntmps39
  go_wp2
  go_ret
  exact ⟨rfl, hfin.out⟩
set_option maxHeartbeats 2000000 in
theorem cpI_calls (A : Option Addr) (c : Nat) (l : List Int) (w : World) (hr : Kd.C (Kd.int .i64) w A l.length l) (hc : l.length ≤ c) (hl : l.length ≤ 64) :
    Calls Try.prog 40 #[.slice A l.length c] w fun e w' => e = .returned (.slice (some ⟨w.heap.size, 0, none⟩) l.length (l.length + 1)) ∧ Roomy (Kd.int .i64) inCells 3 w w' w.heap.size (l.length + 1) l ∧ Below w.heap.size w w' := by
  obtain ⟨W2, rest, hcp, hg, hrl, hb, _⟩ := copied_run (P := Try.prog) inCells_K inCells_len inCells_one (by decide) 23 23 3 3 w A l.length c (l.length + 1) (l.length + 1) #[.int .i64 0] l Try.underlying23 (by kernel_rfl) hr (by omega) (Nat.mul_one _).symm
  have hmk := make_wide 23 3 (.int .i64 0) 1 8 Try.underlying23 (by kernel_rfl) l.length (l.length + 1) (by omega) (by omega) (by omega)
  simp only [Value.cells, Int.natCast_add, Int.cast_ofNat_Int] at hmk
  have hfin : Aside0 (Roomy (Kd.int .i64) inCells 3 w W2 w.heap.size (l.length + 1) l ∧ Below w.heap.size w W2) := ⟨⟨⟨rest, hg, hrl⟩, Nat.le_refl _, by omega⟩, hb⟩
  clear hg hrl hb hr
  go_enter Try.func40, Try.ntmps40
  go_wp2
  go_ret
  exact ⟨rfl, hfin.out⟩

set_option maxHeartbeats 4000000 in
theorem own_calls (a0 a1 : Int) (A2 : Option Addr) (c2 : Nat) (l2 : List S27) (A3 : Option Addr) (c3 : Nat) (l3 : List Int) (w : World) (hr2 : Kd.C k27 w A2 l2.length l2) (hc2 : l2.length ≤ c2) (hl2 : l2.length ≤ 64)
    (hr3 : Kd.C (Kd.int .i64) w A3 l3.length l3) (hc3 : l3.length ≤ c3) (hl3 : l3.length ≤ 64) :
    Calls Try.prog 24 #[.agg #[.int .i64 a0, .int .i64 a1, .slice A2 l2.length c2, .slice A3 l3.length c3]] w fun e w' => ∃ g2 g3 : Nat,
      e = .returned (.agg #[.int .i64 a0, .int .i64 a1, .slice (some ⟨g2, 0, none⟩) l2.length (l2.length + 1), .slice (some ⟨g3, 0, none⟩) l3.length (l3.length + 1)]) ∧
      Roomy k27 trCells 27 w w' g2 (l2.length + 1) l2 ∧ Roomy (Kd.int .i64) inCells 3 w w' g3 (l3.length + 1) l3 ∧ g2 ≠ g3 ∧ Below w.heap.size w w' := by
  have hA := Aside0.mk (And.intro hr2 hr3)
  clear hr2 hr3
  have k2 := Aside0.mk (fun W (h : Below w.heap.size w W) => cpT_calls A2 c2 l2 W (Kd.C_below hA.out.1 h) hc2 hl2)
  have k3 := Aside0.mk (fun W (h : Below w.heap.size w W) => cpI_calls A3 c3 l3 W (Kd.C_below hA.out.2 h) hc3 hl3)
  clear hA
  go_enter Try.func24, Try.ntmps24
  go_wp2
  have hX := blk_new w (.cells #[.int .i64 a0, .int .i64 a1, .slice A2 l2.length c2, .slice A3 l3.length c3] 25)
  have hX2 := blk_below hX (below_alloc (Below.refl _ _) (.cells #[.int .i64 0, .int .i64 0, .slice none 0 0, .slice none 0 0] 25))
  have hbX : Aside0 (Below w.heap.size w ((w.alloc (.cells #[.int .i64 a0, .int .i64 a1, .slice A2 l2.length c2, .slice A3 l3.length c3] 25)).alloc (.cells #[.int .i64 0, .int .i64 0, .slice none 0 0, .slice none 0 0] 25))) := ⟨((Below.refl _ _).alloc (Nat.le_refl _) _).alloc (by simp) _⟩
  have hsz : Aside0 (((w.alloc (.cells #[.int .i64 a0, .int .i64 a1, .slice A2 l2.length c2, .slice A3 l3.length c3] 25)).alloc (.cells #[.int .i64 0, .int .i64 0, .slice none 0 0, .slice none 0 0] 25)).heap.size = w.heap.size + 2) := ⟨by simp⟩
  have hX3 := Aside0.mk hX2
  have hY := Aside0.mk (blk_new (w.alloc (.cells #[.int .i64 a0, .int .i64 a1, .slice A2 l2.length c2, .slice A3 l3.length c3] 25)) (.cells #[.int .i64 0, .int .i64 0, .slice none 0 0, .slice none 0 0] 25))
  clear hX hX2
  generalize ((w.alloc (.cells #[.int .i64 a0, .int .i64 a1, .slice A2 l2.length c2, .slice A3 l3.length c3] 25)).alloc (.cells #[.int .i64 0, .int .i64 0, .slice none 0 0, .slice none 0 0] 25)) = X at *
  have S0 : ∀ n, (X.drewN n).cell? ⟨w.heap.size, 2, none⟩ = some (.slice A2 l2.length c2) ∧ (X.drewN n).cell? ⟨w.heap.size, 3, none⟩ = some (.slice A3 l3.length c3) := fun n => ⟨by rw [blk_cell (blk_drewN hX3.out n)]; rfl, by rw [blk_cell (blk_drewN hX3.out n)]; rfl⟩
  have c1 : X.cell? ⟨w.heap.size, 2, none⟩ = some (.slice A2 l2.length c2) := (S0 0).1
  have c2' : X.cell? ⟨w.heap.size, 3, none⟩ = some (.slice A3 l3.length c3) := (S0 0).2
  clear S0
  have hcz : Aside0 (w.heap.size < X.heap.size) := ⟨by have := hsz.out; omega⟩
  have q2 := Aside0.mk (k2.out X.drew hbX.out.drew)
  have hbX' : Aside0 (Below w.heap.size w X.drew) := ⟨hbX.out.drew⟩
  have hX4 := Aside0.mk (blk_drew hX3.out)
  have hY4 := Aside0.mk (blk_drew hY.out)
  have hdz : Aside0 (X.drew.heap.size = w.heap.size + 2) := ⟨hsz.out⟩
  clear hbX hX3 hsz k2
  go_region_with (first
    | (go_at_call 39; with_reducible refine q2.out.mono ?_; rintro e w2 ⟨rfl, hr2, hb2⟩
       have hX5 := Aside0.mk (blk_below hX4.out hb2)
       have hY5 := Aside0.mk (blk_below hY4.out hb2)
       have hw2 := Aside0.mk (below_step hbX'.out hb2)
       have hr2' := Aside0.mk hr2
       have e3 := blk_cell hX5.out 3
       have f2 := blk_cell hX5.out 2
       simp at e3 f2
       clear hb2 hr2)
    | (go_at_call 40; with_reducible refine (k3.out _ hw2.out).mono ?_; rintro e w3 ⟨rfl, hr3, hb3⟩
       have hX6 := Aside0.mk (blk_below hX5.out hb3)
       have hY6 := Aside0.mk (blk_below hY5.out hb3)
       have hw3 := Aside0.mk (below_step hw2.out hb3)
       have hr3' := Aside0.mk hr3
       have hr4 := Aside0.mk (hr2'.out.below hb3)
       have i3 := blk_cell hX6.out 3
       have i2 := blk_cell hX6.out 2
       have j3 := blk_frozen hX6.out 3
       have j2 := blk_frozen hX6.out 2
       simp at i3 i2
       clear hb3 hr3 e3 f2))
  all_goals
    have hY7 : Aside0 (w3.heap[w.heap.size + 1]? = some (.cells #[.int .i64 0, .int .i64 0, .slice none 0 0, .slice none 0 0] 25 (0, 0))) := ⟨by have := hY6.out; rwa [World.size_alloc] at this⟩
    have hX7 := Aside0.mk (blk_set (blk_set hX6.out 2 (.slice (some ⟨X.heap.size, 0, none⟩) l2.length (l2.length + 1))) 3 (.slice (some ⟨w2.heap.size, 0, none⟩) l3.length (l3.length + 1)))
    have hY8 := Aside0.mk (blk_far (blk_far hY7.out (p := ⟨w.heap.size, 2, none⟩) (by simp) (.slice (some ⟨X.heap.size, 0, none⟩) l2.length (l2.length + 1))) (p := ⟨w.heap.size, 3, none⟩) (by simp) (.slice (some ⟨w2.heap.size, 0, none⟩) l3.length (l3.length + 1)))
    have hw4 := Aside0.mk ((hw3.out.setCell (p := ⟨w.heap.size, 2, none⟩) (Nat.le_refl _) (.slice (some ⟨X.heap.size, 0, none⟩) l2.length (l2.length + 1))).setCell (p := ⟨w.heap.size, 3, none⟩) (Nat.le_refl _) (.slice (some ⟨w2.heap.size, 0, none⟩) l3.length (l3.length + 1)))
    clear hX6 hY6 hY7 i3 i2 j3 j2 c1 c2' hY hY4 hY5 hX4 hX5
    have hz1 : w.heap.size + 2 ≤ X.heap.size := by have := hdz.out; simp at this; omega
    have hz2 : X.heap.size < w2.heap.size := hr2'.out.lt
    have r2 : Aside0 (Roomy k27 trCells 27 w ((w3.setCell ⟨w.heap.size, 2, none⟩ (.slice (some ⟨X.heap.size, 0, none⟩) l2.length (l2.length + 1))).setCell ⟨w.heap.size, 3, none⟩ (.slice (some ⟨w2.heap.size, 0, none⟩) l3.length (l3.length + 1))) X.heap.size (l2.length + 1) l2) :=
      ⟨((hr4.out.low' (w0 := w) (by show w.heap.size ≤ X.heap.size; omega)).far (p := ⟨w.heap.size, 2, none⟩) (by show X.heap.size ≠ w.heap.size; omega) _).far (p := ⟨w.heap.size, 3, none⟩) (by show X.heap.size ≠ w.heap.size; omega) _⟩
    have r3 : Aside0 (Roomy (Kd.int .i64) inCells 3 w ((w3.setCell ⟨w.heap.size, 2, none⟩ (.slice (some ⟨X.heap.size, 0, none⟩) l2.length (l2.length + 1))).setCell ⟨w.heap.size, 3, none⟩ (.slice (some ⟨w2.heap.size, 0, none⟩) l3.length (l3.length + 1))) w2.heap.size (l3.length + 1) l3) :=
      ⟨((hr3'.out.low' (w0 := w) (by omega)).far (p := ⟨w.heap.size, 2, none⟩) (by show w2.heap.size ≠ w.heap.size; omega) _).far (p := ⟨w.heap.size, 3, none⟩) (by show w2.heap.size ≠ w.heap.size; omega) _⟩
    have hne : Aside0 (X.heap.size ≠ w2.heap.size) := ⟨by omega⟩
    have hlow : Aside0 (w.heap.size + 1 < X.heap.size ∧ w.heap.size + 1 < w2.heap.size) := ⟨by omega⟩
    clear hr2' hr3' hr4 hw3 hbX' hdz hcz k3 q2 hw2 hz1 hz2
    generalize ((w3.setCell ⟨w.heap.size, 2, none⟩ (.slice (some ⟨X.heap.size, 0, none⟩) l2.length (l2.length + 1))).setCell ⟨w.heap.size, 3, none⟩ (.slice (some ⟨w2.heap.size, 0, none⟩) l3.length (l3.length + 1))) = W4 at *
    generalize X.heap.size = z2 at *
    generalize w2.heap.size = z3 at *
    have u0 := blk_cell hX7.out 0
    have u1 := blk_cell hX7.out 1
    have u2 := blk_cell hX7.out 2
    have u3 := blk_cell hX7.out 3
    simp at u0 u1 u2 u3
    have y0 := blk_cell hY8.out 0
    have y1 := blk_cell hY8.out 1
    have y2 := blk_cell hY8.out 2
    have y3 := blk_cell hY8.out 3
    simp at y0 y1 y2 y3
    have v0 := blk_frozen hY8.out 0
    have v1 := blk_frozen hY8.out 1
    have v2 := blk_frozen hY8.out 2
    have v3 := blk_frozen hY8.out 3
    clear hX7 hY8
    go_wp2
    refine bodyPost_ret (v := .agg #[.int .i64 a0, .int .i64 a1, .slice (some ⟨z2, 0, none⟩) l2.length (l2.length + 1), .slice (some ⟨z3, 0, none⟩) l3.length (l3.length + 1)]) (by simp [results, Try.results24, go_sem, y0, y1, y2, y3]) rfl ?_
    have e2 := hlow.out
    exact ⟨z2, z3, rfl, (((r2.out.far (p := ⟨w.heap.size + 1, 0, none⟩) (by show z2 ≠ w.heap.size + 1; omega) _).far (p := ⟨w.heap.size + 1, 1, none⟩) (by show z2 ≠ w.heap.size + 1; omega) _).far (p := ⟨w.heap.size + 1, 2, none⟩) (by show z2 ≠ w.heap.size + 1; omega) _).far (p := ⟨w.heap.size + 1, 3, none⟩) (by show z2 ≠ w.heap.size + 1; omega) _,
      (((r3.out.far (p := ⟨w.heap.size + 1, 0, none⟩) (by show z3 ≠ w.heap.size + 1; omega) _).far (p := ⟨w.heap.size + 1, 1, none⟩) (by show z3 ≠ w.heap.size + 1; omega) _).far (p := ⟨w.heap.size + 1, 2, none⟩) (by show z3 ≠ w.heap.size + 1; omega) _).far (p := ⟨w.heap.size + 1, 3, none⟩) (by show z3 ≠ w.heap.size + 1; omega) _, hne.out,
      (((hw4.out.setCell (p := ⟨w.heap.size + 1, 0, none⟩) (by simp) _).setCell (p := ⟨w.heap.size + 1, 1, none⟩) (by simp) _).setCell (p := ⟨w.heap.size + 1, 2, none⟩) (by simp) _).setCell (p := ⟨w.heap.size + 1, 3, none⟩) (by simp) _⟩
end Go.Proofs.Ythoimnockinfbaa.Pr
