import Derived.Test.YthoimnockinfbaaShAcked
import Derived.Test.YthoimnockinfbaaPr1
import Derived.Test.YthoimnockinfbaaPr5
set_option linter.unusedVariables false
set_option linter.unusedSimpArgs false
/-! The law's head: fixed examples. -/
namespace Go.Proofs.Ythoimnockinfbaa.Pr
open Go.RowKit Go.Proofs.YthoimnockinfbaaW.PrintWords Go.Proofs.YthoimnockinfbaaW.PrintLast Go.Proofs.YthoimnockinfbaaW.PrintMore
attribute [local go_sem] Oper.semAt_some

/-- A share that lies in memory. -/
structure Bx (w : World) (g : Nat) (h n : Int) (A2 : Option Addr) (n2 c2 : Nat) (l2 : List S27) (A3 : Option Addr) (n3 c3 : Nat) (l3 : List Int) : Prop where
  blk : w.heap[g]? = some (.cells #[.int .i64 h, .int .i64 n, .slice A2 n2 c2, .slice A3 n3 c3] 25 (0, 0))
  r2 : Kd.C k27 w A2 n2 l2
  m2 : n2 ≤ c2
  r3 : Kd.C (Kd.int .i64) w A3 n3 l3
  m3 : n3 ≤ c3
theorem Bx.below {w w1 : World} {g : Nat} {h n : Int} {A2 : Option Addr} {n2 c2 : Nat} {l2 : List S27} {A3 : Option Addr} {n3 c3 : Nat} {l3 : List Int} (b : Bx w g h n A2 n2 c2 l2 A3 n3 c3 l3) (hb : Below w.heap.size w w1) : Bx w1 g h n A2 n2 c2 l2 A3 n3 c3 l3 :=
  ⟨blk_below b.blk hb, Kd.C_below b.r2 hb, b.m2, Kd.C_below b.r3 hb, b.m3⟩
theorem Bx.new {w : World} {h n : Int} {A2 : Option Addr} {n2 c2 : Nat} {l2 : List S27} {A3 : Option Addr} {n3 c3 : Nat} {l3 : List Int} (r : Kd.C k27 w A2 n2 l2 ∧ n2 ≤ c2 ∧ Kd.C (Kd.int .i64) w A3 n3 l3 ∧ n3 ≤ c3) :
    Bx (w.alloc (.cells #[.int .i64 h, .int .i64 n, .slice A2 n2 c2, .slice A3 n3 c3] 25)) w.heap.size h n A2 n2 c2 l2 A3 n3 c3 l3 :=
  ⟨blk_new w _, Kd.C_below r.1 (below_alloc (Below.refl _ _) _), r.2.1, Kd.C_below r.2.2.1 (below_alloc (Below.refl _ _) _), r.2.2.2⟩
theorem nilT (w : World) : Kd.C k27 w none ([] : List S27).length [] := ⟨rfl, by simp, fun h => absurd h (by simp)⟩
theorem nilI (w : World) : Kd.C (Kd.int .i64) w none ([] : List Int).length [] := ⟨rfl, by simp, fun h => absurd h (by simp)⟩
theorem eq_tr (w : World) (x0 x1 y0 y1 : Int) : (binOp .eql 27 (.agg #[.int .i64 x0, .int .i64 x1]) (.agg #[.int .i64 y0, .int .i64 y1])).run Try.prog w = .ok (.bool (x0 == y0 && (x1 == y1))) w := by
  simp only [binOp]
  simp [Op.equal, Op.maxDepth, eqA27 9998 w x0 y0 x1 y1]

def chargeparklaw20_head.f : Option Bool := some true

set_option maxHeartbeats 8000000 in
set_option maxRecDepth 100000 in
theorem chargeparklaw20_head.calls (r : Bool) (w : World) (h : chargeparklaw20_head.f = some r) : Calls Try.prog 9 #[] w fun e w' => e = .returned (.bool r) ∧ Below w.heap.size w w' := by
  obtain rfl : true = r := Option.some.inj h
  clear h
  have hb0 := Aside0.mk (Below.refl w.heap.size w)
  have heq := Aside0.mk (fun W => eq_tr W 1 10 1 10)
  go_enter Try.func9, Try.ntmps9
  go_wp2_with fail
  refine (share_Send.calls 32 1 none 0 [] none 0 [] 10 22 2 [⟨1, 10⟩] [] 1 10 0 _ (nilT _) (Nat.le_refl _) (nilI _) (Nat.le_refl _) (by kernel_rfl)).mono ?_
  rintro e w1 ⟨v1, v2, rfl, q1, q2, hb⟩
  obtain ⟨A2a, c2a, rfl, m2, r2⟩ := Kd.R_reads q1
  obtain ⟨A3a, c3a, rfl, m3, r3⟩ := Kd.R_reads q2
  have rr := Aside0.mk (And.intro r2 (And.intro m2 (And.intro r3 m3)))
  replace hb0 := Aside0.mk (below_step hb0.out hb)
  clear q1 q2 r2 m2 r3 m3 hb
  go_upto_region 2 with (fail)
  have hba : Below w1.heap.size w1 (w1.alloc (.cells #[.int .i64 22, .int .i64 2, .slice A2a 1 c2a, .slice A3a 0 c3a] 25)) := below_alloc (Below.refl _ _) _
  have ba := Aside0.mk (Bx.new (w := w1) (h := 22) (n := 2) (l2 := [⟨1, 10⟩]) (l3 := []) rr.out)
  replace hb0 := Aside0.mk (below_step hb0.out hba)
  clear hba rr
  have hbt : Below (w1.alloc (.cells #[.int .i64 22, .int .i64 2, .slice A2a 1 c2a, .slice A3a 0 c3a] 25)).heap.size (w1.alloc (.cells #[.int .i64 22, .int .i64 2, .slice A2a 1 c2a, .slice A3a 0 c3a] 25)) ((w1.alloc (.cells #[.int .i64 22, .int .i64 2, .slice A2a 1 c2a, .slice A3a 0 c3a] 25)).alloc (.cells #[.int .i64 1, .int .i64 10] 27)) := below_alloc (Below.refl _ _) _
  have bt0 := Aside0.mk (blk_new (w1.alloc (.cells #[.int .i64 22, .int .i64 2, .slice A2a 1 c2a, .slice A3a 0 c3a] 25)) (.cells #[.int .i64 1, .int .i64 10] 27))
  replace ba := Aside0.mk (ba.out.below hbt)
  replace hb0 := Aside0.mk (below_step hb0.out hbt)
  have bt : Aside0 (((w1.alloc (.cells #[.int .i64 22, .int .i64 2, .slice A2a 1 c2a, .slice A3a 0 c3a] 25)).alloc (.cells #[.int .i64 1, .int .i64 10] 27)).heap[w1.heap.size + 1]? = some (.cells #[.int .i64 1, .int .i64 10] 27 (0, 0))) := ⟨by have := bt0.out; rwa [World.size_alloc] at this⟩
  clear bt0
  clear hbt
  generalize (w1.alloc (.cells #[.int .i64 22, .int .i64 2, .slice A2a 1 c2a, .slice A3a 0 c3a] 25)).alloc (.cells #[.int .i64 1, .int .i64 10] 27) = X1 at *
  have t0 := blk_cell bt.out 0
  have t1 := blk_cell bt.out 1
  simp at t0 t1
  go_wp2_with fail
  refine (share_Receive.calls 8 1 none 0 [] none 0 [] 1 10 18 1 [] [1] 0 _ (nilT _) (Nat.le_refl _) (nilI _) (Nat.le_refl _) (by kernel_rfl)).mono ?_
  rintro e w2 ⟨v1, v2, rfl, q1, q2, hb⟩
  obtain ⟨A2b, c2b, rfl, m2, r2⟩ := Kd.R_reads q1
  obtain ⟨A3b, c3b, rfl, m3, r3⟩ := Kd.R_reads q2
  have rr := Aside0.mk (And.intro r2 (And.intro m2 (And.intro r3 m3)))
  clear t0 t1
  replace ba := Aside0.mk (ba.out.below hb)
  replace bt := Aside0.mk (blk_below bt.out hb)
  replace hb0 := Aside0.mk (below_step hb0.out hb)
  clear q1 q2 r2 m2 r3 m3 hb
  go_upto_region 3 with (fail)
  have hba : Below w2.heap.size w2 (w2.alloc (.cells #[.int .i64 18, .int .i64 1, .slice A2b 0 c2b, .slice A3b 1 c3b] 25)) := below_alloc (Below.refl _ _) _
  have bb := Aside0.mk (Bx.new (w := w2) (h := 18) (n := 1) (l2 := []) (l3 := [1]) rr.out)
  replace ba := Aside0.mk (ba.out.below hba)
  replace bt := Aside0.mk (blk_below bt.out hba)
  replace hb0 := Aside0.mk (below_step hb0.out hba)
  clear hba rr
  generalize w2.alloc (.cells #[.int .i64 18, .int .i64 1, .slice A2b 0 c2b, .slice A3b 1 c3b] 25) = X2 at *
  have t0 := blk_cell bt.out 0
  have t1 := blk_cell bt.out 1
  simp at t0 t1
  have x0 := blk_cell bb.out.blk 0
  have x1 := blk_cell bb.out.blk 1
  have x2 := blk_cell bb.out.blk 2
  have x3 := blk_cell bb.out.blk 3
  simp at x0 x1 x2 x3
  go_wp2_with fail
  refine (share_Receive.calls 18 1 A2b c2b [] A3b c3b [1] 1 10 0 0 [] [] 5 _ bb.out.r2 bb.out.m2 bb.out.r3 bb.out.m3 (by kernel_rfl)).mono ?_
  rintro e w3 ⟨v1, v2, rfl, q1, q2, hb⟩
  obtain ⟨A2g, c2g, rfl, m2, r2⟩ := Kd.R_reads q1
  obtain ⟨A3g, c3g, rfl, m3, r3⟩ := Kd.R_reads q2
  have rr := Aside0.mk (And.intro r2 (And.intro m2 (And.intro r3 m3)))
  clear t0 t1 x0 x1 x2 x3
  replace ba := Aside0.mk (ba.out.below hb)
  replace bb := Aside0.mk (bb.out.below hb)
  replace bt := Aside0.mk (blk_below bt.out hb)
  replace hb0 := Aside0.mk (below_step hb0.out hb)
  clear q1 q2 r2 m2 r3 m3 hb
  go_upto_region 4 with (fail)
  have hba : Below w3.heap.size w3 (w3.alloc (.cells #[.int .i64 0, .int .i64 0, .slice A2g 0 c2g, .slice A3g 0 c3g] 25)) := below_alloc (Below.refl _ _) _
  have bg := Aside0.mk (Bx.new (w := w3) (h := 0) (n := 0) (l2 := []) (l3 := []) rr.out)
  replace ba := Aside0.mk (ba.out.below hba)
  replace bb := Aside0.mk (bb.out.below hba)
  replace bt := Aside0.mk (blk_below bt.out hba)
  replace hb0 := Aside0.mk (below_step hb0.out hba)
  clear hba rr
  generalize w3.alloc (.cells #[.int .i64 0, .int .i64 0, .slice A2g 0 c2g, .slice A3g 0 c3g] 25) = X3 at *
  have x0 := blk_cell ba.out.blk 0
  have x1 := blk_cell ba.out.blk 1
  have x2 := blk_cell ba.out.blk 2
  have x3 := blk_cell ba.out.blk 3
  simp at x0 x1 x2 x3
  go_wp2_with fail
  refine (share_Acked.calls 22 2 A2a c2a [⟨1, 10⟩] A3a c3a [] 1 22 2 [] [] 0 _ ba.out.r2 ba.out.m2 ba.out.r3 ba.out.m3 (by kernel_rfl)).mono ?_
  rintro e w4 ⟨v1, v2, rfl, q1, q2, hb⟩
  obtain ⟨A2c, c2c, rfl, m2, r2⟩ := Kd.R_reads q1
  obtain ⟨A3c, c3c, rfl, m3, r3⟩ := Kd.R_reads q2
  have rr := Aside0.mk (And.intro r2 (And.intro m2 (And.intro r3 m3)))
  clear x0 x1 x2 x3
  replace ba := Aside0.mk (ba.out.below hb)
  replace bb := Aside0.mk (bb.out.below hb)
  replace bg := Aside0.mk (bg.out.below hb)
  replace bt := Aside0.mk (blk_below bt.out hb)
  replace hb0 := Aside0.mk (below_step hb0.out hb)
  clear q1 q2 r2 m2 r3 m3 hb
  go_upto_region 5 with (fail)
  have hba : Below w4.heap.size w4 (w4.alloc (.cells #[.int .i64 22, .int .i64 2, .slice A2c 0 c2c, .slice A3c 0 c3c] 25)) := below_alloc (Below.refl _ _) _
  have bc := Aside0.mk (Bx.new (w := w4) (h := 22) (n := 2) (l2 := []) (l3 := []) rr.out)
  replace ba := Aside0.mk (ba.out.below hba)
  replace bb := Aside0.mk (bb.out.below hba)
  replace bg := Aside0.mk (bg.out.below hba)
  replace bt := Aside0.mk (blk_below bt.out hba)
  replace hb0 := Aside0.mk (below_step hb0.out hba)
  clear hba rr
  generalize w4.alloc (.cells #[.int .i64 22, .int .i64 2, .slice A2c 0 c2c, .slice A3c 0 c3c] 25) = X4 at *
  have x0 := blk_cell bc.out.blk 0
  have x1 := blk_cell bc.out.blk 1
  have x2 := blk_cell bc.out.blk 2
  have x3 := blk_cell bc.out.blk 3
  simp at x0 x1 x2 x3
  go_wp2_with fail
  refine (share_Acked.calls 22 2 A2c c2c [] A3c c3c [] 1 0 0 [] [] 4 _ bc.out.r2 bc.out.m2 bc.out.r3 bc.out.m3 (by kernel_rfl)).mono ?_
  rintro e w5 ⟨v1, v2, rfl, q1, q2, hb⟩
  obtain ⟨A2i, c2i, rfl, m2, r2⟩ := Kd.R_reads q1
  obtain ⟨A3i, c3i, rfl, m3, r3⟩ := Kd.R_reads q2
  have rr := Aside0.mk (And.intro r2 (And.intro m2 (And.intro r3 m3)))
  clear x0 x1 x2 x3
  replace ba := Aside0.mk (ba.out.below hb)
  replace bb := Aside0.mk (bb.out.below hb)
  replace bg := Aside0.mk (bg.out.below hb)
  replace bc := Aside0.mk (bc.out.below hb)
  replace bt := Aside0.mk (blk_below bt.out hb)
  replace hb0 := Aside0.mk (below_step hb0.out hb)
  clear q1 q2 r2 m2 r3 m3 hb
  go_upto_region 6 with (fail)
  have hba : Below w5.heap.size w5 (w5.alloc (.cells #[.int .i64 0, .int .i64 0, .slice A2i 0 c2i, .slice A3i 0 c3i] 25)) := below_alloc (Below.refl _ _) _
  have bi := Aside0.mk (Bx.new (w := w5) (h := 0) (n := 0) (l2 := []) (l3 := []) rr.out)
  replace ba := Aside0.mk (ba.out.below hba)
  replace bb := Aside0.mk (bb.out.below hba)
  replace bg := Aside0.mk (bg.out.below hba)
  replace bc := Aside0.mk (bc.out.below hba)
  replace bt := Aside0.mk (blk_below bt.out hba)
  replace hb0 := Aside0.mk (below_step hb0.out hba)
  clear hba rr
  generalize w5.alloc (.cells #[.int .i64 0, .int .i64 0, .slice A2i 0 c2i, .slice A3i 0 c3i] 25) = X5 at *
  have x0 := blk_cell bc.out.blk 0
  have x1 := blk_cell bc.out.blk 1
  have x2 := blk_cell bc.out.blk 2
  have x3 := blk_cell bc.out.blk 3
  simp at x0 x1 x2 x3
  go_wp2_with fail
  refine (share_Send.calls 22 2 A2c c2c [] A3c c3c [] 23 0 0 [] [] 0 0 13 _ bc.out.r2 bc.out.m2 bc.out.r3 bc.out.m3 (by kernel_rfl)).mono ?_
  rintro e w6 ⟨v1, v2, rfl, q1, q2, hb⟩
  obtain ⟨A2j, c2j, rfl, m2, r2⟩ := Kd.R_reads q1
  obtain ⟨A3j, c3j, rfl, m3, r3⟩ := Kd.R_reads q2
  have rr := Aside0.mk (And.intro r2 (And.intro m2 (And.intro r3 m3)))
  clear x0 x1 x2 x3
  replace ba := Aside0.mk (ba.out.below hb)
  replace bb := Aside0.mk (bb.out.below hb)
  replace bg := Aside0.mk (bg.out.below hb)
  replace bc := Aside0.mk (bc.out.below hb)
  replace bi := Aside0.mk (bi.out.below hb)
  replace bt := Aside0.mk (blk_below bt.out hb)
  replace hb0 := Aside0.mk (below_step hb0.out hb)
  clear q1 q2 r2 m2 r3 m3 hb
  go_upto_region 7 with (fail)
  have hba : Below w6.heap.size w6 (w6.alloc (.cells #[.int .i64 0, .int .i64 0, .slice A2j 0 c2j, .slice A3j 0 c3j] 25)) := below_alloc (Below.refl _ _) _
  have bj := Aside0.mk (Bx.new (w := w6) (h := 0) (n := 0) (l2 := []) (l3 := []) rr.out)
  replace ba := Aside0.mk (ba.out.below hba)
  replace bb := Aside0.mk (bb.out.below hba)
  replace bg := Aside0.mk (bg.out.below hba)
  replace bc := Aside0.mk (bc.out.below hba)
  replace bi := Aside0.mk (bi.out.below hba)
  replace bt := Aside0.mk (blk_below bt.out hba)
  replace hb0 := Aside0.mk (below_step hb0.out hba)
  clear hba rr
  have hbt : Below (w6.alloc (.cells #[.int .i64 0, .int .i64 0, .slice A2j 0 c2j, .slice A3j 0 c3j] 25)).heap.size (w6.alloc (.cells #[.int .i64 0, .int .i64 0, .slice A2j 0 c2j, .slice A3j 0 c3j] 25)) ((w6.alloc (.cells #[.int .i64 0, .int .i64 0, .slice A2j 0 c2j, .slice A3j 0 c3j] 25)).alloc (.cells #[.int .i64 0, .int .i64 0] 27)) := below_alloc (Below.refl _ _) _
  replace ba := Aside0.mk (ba.out.below hbt)
  replace bb := Aside0.mk (bb.out.below hbt)
  replace bg := Aside0.mk (bg.out.below hbt)
  replace bc := Aside0.mk (bc.out.below hbt)
  replace bi := Aside0.mk (bi.out.below hbt)
  replace bj := Aside0.mk (bj.out.below hbt)
  replace bt := Aside0.mk (blk_below bt.out hbt)
  replace hb0 := Aside0.mk (below_step hb0.out hbt)
  clear hbt
  generalize (w6.alloc (.cells #[.int .i64 0, .int .i64 0, .slice A2j 0 c2j, .slice A3j 0 c3j] 25)).alloc (.cells #[.int .i64 0, .int .i64 0] 27) = X6 at *
  have t0 := blk_cell bt.out 0
  have t1 := blk_cell bt.out 1
  simp at t0 t1
  have he := heq.out X6
  simp at he
  go_upto_region 8 with (fail)
  clear he
  have x0 := blk_cell ba.out.blk 0
  have x1 := blk_cell ba.out.blk 1
  have x2 := blk_cell ba.out.blk 2
  have x3 := blk_cell ba.out.blk 3
  simp at x0 x1 x2 x3
  have t0 := blk_cell bt.out 0
  have t1 := blk_cell bt.out 1
  simp at t0 t1
  go_wp2_with fail
  have hba : Below X6.heap.size X6 (X6.alloc (.cells #[.int .i64 1, .int .i64 10] 27)) := below_alloc (Below.refl _ _) _
  have rl : Kd.C k27 (X6.alloc (.cells #[.int .i64 1, .int .i64 10] 27)) (some ⟨X6.heap.size, 0, none⟩) 1 [⟨1, 10⟩] := C_blk (f := trCells) (xs := [⟨1, 10⟩]) trCells_len (fun x => k27_mk _ x) (blk_new X6 _) rfl (by simp)
  replace ba := Aside0.mk (ba.out.below hba)
  replace bb := Aside0.mk (bb.out.below hba)
  replace bg := Aside0.mk (bg.out.below hba)
  replace bc := Aside0.mk (bc.out.below hba)
  replace bi := Aside0.mk (bi.out.below hba)
  replace bj := Aside0.mk (bj.out.below hba)
  replace bt := Aside0.mk (blk_below bt.out hba)
  replace hb0 := Aside0.mk (below_step hb0.out hba)
  clear hba t0 t1 x0 x1 x2 x3
  generalize X6.alloc (.cells #[.int .i64 1, .int .i64 10] 27) = X7 at *
  refine (chargeparkref20_Same.calls 5 22 2 A2a c2a [⟨1, 10⟩] A3a c3a [] 22 2 (some ⟨X6.heap.size, 0, none⟩) 1 [⟨1, 10⟩] none 0 [] true X7 ba.out.r2 ba.out.m2 ba.out.r3 ba.out.m3 rl (Nat.le_refl _) (nilI _) (Nat.le_refl _) (by kernel_rfl)).mono ?_
  rintro e w7 ⟨rfl, hb⟩
  replace ba := Aside0.mk (ba.out.below hb)
  replace bb := Aside0.mk (bb.out.below hb)
  replace bg := Aside0.mk (bg.out.below hb)
  replace bc := Aside0.mk (bc.out.below hb)
  replace bi := Aside0.mk (bi.out.below hb)
  replace bj := Aside0.mk (bj.out.below hb)
  replace bt := Aside0.mk (blk_below bt.out hb)
  replace hb0 := Aside0.mk (below_step hb0.out hb)
  clear hb rl
  have x0 := blk_cell bb.out.blk 0
  have x1 := blk_cell bb.out.blk 1
  have x2 := blk_cell bb.out.blk 2
  have x3 := blk_cell bb.out.blk 3
  simp at x0 x1 x2 x3
  go_wp2_with fail
  have hba : Below w7.heap.size w7 (w7.alloc (.cells #[.int .i64 1] 3)) := below_alloc (Below.refl _ _) _
  have rl : Kd.C (Kd.int .i64) (w7.alloc (.cells #[.int .i64 1] 3)) (some ⟨w7.heap.size, 0, none⟩) 1 [1] := C_blk (f := inCells) (xs := [1]) inCells_len (fun x => rfl) (blk_new w7 _) rfl (by simp)
  replace ba := Aside0.mk (ba.out.below hba)
  replace bb := Aside0.mk (bb.out.below hba)
  replace bg := Aside0.mk (bg.out.below hba)
  replace bc := Aside0.mk (bc.out.below hba)
  replace bi := Aside0.mk (bi.out.below hba)
  replace bj := Aside0.mk (bj.out.below hba)
  replace bt := Aside0.mk (blk_below bt.out hba)
  replace hb0 := Aside0.mk (below_step hb0.out hba)
  clear hba x0 x1 x2 x3
  generalize w7.alloc (.cells #[.int .i64 1] 3) = X8 at *
  refine (chargeparkref20_Same.calls 5 18 1 A2b c2b [] A3b c3b [1] 18 1 none 0 [] (some ⟨w7.heap.size, 0, none⟩) 1 [1] true X8 bb.out.r2 bb.out.m2 bb.out.r3 bb.out.m3 (nilT _) (Nat.le_refl _) rl (Nat.le_refl _) (by kernel_rfl)).mono ?_
  rintro e w8 ⟨rfl, hb⟩
  replace ba := Aside0.mk (ba.out.below hb)
  replace bb := Aside0.mk (bb.out.below hb)
  replace bg := Aside0.mk (bg.out.below hb)
  replace bc := Aside0.mk (bc.out.below hb)
  replace bi := Aside0.mk (bi.out.below hb)
  replace bj := Aside0.mk (bj.out.below hb)
  replace bt := Aside0.mk (blk_below bt.out hb)
  replace hb0 := Aside0.mk (below_step hb0.out hb)
  clear hb rl
  have x0 := blk_cell bc.out.blk 0
  have x1 := blk_cell bc.out.blk 1
  have x2 := blk_cell bc.out.blk 2
  have x3 := blk_cell bc.out.blk 3
  simp at x0 x1 x2 x3
  go_wp2_with fail
  refine (chargeparkref20_Same.calls 5 22 2 A2c c2c [] A3c c3c [] 22 2 none 0 [] none 0 [] true w8 bc.out.r2 bc.out.m2 bc.out.r3 bc.out.m3 (nilT _) (Nat.le_refl _) (nilI _) (Nat.le_refl _) (by kernel_rfl)).mono ?_
  rintro e w9 ⟨rfl, hb⟩
  clear x0 x1 x2 x3
  replace ba := Aside0.mk (ba.out.below hb)
  replace bb := Aside0.mk (bb.out.below hb)
  replace bg := Aside0.mk (bg.out.below hb)
  replace bc := Aside0.mk (bc.out.below hb)
  replace bi := Aside0.mk (bi.out.below hb)
  replace bj := Aside0.mk (bj.out.below hb)
  replace bt := Aside0.mk (blk_below bt.out hb)
  replace hb0 := Aside0.mk (below_step hb0.out hb)
  clear hb
  have x0 := blk_cell ba.out.blk 0
  have x1 := blk_cell ba.out.blk 1
  have x2 := blk_cell ba.out.blk 2
  have x3 := blk_cell ba.out.blk 3
  simp at x0 x1 x2 x3
  go_wp2_with fail
  refine (share_Valid.calls 22 2 A2a c2a [⟨1, 10⟩] A3a c3a [] true w9 ba.out.r2 ba.out.m2 ba.out.r3 ba.out.m3 (by kernel_rfl)).mono ?_
  rintro e w10 ⟨rfl, hb⟩
  clear x0 x1 x2 x3
  replace ba := Aside0.mk (ba.out.below hb)
  replace bb := Aside0.mk (bb.out.below hb)
  replace bg := Aside0.mk (bg.out.below hb)
  replace bc := Aside0.mk (bc.out.below hb)
  replace bi := Aside0.mk (bi.out.below hb)
  replace bj := Aside0.mk (bj.out.below hb)
  replace bt := Aside0.mk (blk_below bt.out hb)
  replace hb0 := Aside0.mk (below_step hb0.out hb)
  clear hb
  have x0 := blk_cell bb.out.blk 0
  have x1 := blk_cell bb.out.blk 1
  have x2 := blk_cell bb.out.blk 2
  have x3 := blk_cell bb.out.blk 3
  simp at x0 x1 x2 x3
  go_wp2_with fail
  refine (share_Valid.calls 18 1 A2b c2b [] A3b c3b [1] true w10 bb.out.r2 bb.out.m2 bb.out.r3 bb.out.m3 (by kernel_rfl)).mono ?_
  rintro e w11 ⟨rfl, hb⟩
  clear x0 x1 x2 x3
  replace ba := Aside0.mk (ba.out.below hb)
  replace bb := Aside0.mk (bb.out.below hb)
  replace bg := Aside0.mk (bg.out.below hb)
  replace bc := Aside0.mk (bc.out.below hb)
  replace bi := Aside0.mk (bi.out.below hb)
  replace bj := Aside0.mk (bj.out.below hb)
  replace bt := Aside0.mk (blk_below bt.out hb)
  replace hb0 := Aside0.mk (below_step hb0.out hb)
  clear hb
  go_wp2_with fail
  refine (share_Valid.calls 0 0 none 0 [] none 0 [] false w11 (nilT _) (Nat.le_refl _) (nilI _) (Nat.le_refl _) (by kernel_rfl)).mono ?_
  rintro e w12 ⟨rfl, hb⟩
  replace ba := Aside0.mk (ba.out.below hb)
  replace bb := Aside0.mk (bb.out.below hb)
  replace bg := Aside0.mk (bg.out.below hb)
  replace bc := Aside0.mk (bc.out.below hb)
  replace bi := Aside0.mk (bi.out.below hb)
  replace bj := Aside0.mk (bj.out.below hb)
  replace bt := Aside0.mk (blk_below bt.out hb)
  replace hb0 := Aside0.mk (below_step hb0.out hb)
  clear hb
  go_wp2
  go_ret
  exact ⟨rfl, hb0.out⟩
end Go.Proofs.Ythoimnockinfbaa.Pr
