import Derived.Test.YthoimnockinfbaaShOnce
import Derived.Test.YthoimnockinfbaaOpens
set_option linter.unusedVariables false
set_option linter.unusedSimpArgs false
/-! The law ShareOrder, walked. -/
namespace Go.Proofs.Ythoimnockinfbaa.Pr
open Go.RowKit Go.Proofs.YthoimnockinfbaaW.PrintWords Go.Proofs.YthoimnockinfbaaW.PrintLast Go.Proofs.YthoimnockinfbaaW.PrintMore
attribute [local go_sem] Oper.semAt_some

theorem recv_total (h n : Int) (l2 : List S27) (l3 : List Int) (t0 t1 : Int) : ∃ r1 r2 r3 r4 r5, share_Receive.f h n l2 l3 t0 t1 = some (r1, r2, r3, r4, r5) := by
  unfold share_Receive.f; split <;> exact ⟨_, _, _, _, _, rfl⟩
theorem send_total (h n : Int) (l2 : List S27) (l3 : List Int) (a : Int) : ∃ r1 r2 r3 r4 r5 r6 r7, share_Send.f h n l2 l3 a = some (r1, r2, r3, r4, r5, r6, r7) := by
  unfold share_Send.f; split <;> exact ⟨_, _, _, _, _, _, _, rfl⟩
theorem recv_zero {h n : Int} {l2 : List S27} {l3 : List Int} {t0 t1 r1 r2 r5 : Int} {r3 : List S27} {r4 : List Int} (h1 : share_Receive.f h n l2 l3 t0 t1 = some (r1, r2, r3, r4, r5)) (h5 : r5 = 0) : recvE h n l2 l3 ⟨t0, t1⟩ = 0 ∧ r1 = h + t1 ∧ r2 = n ∧ r3 = l2 ∧ r4 = putIn l3 t0 := by
  unfold share_Receive.f at h1
  by_cases he : recvE h n l2 l3 ⟨t0, t1⟩ = 0
  · rw [if_pos he] at h1
    simp only [Option.some.injEq, Prod.mk.injEq] at h1
    exact ⟨he, h1.1.symm, h1.2.1.symm, h1.2.2.1.symm, h1.2.2.2.1.symm⟩
  · rw [if_neg he] at h1
    simp only [Option.some.injEq, Prod.mk.injEq] at h1
    exact absurd (h1.2.2.2.2.trans h5) he
theorem send_zero {h n : Int} {l2 : List S27} {l3 : List Int} {a r1 r2 r5 r6 r7 : Int} {r3 : List S27} {r4 : List Int} (h1 : share_Send.f h n l2 l3 a = some (r1, r2, r3, r4, r5, r6, r7)) (h5 : r7 = 0) : sendE h n l2 l3 a = 0 ∧ r1 = h - a ∧ r2 = n + 1 ∧ r3 = l2 ++ [⟨n, a⟩] ∧ r4 = l3 ∧ r5 = n ∧ r6 = a := by
  unfold share_Send.f at h1
  by_cases he : sendE h n l2 l3 a = 0
  · rw [if_pos he] at h1
    simp only [Option.some.injEq, Prod.mk.injEq] at h1
    exact ⟨he, h1.1.symm, h1.2.1.symm, h1.2.2.1.symm, h1.2.2.2.1.symm, h1.2.2.2.2.1.symm, h1.2.2.2.2.2.1.symm⟩
  · rw [if_neg he] at h1
    simp only [Option.some.injEq, Prod.mk.injEq] at h1
    exact absurd (h1.2.2.2.2.2.2.trans h5) he
theorem recv_of {h n : Int} {l2 : List S27} {l3 : List Int} {t0 t1 r1 r2 r5 : Int} {r3 : List S27} {r4 : List Int} (h1 : share_Receive.f h n l2 l3 t0 t1 = some (r1, r2, r3, r4, r5)) (he : recvE h n l2 l3 ⟨t0, t1⟩ = 0) : r5 = 0 := by
  unfold share_Receive.f at h1
  rw [if_pos he] at h1
  simp only [Option.some.injEq, Prod.mk.injEq] at h1
  exact h1.2.2.2.2.symm
theorem send_of {h n : Int} {l2 : List S27} {l3 : List Int} {a r1 r2 r5 r6 r7 : Int} {r3 : List S27} {r4 : List Int} (h1 : share_Send.f h n l2 l3 a = some (r1, r2, r3, r4, r5, r6, r7)) (he : sendE h n l2 l3 a = 0) : r7 = 0 := by
  unfold share_Send.f at h1
  rw [if_pos he] at h1
  simp only [Option.some.injEq, Prod.mk.injEq] at h1
  exact h1.2.2.2.2.2.2.symm

/-- The plain law. -/
theorem order_one {h n t0 t1 u0 u1 ah an bh bn be ch cn ce dh dn de ae : Int} {out ao bo co dO : List S27} {inn ai bi ci di : List Int}
    (fa : share_Receive.f h n out inn t0 t1 = some (ah, an, ao, ai, ae)) (fb : share_Receive.f ah an ao ai u0 u1 = some (bh, bn, bo, bi, be)) (fc : share_Receive.f h n out inn u0 u1 = some (ch, cn, co, ci, ce)) (fd : share_Receive.f ch cn co ci t0 t1 = some (dh, dn, dO, di, de))
    (h1 : ae = 0) (h2 : be = 0) : ce = 0 ∧ de = 0 ∧ (dh = bh ∧ dn = bn ∧ dO = bo ∧ di = bi) ∧ bo.length ≤ 64 ∧ bi.length ≤ 64 := by
  obtain ⟨ea, rfl, rfl, rfl, rfl⟩ := recv_zero fa h1
  obtain ⟨eb, rfl, rfl, rfl, rfl⟩ := recv_zero fb h2
  obtain ⟨s1, s2, s3⟩ := recv_swap ea eb
  have hc := recv_of fc s1
  obtain ⟨_, rfl, rfl, rfl, rfl⟩ := recv_zero fc hc
  have hd := recv_of fd s2
  obtain ⟨_, rfl, rfl, rfl, rfl⟩ := recv_zero fd hd
  have hs := shOk_small (recv_ok eb)
  refine ⟨hc, hd, ⟨?_, rfl, rfl, s3⟩, hs.1, hs.2⟩
  omega
theorem order_two {h n t0 t1 N ah an ae xh xn v0 v1 xe yh yn ye zh zn w0 w1 ze : Int} {out ao xo yo zo : List S27} {inn ai xi yi zi : List Int}
    (fa : share_Receive.f h n out inn t0 t1 = some (ah, an, ao, ai, ae)) (fx : share_Send.f h n out inn N = some (xh, xn, xo, xi, v0, v1, xe)) (fy : share_Receive.f xh xn xo xi t0 t1 = some (yh, yn, yo, yi, ye)) (fz : share_Send.f ah an ao ai N = some (zh, zn, zo, zi, w0, w1, ze))
    (h1 : ae = 0) (h2 : xe = 0) : ye = 0 ∧ ze = 0 ∧ (v0 = w0 ∧ v1 = w1) ∧ (yh = zh ∧ yn = zn ∧ yo = zo ∧ yi = zi) ∧ zo.length ≤ 64 ∧ zi.length ≤ 64 := by
  obtain ⟨ea, rfl, rfl, rfl, rfl⟩ := recv_zero fa h1
  obtain ⟨ex, rfl, rfl, rfl, rfl, rfl, rfl⟩ := send_zero fx h2
  obtain ⟨s1, s2⟩ := send_swap ea ex
  have hy := recv_of fy s1
  obtain ⟨_, rfl, rfl, rfl, rfl⟩ := recv_zero fy hy
  have hz := send_of fz s2
  obtain ⟨_, rfl, rfl, rfl, rfl, rfl, rfl⟩ := send_zero fz hz
  have hs := shOk_small (send_ok s2)
  refine ⟨hy, hz, ⟨rfl, rfl⟩, ⟨?_, rfl, rfl, rfl⟩, hs.1, hs.2⟩
  omega
theorem ReadsLen {α : Type} {d : Kd α} {w : World} {A : Option Addr} {n : Nat} {l : List α} (h : d.C w A n l) : l.length = n := h.1

set_option maxHeartbeats 32000000 in
set_option maxRecDepth 100000 in
theorem order_walk (a0 a1 : Int) (A2s : Option Addr) (c2s : Nat) (l2s : List S27) (A3s : Option Addr) (c3s : Nat) (l3s : List Int) (t0 t1 o0 o1 a3 : Int) (w : World) (hr2 : Kd.C k27 w A2s l2s.length l2s) (hc2 : l2s.length ≤ c2s)
    (hr3 : Kd.C (Kd.int .i64) w A3s l3s.length l3s) (hc3 : l3s.length ≤ c3s) (h3 : Int64 .u8 a3) :
    Calls Try.prog 6 #[.agg #[.int .i64 a0, .int .i64 a1, .slice A2s l2s.length c2s, .slice A3s l3s.length c3s], .agg #[.int .i64 t0, .int .i64 t1], .agg #[.int .i64 o0, .int .i64 o1], .int .u8 a3] w fun e w' => e = .returned (.bool true) ∧ Below w.heap.size w w' := by
  have hst := Aside0.mk (once_start w a0 a1 A2s l2s.length c2s A3s l3s.length c3s t0 t1 o0 o1)
  have hA := Aside0.mk (And.intro hr2 hr3)
  have bs : Aside0 (Bx (((w.alloc (.cells #[.int .i64 a0, .int .i64 a1, .slice A2s l2s.length c2s, .slice A3s l3s.length c3s] 25)).alloc (.cells #[.int .i64 t0, .int .i64 t1] 27)).alloc (.cells #[.int .i64 o0, .int .i64 o1] 27)) w.heap.size a0 a1 A2s l2s.length c2s l2s A3s l3s.length c3s l3s) :=
    ⟨⟨hst.out.1, Kd.C_below hr2 hst.out.2.2.2, hc2, Kd.C_below hr3 hst.out.2.2.2, hc3⟩⟩
  have hfw := Aside0.mk (few_f a0 a1 l2s l3s)
  have ha3 : 0 ≤ a3 ∧ a3 ≤ 255 := by
    unfold Int64 at h3
    simp [Lit.wf, IntKind.min, IntKind.max, IntKind.bits, IntKind.signed] at h3
    omega
  clear hr2 hr3 h3
  go_enter Try.func6, Try.ntmps6
  go_wp2_with fail
  have kt := Aside0.mk hst.out.2.1
  have ku := Aside0.mk hst.out.2.2.1
  have hb := Aside0.mk hst.out.2.2.2
  clear hst
  refine (chargeparklaw20_head.calls true _ rfl).mono ?_
  rintro e w1 ⟨rfl, hb1⟩
  replace bs := Aside0.mk (bs.out.below hb1)
  replace kt := Aside0.mk (blk_below kt.out hb1)
  replace ku := Aside0.mk (blk_below ku.out hb1)
  replace hb := Aside0.mk (below_step hb.out hb1)
  clear hb1
  have xs0 := blk_cell bs.out.blk 0
  have xs1 := blk_cell bs.out.blk 1
  have xs2 := blk_cell bs.out.blk 2
  have xs3 := blk_cell bs.out.blk 3
  simp at xs0 xs1 xs2 xs3
  go_wp2_with fail
  refine (chargeparkref20_Few.calls a0 a1 A2s c2s l2s A3s c3s l3s _ w1 bs.out.r2 hc2 bs.out.r3 hc3 hfw.out).mono ?_
  rintro e w2 ⟨rfl, hb2⟩
  clear xs0 xs1 xs2 xs3
  replace bs := Aside0.mk (bs.out.below hb2)
  replace kt := Aside0.mk (blk_below kt.out hb2)
  replace ku := Aside0.mk (blk_below ku.out hb2)
  replace hb := Aside0.mk (below_step hb.out hb2)
  clear hb2
  by_cases hf : l2s.length ≤ 80 ∧ l3s.length ≤ 80
  rotate_left
  · have hfd : decide (l2s.length ≤ 80 ∧ l3s.length ≤ 80) = false := decide_eq_false hf
    rw [hfd]
    clear hfd hf
    go_wp2
    go_ret
    exact ⟨rfl, hb.out⟩
  have hfd : decide (l2s.length ≤ 80 ∧ l3s.length ≤ 80) = true := decide_eq_true hf
  rw [hfd]
  have hvf := Aside0.mk (rValid_f a0 a1 l2s l3s hf.1 hf.2 400 (Nat.le_refl _))
  clear hfd hf hfw
  have xs0 := blk_cell bs.out.blk 0
  have xs1 := blk_cell bs.out.blk 1
  have xs2 := blk_cell bs.out.blk 2
  have xs3 := blk_cell bs.out.blk 3
  simp at xs0 xs1 xs2 xs3
  go_wp2_with fail
  refine (chargeparkref20_Valid.calls 400 a0 a1 A2s c2s l2s A3s c3s l3s _ w2 bs.out.r2 hc2 bs.out.r3 hc3 hvf.out).mono ?_
  rintro e w3 ⟨rfl, hb3⟩
  clear xs0 xs1 xs2 xs3
  replace bs := Aside0.mk (bs.out.below hb3)
  replace kt := Aside0.mk (blk_below kt.out hb3)
  replace ku := Aside0.mk (blk_below ku.out hb3)
  replace hb := Aside0.mk (below_step hb.out hb3)
  clear hb3
  cases hv : shOk a0 a1 l2s l3s with
  | false =>
    go_wp2
    go_ret
    exact ⟨rfl, hb.out⟩
  | true =>
    clear hv hvf hA
    obtain ⟨hha, nna, l2a, l3a, ea, fa0⟩ := recv_total a0 a1 l2s l3s t0 t1
    have fa := Aside0.mk fa0
    obtain ⟨hhb, nnb, l2b, l3b, eb, fb0⟩ := recv_total hha nna l2a l3a o0 o1
    have fb := Aside0.mk fb0
    obtain ⟨hhc, nnc, l2c, l3c, ec, fc0⟩ := recv_total a0 a1 l2s l3s o0 o1
    have fc := Aside0.mk fc0
    obtain ⟨hhd, nnd, l2d, l3d, ed, fd0⟩ := recv_total hhc nnc l2c l3c t0 t1
    have fd := Aside0.mk fd0
    obtain ⟨hhx, nnx, l2x, l3x, px, qx, ex, fx0⟩ := send_total a0 a1 l2s l3s (1 + a3)
    have fx := Aside0.mk fx0
    obtain ⟨hhj, nnj, l2j, l3j, ej, fj0⟩ := recv_total hhx nnx l2x l3x t0 t1
    have fj := Aside0.mk fj0
    obtain ⟨hhz, nnz, l2z, l3z, pz, qz, ez, fz0⟩ := send_total hha nna l2a l3a (1 + a3)
    have fz := Aside0.mk fz0
    have hlaw1 := Aside0.mk (order_one fa0 fb0 fc0 fd0)
    have hlaw2 := Aside0.mk (order_two fa0 fx0 fj0 fz0)
    clear fa0 fb0 fc0 fd0 fx0 fj0 fz0
    have xs0 := blk_cell bs.out.blk 0
    have xs1 := blk_cell bs.out.blk 1
    have xs2 := blk_cell bs.out.blk 2
    have xs3 := blk_cell bs.out.blk 3
    have zt0 := blk_cell kt.out 0
    have zt1 := blk_cell kt.out 1
    simp at xs0 xs1 xs2 xs3 zt0 zt1
    go_wp2_with fail
    refine (share_Receive.calls a0 a1 A2s c2s l2s A3s c3s l3s t0 t1 hha nna l2a l3a ea _ bs.out.r2 bs.out.m2 bs.out.r3 bs.out.m3 fa.out).mono ?_
    rintro e w4 ⟨v2, v3, rfl, q2, q3, hbn⟩
    obtain ⟨A2a, c2a, rfl, m2, r2⟩ := Kd.R_reads q2
    obtain ⟨A3a, c3a, rfl, m3, r3⟩ := Kd.R_reads q3
    have rr := Aside0.mk (And.intro r2 (And.intro m2 (And.intro r3 m3)))
    clear xs0 xs1 xs2 xs3 zt0 zt1
    replace bs := Aside0.mk (bs.out.below hbn)
    replace kt := Aside0.mk (blk_below kt.out hbn)
    replace ku := Aside0.mk (blk_below ku.out hbn)
    replace hb := Aside0.mk (below_step hb.out hbn)
    clear q2 q3 r2 m2 r3 m3 hbn
    go_upto_region 5 with (fail)
    have hba : Below w4.heap.size w4 (w4.alloc (.cells #[.int .i64 hha, .int .i64 nna, .slice A2a l2a.length c2a, .slice A3a l3a.length c3a] 25)) := below_alloc (Below.refl _ _) _
    have ba := Aside0.mk (Bx.new (w := w4) (h := hha) (n := nna) (l2 := l2a) (l3 := l3a) rr.out)
    replace bs := Aside0.mk (bs.out.below hba)
    replace kt := Aside0.mk (blk_below kt.out hba)
    replace ku := Aside0.mk (blk_below ku.out hba)
    replace hb := Aside0.mk (below_step hb.out hba)
    clear hba rr
    generalize w4.alloc (.cells #[.int .i64 hha, .int .i64 nna, .slice A2a l2a.length c2a, .slice A3a l3a.length c3a] 25) = X4 at *
    have xa0 := blk_cell ba.out.blk 0
    have xa1 := blk_cell ba.out.blk 1
    have xa2 := blk_cell ba.out.blk 2
    have xa3 := blk_cell ba.out.blk 3
    have zu0 := blk_cell ku.out 0
    have zu1 := blk_cell ku.out 1
    simp at xa0 xa1 xa2 xa3 zu0 zu1
    go_wp2_with fail
    refine (share_Receive.calls hha nna A2a c2a l2a A3a c3a l3a o0 o1 hhb nnb l2b l3b eb _ ba.out.r2 ba.out.m2 ba.out.r3 ba.out.m3 fb.out).mono ?_
    rintro e w5 ⟨v2, v3, rfl, q2, q3, hbn⟩
    obtain ⟨A2b, c2b, rfl, m2, r2⟩ := Kd.R_reads q2
    obtain ⟨A3b, c3b, rfl, m3, r3⟩ := Kd.R_reads q3
    have rr := Aside0.mk (And.intro r2 (And.intro m2 (And.intro r3 m3)))
    clear xa0 xa1 xa2 xa3 zu0 zu1
    replace bs := Aside0.mk (bs.out.below hbn)
    replace ba := Aside0.mk (ba.out.below hbn)
    replace kt := Aside0.mk (blk_below kt.out hbn)
    replace ku := Aside0.mk (blk_below ku.out hbn)
    replace hb := Aside0.mk (below_step hb.out hbn)
    clear q2 q3 r2 m2 r3 m3 hbn
    go_upto_region 6 with (fail)
    have hba : Below w5.heap.size w5 (w5.alloc (.cells #[.int .i64 hhb, .int .i64 nnb, .slice A2b l2b.length c2b, .slice A3b l3b.length c3b] 25)) := below_alloc (Below.refl _ _) _
    have bb := Aside0.mk (Bx.new (w := w5) (h := hhb) (n := nnb) (l2 := l2b) (l3 := l3b) rr.out)
    replace bs := Aside0.mk (bs.out.below hba)
    replace ba := Aside0.mk (ba.out.below hba)
    replace kt := Aside0.mk (blk_below kt.out hba)
    replace ku := Aside0.mk (blk_below ku.out hba)
    replace hb := Aside0.mk (below_step hb.out hba)
    clear hba rr
    generalize w5.alloc (.cells #[.int .i64 hhb, .int .i64 nnb, .slice A2b l2b.length c2b, .slice A3b l3b.length c3b] 25) = X5 at *
    by_cases he1 : ea = 0
    rotate_left
    · have hee : (ea != 0) = true := by simpa using he1
      clear he1
      go_wp2
      go_ret
      exact ⟨rfl, hb.out⟩
    have hee : (ea != 0) = false := by simpa using he1
    by_cases he2 : eb = 0
    rotate_left
    · have hef : (eb != 0) = true := by simpa using he2
      clear he1 he2
      go_wp2
      go_ret
      exact ⟨rfl, hb.out⟩
    have hef : (eb != 0) = false := by simpa using he2
    obtain ⟨hec, hed, ⟨hd1, hd2, hd3, hd4⟩, hbo, hbi⟩ := hlaw1.out he1 he2
    have he1' := Aside0.mk he1
    clear he1 he2 hlaw1
    subst hd1 hd2 hd3 hd4
    have hbo' := Aside0.mk hbo
    have hbi' := Aside0.mk hbi
    clear hbo hbi
    go_upto_region 8 with (fail)
    clear hee hef
    subst hec hed
    have xs0 := blk_cell bs.out.blk 0
    have xs1 := blk_cell bs.out.blk 1
    have xs2 := blk_cell bs.out.blk 2
    have xs3 := blk_cell bs.out.blk 3
    have zu0 := blk_cell ku.out 0
    have zu1 := blk_cell ku.out 1
    simp at xs0 xs1 xs2 xs3 zu0 zu1
    go_wp2_with fail
    refine (share_Receive.calls a0 a1 A2s c2s l2s A3s c3s l3s o0 o1 hhc nnc l2c l3c 0 _ bs.out.r2 bs.out.m2 bs.out.r3 bs.out.m3 fc.out).mono ?_
    rintro e w6 ⟨v2, v3, rfl, q2, q3, hbn⟩
    obtain ⟨A2c, c2c, rfl, m2, r2⟩ := Kd.R_reads q2
    obtain ⟨A3c, c3c, rfl, m3, r3⟩ := Kd.R_reads q3
    have rr := Aside0.mk (And.intro r2 (And.intro m2 (And.intro r3 m3)))
    clear xs0 xs1 xs2 xs3 zu0 zu1
    replace bs := Aside0.mk (bs.out.below hbn)
    replace ba := Aside0.mk (ba.out.below hbn)
    replace bb := Aside0.mk (bb.out.below hbn)
    replace kt := Aside0.mk (blk_below kt.out hbn)
    replace ku := Aside0.mk (blk_below ku.out hbn)
    replace hb := Aside0.mk (below_step hb.out hbn)
    clear q2 q3 r2 m2 r3 m3 hbn
    go_upto_region 9 with (fail)
    have hba : Below w6.heap.size w6 (w6.alloc (.cells #[.int .i64 hhc, .int .i64 nnc, .slice A2c l2c.length c2c, .slice A3c l3c.length c3c] 25)) := below_alloc (Below.refl _ _) _
    have bc := Aside0.mk (Bx.new (w := w6) (h := hhc) (n := nnc) (l2 := l2c) (l3 := l3c) rr.out)
    replace bs := Aside0.mk (bs.out.below hba)
    replace ba := Aside0.mk (ba.out.below hba)
    replace bb := Aside0.mk (bb.out.below hba)
    replace kt := Aside0.mk (blk_below kt.out hba)
    replace ku := Aside0.mk (blk_below ku.out hba)
    replace hb := Aside0.mk (below_step hb.out hba)
    clear hba rr
    generalize w6.alloc (.cells #[.int .i64 hhc, .int .i64 nnc, .slice A2c l2c.length c2c, .slice A3c l3c.length c3c] 25) = X6 at *
    have xc0 := blk_cell bc.out.blk 0
    have xc1 := blk_cell bc.out.blk 1
    have xc2 := blk_cell bc.out.blk 2
    have xc3 := blk_cell bc.out.blk 3
    have zt0 := blk_cell kt.out 0
    have zt1 := blk_cell kt.out 1
    simp at xc0 xc1 xc2 xc3 zt0 zt1
    go_wp2_with fail
    refine (share_Receive.calls hhc nnc A2c c2c l2c A3c c3c l3c t0 t1 hhd nnd l2d l3d 0 _ bc.out.r2 bc.out.m2 bc.out.r3 bc.out.m3 fd.out).mono ?_
    rintro e w7 ⟨v2, v3, rfl, q2, q3, hbn⟩
    obtain ⟨A2d, c2d, rfl, m2, r2⟩ := Kd.R_reads q2
    obtain ⟨A3d, c3d, rfl, m3, r3⟩ := Kd.R_reads q3
    have rr := Aside0.mk (And.intro r2 (And.intro m2 (And.intro r3 m3)))
    clear xc0 xc1 xc2 xc3 zt0 zt1
    replace bs := Aside0.mk (bs.out.below hbn)
    replace ba := Aside0.mk (ba.out.below hbn)
    replace bb := Aside0.mk (bb.out.below hbn)
    replace bc := Aside0.mk (bc.out.below hbn)
    replace kt := Aside0.mk (blk_below kt.out hbn)
    replace ku := Aside0.mk (blk_below ku.out hbn)
    replace hb := Aside0.mk (below_step hb.out hbn)
    clear q2 q3 r2 m2 r3 m3 hbn
    go_upto_region 10 with (fail)
    have hba : Below w7.heap.size w7 (w7.alloc (.cells #[.int .i64 hhd, .int .i64 nnd, .slice A2d l2d.length c2d, .slice A3d l3d.length c3d] 25)) := below_alloc (Below.refl _ _) _
    have bd := Aside0.mk (Bx.new (w := w7) (h := hhd) (n := nnd) (l2 := l2d) (l3 := l3d) rr.out)
    replace bs := Aside0.mk (bs.out.below hba)
    replace ba := Aside0.mk (ba.out.below hba)
    replace bb := Aside0.mk (bb.out.below hba)
    replace bc := Aside0.mk (bc.out.below hba)
    replace kt := Aside0.mk (blk_below kt.out hba)
    replace ku := Aside0.mk (blk_below ku.out hba)
    replace hb := Aside0.mk (below_step hb.out hba)
    clear hba rr
    generalize w7.alloc (.cells #[.int .i64 hhd, .int .i64 nnd, .slice A2d l2d.length c2d, .slice A3d l3d.length c3d] 25) = X7 at *
    have xb0 := blk_cell bb.out.blk 0
    have xb1 := blk_cell bb.out.blk 1
    have xb2 := blk_cell bb.out.blk 2
    have xb3 := blk_cell bb.out.blk 3
    have xd0 := blk_cell bd.out.blk 0
    have xd1 := blk_cell bd.out.blk 1
    have xd2 := blk_cell bd.out.blk 2
    have xd3 := blk_cell bd.out.blk 3
    simp at xb0 xb1 xb2 xb3 xd0 xd1 xd2 xd3
    go_wp2_with fail
    refine (chargeparkref20_Same.calls 200 hhd nnd A2b c2b l2d A3b c3b l3d hhd nnd A2d c2d l2d A3d c3d l3d true _ bb.out.r2 bb.out.m2 bb.out.r3 bb.out.m3 bd.out.r2 bd.out.m2 bd.out.r3 bd.out.m3 (rSame_f _ _ _ _ (by have := hbo'.out; omega) (by have := hbi'.out; omega) 200 (by have := hbo'.out; have := hbi'.out; omega))).mono ?_
    rintro e w8 ⟨rfl, hbn⟩
    clear xb0 xb1 xb2 xb3 xd0 xd1 xd2 xd3
    replace bs := Aside0.mk (bs.out.below hbn)
    replace ba := Aside0.mk (ba.out.below hbn)
    replace bb := Aside0.mk (bb.out.below hbn)
    replace bc := Aside0.mk (bc.out.below hbn)
    replace bd := Aside0.mk (bd.out.below hbn)
    replace kt := Aside0.mk (blk_below kt.out hbn)
    replace ku := Aside0.mk (blk_below ku.out hbn)
    replace hb := Aside0.mk (below_step hb.out hbn)
    clear hbn
    go_upto_region 13 with (fail)
    have xs0 := blk_cell bs.out.blk 0
    have xs1 := blk_cell bs.out.blk 1
    have xs2 := blk_cell bs.out.blk 2
    have xs3 := blk_cell bs.out.blk 3
    simp at xs0 xs1 xs2 xs3
    go_wp2_with fail
    refine (share_Send.calls a0 a1 A2s c2s l2s A3s c3s l3s (1 + a3) hhx nnx l2x l3x px qx ex _ bs.out.r2 bs.out.m2 bs.out.r3 bs.out.m3 fx.out).mono ?_
    rintro e w9 ⟨v2, v3, rfl, q2, q3, hbn⟩
    obtain ⟨A2x, c2x, rfl, m2, r2⟩ := Kd.R_reads q2
    obtain ⟨A3x, c3x, rfl, m3, r3⟩ := Kd.R_reads q3
    have rr := Aside0.mk (And.intro r2 (And.intro m2 (And.intro r3 m3)))
    clear xs0 xs1 xs2 xs3
    replace bs := Aside0.mk (bs.out.below hbn)
    replace ba := Aside0.mk (ba.out.below hbn)
    replace bb := Aside0.mk (bb.out.below hbn)
    replace bc := Aside0.mk (bc.out.below hbn)
    replace bd := Aside0.mk (bd.out.below hbn)
    replace kt := Aside0.mk (blk_below kt.out hbn)
    replace ku := Aside0.mk (blk_below ku.out hbn)
    replace hb := Aside0.mk (below_step hb.out hbn)
    clear q2 q3 r2 m2 r3 m3 hbn
    go_upto_if 91 with (fail)
    have hba : Below w9.heap.size w9 (w9.alloc (.cells #[.int .i64 hhx, .int .i64 nnx, .slice A2x l2x.length c2x, .slice A3x l3x.length c3x] 25)) := below_alloc (Below.refl _ _) _
    have bx := Aside0.mk (Bx.new (w := w9) (h := hhx) (n := nnx) (l2 := l2x) (l3 := l3x) rr.out)
    replace bs := Aside0.mk (bs.out.below hba)
    replace ba := Aside0.mk (ba.out.below hba)
    replace bb := Aside0.mk (bb.out.below hba)
    replace bc := Aside0.mk (bc.out.below hba)
    replace bd := Aside0.mk (bd.out.below hba)
    replace kt := Aside0.mk (blk_below kt.out hba)
    replace ku := Aside0.mk (blk_below ku.out hba)
    replace hb := Aside0.mk (below_step hb.out hba)
    clear hba rr
    have hbt : Below (w9.alloc (.cells #[.int .i64 hhx, .int .i64 nnx, .slice A2x l2x.length c2x, .slice A3x l3x.length c3x] 25)).heap.size (w9.alloc (.cells #[.int .i64 hhx, .int .i64 nnx, .slice A2x l2x.length c2x, .slice A3x l3x.length c3x] 25)) ((w9.alloc (.cells #[.int .i64 hhx, .int .i64 nnx, .slice A2x l2x.length c2x, .slice A3x l3x.length c3x] 25)).alloc (.cells #[.int .i64 px, .int .i64 qx] 27)) := below_alloc (Below.refl _ _) _
    have kx0 := Aside0.mk (blk_new (w9.alloc (.cells #[.int .i64 hhx, .int .i64 nnx, .slice A2x l2x.length c2x, .slice A3x l3x.length c3x] 25)) (.cells #[.int .i64 px, .int .i64 qx] 27))
    replace bs := Aside0.mk (bs.out.below hbt)
    replace ba := Aside0.mk (ba.out.below hbt)
    replace bb := Aside0.mk (bb.out.below hbt)
    replace bc := Aside0.mk (bc.out.below hbt)
    replace bd := Aside0.mk (bd.out.below hbt)
    replace bx := Aside0.mk (bx.out.below hbt)
    replace kt := Aside0.mk (blk_below kt.out hbt)
    replace ku := Aside0.mk (blk_below ku.out hbt)
    replace hb := Aside0.mk (below_step hb.out hbt)
    have kx : Aside0 (((w9.alloc (.cells #[.int .i64 hhx, .int .i64 nnx, .slice A2x l2x.length c2x, .slice A3x l3x.length c3x] 25)).alloc (.cells #[.int .i64 px, .int .i64 qx] 27)).heap[w9.heap.size + 1]? = some (.cells #[.int .i64 px, .int .i64 qx] 27 (0, 0))) := ⟨by have := kx0.out; rwa [World.size_alloc] at this⟩
    clear hbt kx0
    have kxk := kx
    clear kx
    generalize (w9.alloc (.cells #[.int .i64 hhx, .int .i64 nnx, .slice A2x l2x.length c2x, .slice A3x l3x.length c3x] 25)).alloc (.cells #[.int .i64 px, .int .i64 qx] 27) = X9 at *
    by_cases he3 : ex = 0
    rotate_left
    · have hee : (ex != 0) = true := by simpa using he3
      clear he3
      go_wp2
      go_ret
      exact ⟨rfl, hb.out⟩
    have hee : (ex != 0) = false := by simpa using he3
    obtain ⟨hey, hez, ⟨hv1, hv2⟩, ⟨hd1, hd2, hd3, hd4⟩, hbo, hbi⟩ := hlaw2.out he1'.out he3
    clear he3 he1' hlaw2
    subst hd1 hd2 hd3 hd4 hv1 hv2 hey hez
    have hco' := Aside0.mk hbo
    have hci' := Aside0.mk hbi
    clear hbo hbi
    go_upto_region 16 with (fail)
    clear hee
    have xx0 := blk_cell bx.out.blk 0
    have xx1 := blk_cell bx.out.blk 1
    have xx2 := blk_cell bx.out.blk 2
    have xx3 := blk_cell bx.out.blk 3
    have zt0 := blk_cell kt.out 0
    have zt1 := blk_cell kt.out 1
    simp at xx0 xx1 xx2 xx3 zt0 zt1
    go_wp2_with fail
    refine (share_Receive.calls hhx nnx A2x c2x l2x A3x c3x l3x t0 t1 hhj nnj l2j l3j 0 _ bx.out.r2 bx.out.m2 bx.out.r3 bx.out.m3 fj.out).mono ?_
    rintro e w10 ⟨v2, v3, rfl, q2, q3, hbn⟩
    obtain ⟨A2j, c2j, rfl, m2, r2⟩ := Kd.R_reads q2
    obtain ⟨A3j, c3j, rfl, m3, r3⟩ := Kd.R_reads q3
    have rr := Aside0.mk (And.intro r2 (And.intro m2 (And.intro r3 m3)))
    clear xx0 xx1 xx2 xx3 zt0 zt1
    replace bs := Aside0.mk (bs.out.below hbn)
    replace ba := Aside0.mk (ba.out.below hbn)
    replace bb := Aside0.mk (bb.out.below hbn)
    replace bc := Aside0.mk (bc.out.below hbn)
    replace bd := Aside0.mk (bd.out.below hbn)
    replace bx := Aside0.mk (bx.out.below hbn)
    replace kt := Aside0.mk (blk_below kt.out hbn)
    replace ku := Aside0.mk (blk_below ku.out hbn)
    replace kxk := Aside0.mk (blk_below kxk.out hbn)
    replace hb := Aside0.mk (below_step hb.out hbn)
    clear q2 q3 r2 m2 r3 m3 hbn
    go_upto_region 17 with (fail)
    have hba : Below w10.heap.size w10 (w10.alloc (.cells #[.int .i64 hhj, .int .i64 nnj, .slice A2j l2j.length c2j, .slice A3j l3j.length c3j] 25)) := below_alloc (Below.refl _ _) _
    have bj := Aside0.mk (Bx.new (w := w10) (h := hhj) (n := nnj) (l2 := l2j) (l3 := l3j) rr.out)
    replace bs := Aside0.mk (bs.out.below hba)
    replace ba := Aside0.mk (ba.out.below hba)
    replace bb := Aside0.mk (bb.out.below hba)
    replace bc := Aside0.mk (bc.out.below hba)
    replace bd := Aside0.mk (bd.out.below hba)
    replace bx := Aside0.mk (bx.out.below hba)
    replace kt := Aside0.mk (blk_below kt.out hba)
    replace ku := Aside0.mk (blk_below ku.out hba)
    replace kxk := Aside0.mk (blk_below kxk.out hba)
    replace hb := Aside0.mk (below_step hb.out hba)
    clear hba rr
    generalize w10.alloc (.cells #[.int .i64 hhj, .int .i64 nnj, .slice A2j l2j.length c2j, .slice A3j l3j.length c3j] 25) = X10 at *
    have xa0 := blk_cell ba.out.blk 0
    have xa1 := blk_cell ba.out.blk 1
    have xa2 := blk_cell ba.out.blk 2
    have xa3 := blk_cell ba.out.blk 3
    simp at xa0 xa1 xa2 xa3
    go_wp2_with fail
    refine (share_Send.calls hha nna A2a c2a l2a A3a c3a l3a (1 + a3) hhj nnj l2j l3j px qx 0 _ ba.out.r2 ba.out.m2 ba.out.r3 ba.out.m3 fz.out).mono ?_
    rintro e w11 ⟨v2, v3, rfl, q2, q3, hbn⟩
    obtain ⟨A2z, c2z, rfl, m2, r2⟩ := Kd.R_reads q2
    obtain ⟨A3z, c3z, rfl, m3, r3⟩ := Kd.R_reads q3
    have rr := Aside0.mk (And.intro r2 (And.intro m2 (And.intro r3 m3)))
    clear xa0 xa1 xa2 xa3
    replace bs := Aside0.mk (bs.out.below hbn)
    replace ba := Aside0.mk (ba.out.below hbn)
    replace bb := Aside0.mk (bb.out.below hbn)
    replace bc := Aside0.mk (bc.out.below hbn)
    replace bd := Aside0.mk (bd.out.below hbn)
    replace bx := Aside0.mk (bx.out.below hbn)
    replace bj := Aside0.mk (bj.out.below hbn)
    replace kt := Aside0.mk (blk_below kt.out hbn)
    replace ku := Aside0.mk (blk_below ku.out hbn)
    replace kxk := Aside0.mk (blk_below kxk.out hbn)
    replace hb := Aside0.mk (below_step hb.out hbn)
    clear q2 q3 r2 m2 r3 m3 hbn
    go_upto_region 18 with (fail)
    have hba : Below w11.heap.size w11 (w11.alloc (.cells #[.int .i64 hhj, .int .i64 nnj, .slice A2z l2j.length c2z, .slice A3z l3j.length c3z] 25)) := below_alloc (Below.refl _ _) _
    have bz := Aside0.mk (Bx.new (w := w11) (h := hhj) (n := nnj) (l2 := l2j) (l3 := l3j) rr.out)
    replace bs := Aside0.mk (bs.out.below hba)
    replace ba := Aside0.mk (ba.out.below hba)
    replace bb := Aside0.mk (bb.out.below hba)
    replace bc := Aside0.mk (bc.out.below hba)
    replace bd := Aside0.mk (bd.out.below hba)
    replace bx := Aside0.mk (bx.out.below hba)
    replace bj := Aside0.mk (bj.out.below hba)
    replace kt := Aside0.mk (blk_below kt.out hba)
    replace ku := Aside0.mk (blk_below ku.out hba)
    replace kxk := Aside0.mk (blk_below kxk.out hba)
    replace hb := Aside0.mk (below_step hb.out hba)
    clear hba rr
    have hbt : Below (w11.alloc (.cells #[.int .i64 hhj, .int .i64 nnj, .slice A2z l2j.length c2z, .slice A3z l3j.length c3z] 25)).heap.size (w11.alloc (.cells #[.int .i64 hhj, .int .i64 nnj, .slice A2z l2j.length c2z, .slice A3z l3j.length c3z] 25)) ((w11.alloc (.cells #[.int .i64 hhj, .int .i64 nnj, .slice A2z l2j.length c2z, .slice A3z l3j.length c3z] 25)).alloc (.cells #[.int .i64 px, .int .i64 qx] 27)) := below_alloc (Below.refl _ _) _
    have kz0 := Aside0.mk (blk_new (w11.alloc (.cells #[.int .i64 hhj, .int .i64 nnj, .slice A2z l2j.length c2z, .slice A3z l3j.length c3z] 25)) (.cells #[.int .i64 px, .int .i64 qx] 27))
    replace bs := Aside0.mk (bs.out.below hbt)
    replace ba := Aside0.mk (ba.out.below hbt)
    replace bb := Aside0.mk (bb.out.below hbt)
    replace bc := Aside0.mk (bc.out.below hbt)
    replace bd := Aside0.mk (bd.out.below hbt)
    replace bx := Aside0.mk (bx.out.below hbt)
    replace bj := Aside0.mk (bj.out.below hbt)
    replace bz := Aside0.mk (bz.out.below hbt)
    replace kt := Aside0.mk (blk_below kt.out hbt)
    replace ku := Aside0.mk (blk_below ku.out hbt)
    replace kxk := Aside0.mk (blk_below kxk.out hbt)
    replace hb := Aside0.mk (below_step hb.out hbt)
    have kz : Aside0 (((w11.alloc (.cells #[.int .i64 hhj, .int .i64 nnj, .slice A2z l2j.length c2z, .slice A3z l3j.length c3z] 25)).alloc (.cells #[.int .i64 px, .int .i64 qx] 27)).heap[w11.heap.size + 1]? = some (.cells #[.int .i64 px, .int .i64 qx] 27 (0, 0))) := ⟨by have := kz0.out; rwa [World.size_alloc] at this⟩
    clear hbt kz0
    generalize (w11.alloc (.cells #[.int .i64 hhj, .int .i64 nnj, .slice A2z l2j.length c2z, .slice A3z l3j.length c3z] 25)).alloc (.cells #[.int .i64 px, .int .i64 qx] 27) = X11 at *
    have he := eq_tr X11 px qx px qx
    simp at he
    have zx0 := blk_cell kxk.out 0
    have zx1 := blk_cell kxk.out 1
    have zz0 := blk_cell kz.out 0
    have zz1 := blk_cell kz.out 1
    simp at zx0 zx1 zz0 zz1
    have xj0 := blk_cell bj.out.blk 0
    have xj1 := blk_cell bj.out.blk 1
    have xj2 := blk_cell bj.out.blk 2
    have xj3 := blk_cell bj.out.blk 3
    have xz0 := blk_cell bz.out.blk 0
    have xz1 := blk_cell bz.out.blk 1
    have xz2 := blk_cell bz.out.blk 2
    have xz3 := blk_cell bz.out.blk 3
    simp at xj0 xj1 xj2 xj3 xz0 xz1 xz2 xz3
    go_wp2_with fail
    refine (chargeparkref20_Same.calls 200 hhj nnj A2j c2j l2j A3j c3j l3j hhj nnj A2z c2z l2j A3z c3z l3j true _ bj.out.r2 bj.out.m2 bj.out.r3 bj.out.m3 bz.out.r2 bz.out.m2 bz.out.r3 bz.out.m3 (rSame_f _ _ _ _ (by have := hco'.out; omega) (by have := hci'.out; omega) 200 (by have := hco'.out; have := hci'.out; omega))).mono ?_
    rintro e w12 ⟨rfl, hbn⟩
    have hfin := Aside0.mk (below_step hb.out hbn)
    clear hbn he zx0 zx1 zz0 zz1 xj0 xj1 xj2 xj3 xz0 xz1 xz2 xz3
    go_wp2
    go_ret
    exact ⟨rfl, hfin.out⟩
end Go.Proofs.Ythoimnockinfbaa.Pr
