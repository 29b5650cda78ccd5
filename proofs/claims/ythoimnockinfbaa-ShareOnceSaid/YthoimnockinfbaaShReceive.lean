import Derived.Test.YthoimnockinfbaaShSend
import Derived.Test.YthoimnockinfbaaShBs
import Derived.Test.YthoimnockinfbaaInsI
set_option linter.unusedVariables false
set_option linter.unusedSimpArgs false
/-! share.Receive. -/
namespace Go.Proofs.Ythoimnockinfbaa.Pr
open Go.RowKit Go.Proofs.YthoimnockinfbaaW.PrintWords Go.Proofs.YthoimnockinfbaaW.PrintLast Go.Proofs.YthoimnockinfbaaW.PrintMore
attribute [local go_sem] Oper.semAt_some

def recvE (h n : Int) (out : List S27) (inn : List Int) (t : S27) : Int :=
  if shOk h n out inn = true then if trOk t then if t.f0 ∈ inn then 5 else if 64 ≤ inn.length then 10 else if h + t.f1 > 1000 then 3 else 0 else 1 else 1
def putIn (inn : List Int) (x : Int) : List Int := inn.take (posOf inn x) ++ x :: inn.drop (posOf inn x)
def share_Receive.f (h n : Int) (out : List S27) (inn : List Int) (t0 t1 : Int) : Option (Int × Int × List S27 × List Int × Int) :=
  if recvE h n out inn ⟨t0, t1⟩ = 0 then some (h + t1, n, out, putIn inn t0, 0) else some (0, 0, [], [], recvE h n out inn ⟨t0, t1⟩)

structure RecvW (w X : World) (a0 a1 : Int) (A2 : Option Addr) (n2 c2 : Nat) (A3 : Option Addr) (n3 c3 : Nat) (t0 t1 : Int) : Prop where
  s : X.heap[w.heap.size]? = some (.cells #[.int .i64 a0, .int .i64 a1, .slice A2 n2 c2, .slice A3 n3 c3] 25 (0, 0))
  t : X.heap[w.heap.size + 1]? = some (.cells #[.int .i64 t0, .int .i64 t1] 27 (0, 0))
  r : X.heap[w.heap.size + 2]? = some (.cells #[.int .i64 0, .int .i64 0, .slice none 0 0, .slice none 0 0] 25 (0, 0))
  b : Below w.heap.size w X
theorem RecvW.below {w X : World} {a0 a1 : Int} {A2 : Option Addr} {n2 c2 : Nat} {A3 : Option Addr} {n3 c3 : Nat} {t0 t1 : Int} {X2 : World} (h : RecvW w X a0 a1 A2 n2 c2 A3 n3 c3 t0 t1) (hb : Below X.heap.size X X2) : RecvW w X2 a0 a1 A2 n2 c2 A3 n3 c3 t0 t1 :=
  ⟨blk_below h.s hb, blk_below h.t hb, blk_below h.r hb, below_step h.b hb⟩
theorem RecvW.drewN {w X : World} {a0 a1 : Int} {A2 : Option Addr} {n2 c2 : Nat} {A3 : Option Addr} {n3 c3 : Nat} {t0 t1 : Int} (h : RecvW w X a0 a1 A2 n2 c2 A3 n3 c3 t0 t1) (n : Nat) : RecvW w (X.drewN n) a0 a1 A2 n2 c2 A3 n3 c3 t0 t1 := ⟨h.s, h.t, h.r, pw_below_drewN h.b n⟩
theorem RecvW.grown {w X : World} {a0 a1 : Int} {A2 : Option Addr} {n2 c2 : Nat} {A3 : Option Addr} {n3 c3 : Nat} {t0 t1 : Int} {X2 : World} (h : RecvW w X a0 a1 A2 n2 c2 A3 n3 c3 t0 t1) {row : Option Nat} (hg : X.grownBy X2 row) (h0 : ∀ g, row = some g → w.heap.size + 2 < g) : RecvW w X2 a0 a1 A2 n2 c2 A3 n3 c3 t0 t1 :=
  ⟨blk_grown h.s hg (fun e => by have := h0 _ e.symm; omega), blk_grown h.t hg (fun e => by have := h0 _ e.symm; omega), blk_grown h.r hg (fun e => by have := h0 _ e.symm; omega),
    ⟨hg.os.trans h.b.os, hg.tape.trans h.b.tape, hg.output.trans h.b.output, Nat.le_trans h.b.size hg.size, fun k hk => (hg.block k (by have := h.b.size; omega) (fun e => by have := h0 _ e.symm; omega)).trans (h.b.block k hk)⟩⟩
theorem RecvW.put {w X : World} {a0 a1 : Int} {A2 : Option Addr} {n2 c2 : Nat} {A3 : Option Addr} {n3 c3 : Nat} {t0 t1 : Int} (h : RecvW w X a0 a1 A2 n2 c2 A3 n3 c3 t0 t1) (b0 b1 : Int) (B2 : Option Addr) (m2 d2 : Nat) (B3 : Option Addr) (m3 d3 : Nat) :
    RecvW w ((((X.setCell ⟨w.heap.size, 0, none⟩ (.int .i64 b0)).setCell ⟨w.heap.size, 1, none⟩ (.int .i64 b1)).setCell ⟨w.heap.size, 2, none⟩ (.slice B2 m2 d2)).setCell ⟨w.heap.size, 3, none⟩ (.slice B3 m3 d3)) b0 b1 B2 m2 d2 B3 m3 d3 t0 t1 := by
  refine ⟨blk_set (blk_set (blk_set (blk_set h.s 0 _) 1 _) 2 _) 3 _, ?_, ?_, ?_⟩
  · exact blk_far (blk_far (blk_far (blk_far h.t (by simp) _) (by simp) _) (by simp) _) (by simp) _
  · exact blk_far (blk_far (blk_far (blk_far h.r (by simp) _) (by simp) _) (by simp) _) (by simp) _
  · exact (((h.b.setCell (Nat.le_refl _) _).setCell (Nat.le_refl _) _).setCell (Nat.le_refl _) _).setCell (Nat.le_refl _) _
theorem RecvW.put0 {w X : World} {a0 a1 : Int} {A2 : Option Addr} {n2 c2 : Nat} {A3 : Option Addr} {n3 c3 : Nat} {t0 t1 : Int} (h : RecvW w X a0 a1 A2 n2 c2 A3 n3 c3 t0 t1) (b0 : Int) : RecvW w (X.setCell ⟨w.heap.size, 0, none⟩ (.int .i64 b0)) b0 a1 A2 n2 c2 A3 n3 c3 t0 t1 :=
  ⟨blk_set h.s 0 _, blk_far h.t (by simp) _, blk_far h.r (by simp) _, h.b.setCell (Nat.le_refl _) _⟩
theorem RecvW.put3 {w X : World} {a0 a1 : Int} {A2 : Option Addr} {n2 c2 : Nat} {A3 : Option Addr} {n3 c3 : Nat} {t0 t1 : Int} (h : RecvW w X a0 a1 A2 n2 c2 A3 n3 c3 t0 t1) (B3 : Option Addr) (m3 d3 : Nat) : RecvW w (X.setCell ⟨w.heap.size, 3, none⟩ (.slice B3 m3 d3)) a0 a1 A2 n2 c2 B3 m3 d3 t0 t1 :=
  ⟨blk_set h.s 3 _, blk_far h.t (by simp) _, blk_far h.r (by simp) _, h.b.setCell (Nat.le_refl _) _⟩
theorem RecvW.fin {w X : World} {a0 a1 : Int} {A2 : Option Addr} {n2 c2 : Nat} {A3 : Option Addr} {n3 c3 : Nat} {t0 t1 : Int} (h : RecvW w X a0 a1 A2 n2 c2 A3 n3 c3 t0 t1) (u0 u1 u2 u3 : Value) :
    Below w.heap.size w ((((X.setCell ⟨w.heap.size + 2, 0, none⟩ u0).setCell ⟨w.heap.size + 2, 1, none⟩ u1).setCell ⟨w.heap.size + 2, 2, none⟩ u2).setCell ⟨w.heap.size + 2, 3, none⟩ u3) :=
  (((h.b.setCell (by show w.heap.size ≤ w.heap.size + 2; omega) _).setCell (by show w.heap.size ≤ w.heap.size + 2; omega) _).setCell (by show w.heap.size ≤ w.heap.size + 2; omega) _).setCell (by show w.heap.size ≤ w.heap.size + 2; omega) _
theorem RecvW.start (w : World) (a0 a1 : Int) (A2 : Option Addr) (n2 c2 : Nat) (A3 : Option Addr) (n3 c3 : Nat) (t0 t1 : Int) :
    RecvW w (((w.alloc (.cells #[.int .i64 a0, .int .i64 a1, .slice A2 n2 c2, .slice A3 n3 c3] 25)).alloc (.cells #[.int .i64 t0, .int .i64 t1] 27)).alloc (.cells #[.int .i64 0, .int .i64 0, .slice none 0 0, .slice none 0 0] 25)) a0 a1 A2 n2 c2 A3 n3 c3 t0 t1 := by
  have h1 := blk_new w (.cells #[.int .i64 a0, .int .i64 a1, .slice A2 n2 c2, .slice A3 n3 c3] 25)
  have h2 := blk_new (w.alloc (.cells #[.int .i64 a0, .int .i64 a1, .slice A2 n2 c2, .slice A3 n3 c3] 25)) (.cells #[.int .i64 t0, .int .i64 t1] 27)
  have h3 := blk_new ((w.alloc (.cells #[.int .i64 a0, .int .i64 a1, .slice A2 n2 c2, .slice A3 n3 c3] 25)).alloc (.cells #[.int .i64 t0, .int .i64 t1] 27)) (.cells #[.int .i64 0, .int .i64 0, .slice none 0 0, .slice none 0 0] 25)
  rw [World.size_alloc] at h2
  rw [World.size_alloc, World.size_alloc] at h3
  refine ⟨?_, ?_, h3, ?_⟩
  · exact blk_below (blk_below h1 (below_alloc (Below.refl _ _) _)) (below_alloc (Below.refl _ _) _)
  · exact blk_below h2 (below_alloc (Below.refl _ _) _)
  · exact ((((Below.refl _ _).alloc (Nat.le_refl _) _).alloc (by simp) _).alloc (by simp; omega) _)

set_option maxHeartbeats 4000000 in
theorem recv_no (a0 a1 : Int) (A2 : Option Addr) (c2 : Nat) (l2 : List S27) (A3 : Option Addr) (c3 : Nat) (l3 : List Int) (t0 t1 code : Int) (w : World) (hr2 : Kd.C k27 w A2 l2.length l2) (hc2 : l2.length ≤ c2)
    (hr3 : Kd.C (Kd.int .i64) w A3 l3.length l3) (hc3 : l3.length ≤ c3) (he : recvE a0 a1 l2 l3 ⟨t0, t1⟩ = code) (hcode : code ≠ 0) :
    Calls Try.prog 13 #[.agg #[.int .i64 a0, .int .i64 a1, .slice A2 l2.length c2, .slice A3 l3.length c3], .agg #[.int .i64 t0, .int .i64 t1]] w fun e w' =>
      e = .returned (.tuple #[.agg #[.int .i64 0, .int .i64 0, .slice none 0 0, .slice none 0 0], .int .i64 code]) ∧ Below w.heap.size w w' := by
  have hA := Aside0.mk (And.intro hr2 hr3)
  have hv := Aside0.mk (fun W (hW : Below w.heap.size w W) => share_Valid.calls a0 a1 A2 c2 l2 A3 c3 l3 (shOk a0 a1 l2 l3) W (Kd.C_below hA.out.1 hW) hc2 (Kd.C_below hA.out.2 hW) hc3 rfl)
  have hq := Aside0.mk (isTransfer_f t0 t1)
  have hs := Aside0.mk (RecvW.start w a0 a1 A2 l2.length c2 A3 l3.length c3 t0 t1)
  have hbd := Aside0.mk (fun (h : shOk a0 a1 l2 l3 = true) => shOk_bounds h)
  unfold recvE at he
  have he' := Aside0.mk he
  clear he hr2 hr3
  cases hok : shOk a0 a1 l2 l3 with
  | false =>
    rw [hok] at hv he'
    have hce : code = 1 := by simpa using he'.out.symm
    subst hce
    clear he' hcode
    clear hok
    go_enter Try.func13, Try.ntmps13
    go_wp2_with fail
    refine (hv.out _ hs.out.b).mono ?_
    rintro e w2 ⟨rfl, hb2⟩
    have hs2 := Aside0.mk (hs.out.below hb2)
    clear hb2 hs hv
    have y0 := blk_cell hs2.out.r 0
    have y1 := blk_cell hs2.out.r 1
    have y2 := blk_cell hs2.out.r 2
    have y3 := blk_cell hs2.out.r 3
    simp at y0 y1 y2 y3
    have v0 := blk_frozen hs2.out.r 0
    have v1 := blk_frozen hs2.out.r 1
    have v2 := blk_frozen hs2.out.r 2
    have v3 := blk_frozen hs2.out.r 3
    go_wp2
    refine bodyPost_ret (v := .tuple #[.agg #[.int .i64 0, .int .i64 0, .slice none 0 0, .slice none 0 0], .int .i64 1]) (by simp [results, Try.results13, go_sem, y0, y1, y2, y3]) rfl ⟨rfl, ?_⟩
    exact hs2.out.fin _ _ _ _
  | true =>
    obtain ⟨⟨⟨p0, p1⟩, p2, p3⟩, _, ho3, _⟩ := hbd.out hok
    have hl3 := ordB_len ho3
    have hinc : Inc l3 := by
      unfold ordB at ho3
      by_cases h3 : incB 1000000 0 l3 = true
      · exact (inc_of_incB _ _ _ h3).2
      · rw [if_neg h3] at ho3; cases ho3
    obtain ⟨hbs0, hpl⟩ := bs_f l3 t0 (by omega) hinc
    have hbs := Aside0.mk hbs0
    rw [hok] at hv he'
    simp only [if_true] at he'
    clear hok ho3 hinc hbs0 hbd
    by_cases k1 : trOk ⟨t0, t1⟩
    · rw [decide_eq_true k1] at hq
      simp only [if_pos k1] at he'
      obtain ⟨⟨k1a, k1b⟩, k1c, k1d⟩ := k1
      have k1d' : t1 ≤ 1000 := k1d
      have k1c' : 1 ≤ t1 := k1c
      clear k1a k1b k1c k1d
      by_cases k2 : t0 ∈ l3
      · simp only [if_pos k2] at he'
        rw [decide_eq_true k2] at hbs
        clear k2
        have hce : code = 5 := by simpa using he'.out.symm
        subst hce
        clear he' hcode
        go_enter Try.func13, Try.ntmps13
        go_wp2_with fail
        refine (hv.out _ hs.out.b).mono ?_
        rintro e w2 ⟨rfl, hb2⟩
        have hs2 := Aside0.mk (hs.out.below hb2)
        clear hb2 hs hv
        have z0 := blk_cell hs2.out.t 0
        have z1 := blk_cell hs2.out.t 1
        simp at z0 z1
        go_wp2_with fail
        refine (share_isTransfer.calls _ _ _ _ hq.out).mono ?_
        rintro e w3 ⟨rfl, hb3⟩
        have hs3 := Aside0.mk (hs2.out.below hb3)
        clear hs2 hq hb3 z0 z1
        have x0 := blk_cell hs3.out.s 0
        have x1 := blk_cell hs3.out.s 1
        have x2 := blk_cell hs3.out.s 2
        have x3 := blk_cell hs3.out.s 3
        have z0 := blk_cell hs3.out.t 0
        have z1 := blk_cell hs3.out.t 1
        have y0 := blk_cell hs3.out.r 0
        have y1 := blk_cell hs3.out.r 1
        have y2 := blk_cell hs3.out.r 2
        have y3 := blk_cell hs3.out.r 3
        simp at x0 x1 x2 x3 z0 z1 y0 y1 y2 y3
        go_wp2_with fail
        refine (slices_BinarySearch_int_int.calls _ A3 c3 l3 t0 _ _ _ (Kd.C_below hA.out.2 hs3.out.b) hc3 hbs.out).mono ?_
        rintro e w4 ⟨rfl, ⟨⟨n, rfl⟩⟩⟩
        have hs4 := Aside0.mk (hs3.out.drewN n)
        clear hs3 hbs x0 x1 x2 x3 y0 y1 y2 y3 z0 z1
        generalize w3.drewN n = w4 at *
        have x0 := blk_cell hs4.out.s 0
        have x1 := blk_cell hs4.out.s 1
        have x2 := blk_cell hs4.out.s 2
        have x3 := blk_cell hs4.out.s 3
        have z0 := blk_cell hs4.out.t 0
        have z1 := blk_cell hs4.out.t 1
        have y0 := blk_cell hs4.out.r 0
        have y1 := blk_cell hs4.out.r 1
        have y2 := blk_cell hs4.out.r 2
        have y3 := blk_cell hs4.out.r 3
        simp at x0 x1 x2 x3 z0 z1 y0 y1 y2 y3
        have v0 := blk_frozen hs4.out.r 0
        have v1 := blk_frozen hs4.out.r 1
        have v2 := blk_frozen hs4.out.r 2
        have v3 := blk_frozen hs4.out.r 3
        go_wp2
        refine bodyPost_ret (v := .tuple #[.agg #[.int .i64 0, .int .i64 0, .slice none 0 0, .slice none 0 0], .int .i64 5]) (by simp [results, Try.results13, go_sem, y0, y1, y2, y3]) rfl ⟨rfl, ?_⟩
        exact hs4.out.fin _ _ _ _
      · simp only [if_neg k2] at he'
        rw [decide_eq_false k2] at hbs
        clear k2
        by_cases k3 : 64 ≤ l3.length
        · simp only [if_pos k3] at he'
          have k3' : (64 : Int) ≤ (l3.length : Int) := by omega
          have hce : code = 10 := by simpa using he'.out.symm
          subst hce
          clear he' hcode
          go_enter Try.func13, Try.ntmps13
          go_wp2_with fail
          refine (hv.out _ hs.out.b).mono ?_
          rintro e w2 ⟨rfl, hb2⟩
          have hs2 := Aside0.mk (hs.out.below hb2)
          clear hb2 hs hv
          have z0 := blk_cell hs2.out.t 0
          have z1 := blk_cell hs2.out.t 1
          simp at z0 z1
          go_wp2_with fail
          refine (share_isTransfer.calls _ _ _ _ hq.out).mono ?_
          rintro e w3 ⟨rfl, hb3⟩
          have hs3 := Aside0.mk (hs2.out.below hb3)
          clear hs2 hq hb3 z0 z1
          have x0 := blk_cell hs3.out.s 0
          have x1 := blk_cell hs3.out.s 1
          have x2 := blk_cell hs3.out.s 2
          have x3 := blk_cell hs3.out.s 3
          have z0 := blk_cell hs3.out.t 0
          have z1 := blk_cell hs3.out.t 1
          have y0 := blk_cell hs3.out.r 0
          have y1 := blk_cell hs3.out.r 1
          have y2 := blk_cell hs3.out.r 2
          have y3 := blk_cell hs3.out.r 3
          simp at x0 x1 x2 x3 z0 z1 y0 y1 y2 y3
          go_wp2_with fail
          refine (slices_BinarySearch_int_int.calls _ A3 c3 l3 t0 _ _ _ (Kd.C_below hA.out.2 hs3.out.b) hc3 hbs.out).mono ?_
          rintro e w4 ⟨rfl, ⟨⟨n, rfl⟩⟩⟩
          have hs4 := Aside0.mk (hs3.out.drewN n)
          clear hs3 hbs x0 x1 x2 x3 y0 y1 y2 y3 z0 z1
          generalize w3.drewN n = w4 at *
          have x0 := blk_cell hs4.out.s 0
          have x1 := blk_cell hs4.out.s 1
          have x2 := blk_cell hs4.out.s 2
          have x3 := blk_cell hs4.out.s 3
          have z0 := blk_cell hs4.out.t 0
          have z1 := blk_cell hs4.out.t 1
          have y0 := blk_cell hs4.out.r 0
          have y1 := blk_cell hs4.out.r 1
          have y2 := blk_cell hs4.out.r 2
          have y3 := blk_cell hs4.out.r 3
          simp at x0 x1 x2 x3 z0 z1 y0 y1 y2 y3
          have v0 := blk_frozen hs4.out.r 0
          have v1 := blk_frozen hs4.out.r 1
          have v2 := blk_frozen hs4.out.r 2
          have v3 := blk_frozen hs4.out.r 3
          go_wp2
          refine bodyPost_ret (v := .tuple #[.agg #[.int .i64 0, .int .i64 0, .slice none 0 0, .slice none 0 0], .int .i64 10]) (by simp [results, Try.results13, go_sem, y0, y1, y2, y3]) rfl ⟨rfl, ?_⟩
          exact hs4.out.fin _ _ _ _
        · simp only [if_neg k3] at he'
          have k3' : ¬ (64 : Int) ≤ (l3.length : Int) := by omega
          by_cases k4 : a0 + t1 > 1000
          · simp only [if_pos k4] at he'
            have hce : code = 3 := by simpa using he'.out.symm
            subst hce
            clear he' hcode
            go_enter Try.func13, Try.ntmps13
            go_wp2_with fail
            refine (hv.out _ hs.out.b).mono ?_
            rintro e w2 ⟨rfl, hb2⟩
            have hs2 := Aside0.mk (hs.out.below hb2)
            clear hb2 hs hv
            have z0 := blk_cell hs2.out.t 0
            have z1 := blk_cell hs2.out.t 1
            simp at z0 z1
            go_wp2_with fail
            refine (share_isTransfer.calls _ _ _ _ hq.out).mono ?_
            rintro e w3 ⟨rfl, hb3⟩
            have hs3 := Aside0.mk (hs2.out.below hb3)
            clear hs2 hq hb3 z0 z1
            have x0 := blk_cell hs3.out.s 0
            have x1 := blk_cell hs3.out.s 1
            have x2 := blk_cell hs3.out.s 2
            have x3 := blk_cell hs3.out.s 3
            have z0 := blk_cell hs3.out.t 0
            have z1 := blk_cell hs3.out.t 1
            have y0 := blk_cell hs3.out.r 0
            have y1 := blk_cell hs3.out.r 1
            have y2 := blk_cell hs3.out.r 2
            have y3 := blk_cell hs3.out.r 3
            simp at x0 x1 x2 x3 z0 z1 y0 y1 y2 y3
            go_wp2_with fail
            refine (slices_BinarySearch_int_int.calls _ A3 c3 l3 t0 _ _ _ (Kd.C_below hA.out.2 hs3.out.b) hc3 hbs.out).mono ?_
            rintro e w4 ⟨rfl, ⟨⟨n, rfl⟩⟩⟩
            have hs4 := Aside0.mk (hs3.out.drewN n)
            clear hs3 hbs x0 x1 x2 x3 y0 y1 y2 y3 z0 z1
            generalize w3.drewN n = w4 at *
            have x0 := blk_cell hs4.out.s 0
            have x1 := blk_cell hs4.out.s 1
            have x2 := blk_cell hs4.out.s 2
            have x3 := blk_cell hs4.out.s 3
            have z0 := blk_cell hs4.out.t 0
            have z1 := blk_cell hs4.out.t 1
            have y0 := blk_cell hs4.out.r 0
            have y1 := blk_cell hs4.out.r 1
            have y2 := blk_cell hs4.out.r 2
            have y3 := blk_cell hs4.out.r 3
            simp at x0 x1 x2 x3 z0 z1 y0 y1 y2 y3
            have v0 := blk_frozen hs4.out.r 0
            have v1 := blk_frozen hs4.out.r 1
            have v2 := blk_frozen hs4.out.r 2
            have v3 := blk_frozen hs4.out.r 3
            go_wp2
            refine bodyPost_ret (v := .tuple #[.agg #[.int .i64 0, .int .i64 0, .slice none 0 0, .slice none 0 0], .int .i64 3]) (by simp [results, Try.results13, go_sem, y0, y1, y2, y3]) rfl ⟨rfl, ?_⟩
            exact hs4.out.fin _ _ _ _
          · simp only [if_neg k4] at he'
            exact absurd he'.out.symm hcode
    · rw [decide_eq_false k1] at hq
      simp only [if_neg k1] at he'
      clear k1
      have hce : code = 1 := by simpa using he'.out.symm
      subst hce
      clear he' hcode
      go_enter Try.func13, Try.ntmps13
      go_wp2_with fail
      refine (hv.out _ hs.out.b).mono ?_
      rintro e w2 ⟨rfl, hb2⟩
      have hs2 := Aside0.mk (hs.out.below hb2)
      clear hb2 hs hv
      have z0 := blk_cell hs2.out.t 0
      have z1 := blk_cell hs2.out.t 1
      simp at z0 z1
      go_wp2_with fail
      refine (share_isTransfer.calls _ _ _ _ hq.out).mono ?_
      rintro e w3 ⟨rfl, hb3⟩
      have hs3 := Aside0.mk (hs2.out.below hb3)
      clear hs2 hq hb3 z0 z1
      have y0 := blk_cell hs3.out.r 0
      have y1 := blk_cell hs3.out.r 1
      have y2 := blk_cell hs3.out.r 2
      have y3 := blk_cell hs3.out.r 3
      simp at y0 y1 y2 y3
      have v0 := blk_frozen hs3.out.r 0
      have v1 := blk_frozen hs3.out.r 1
      have v2 := blk_frozen hs3.out.r 2
      have v3 := blk_frozen hs3.out.r 3
      go_wp2
      refine bodyPost_ret (v := .tuple #[.agg #[.int .i64 0, .int .i64 0, .slice none 0 0, .slice none 0 0], .int .i64 1]) (by simp [results, Try.results13, go_sem, y0, y1, y2, y3]) rfl ⟨rfl, ?_⟩
      exact hs3.out.fin _ _ _ _

theorem recvE_zero {a0 a1 : Int} {l2 : List S27} {l3 : List Int} {t : S27} (he : recvE a0 a1 l2 l3 t = 0) :
    shOk a0 a1 l2 l3 = true ∧ trOk t ∧ ¬ t.f0 ∈ l3 ∧ ¬ 64 ≤ l3.length ∧ ¬ a0 + t.f1 > 1000 := by
  unfold recvE at he
  by_cases h : shOk a0 a1 l2 l3 = true
  · rw [if_pos h] at he
    by_cases k1 : trOk t
    · rw [if_pos k1] at he
      by_cases k2 : t.f0 ∈ l3
      · rw [if_pos k2] at he; cases he
      · rw [if_neg k2] at he
        by_cases k3 : 64 ≤ l3.length
        · rw [if_pos k3] at he; cases he
        · rw [if_neg k3] at he
          by_cases k4 : a0 + t.f1 > 1000
          · rw [if_pos k4] at he; cases he
          · exact ⟨h, k1, k2, k3, k4⟩
    · rw [if_neg k1] at he; cases he
  · rw [if_neg h] at he; cases he
theorem ordB_inc {m : Int} {l : List Int} (h : ordB m l = true) : Inc l := by
  unfold ordB at h
  by_cases h3 : incB m 0 l = true
  · exact (inc_of_incB _ _ _ h3).2
  · rw [if_neg h3] at h; cases h

/-- Insert at any place where there is room. -/
theorem ins_calls (w0 W : World) (g cap gv k : Nat) (xs : List Int) (x : Int) (hr : Roomy (Kd.int .i64) inCells 3 w0 W g cap xs) (hroom : xs.length + 1 ≤ cap) (hcap : cap ≤ 1000000) (hk : k ≤ xs.length)
    (hgv : W.heap[gv]? = some (.cells #[.int .i64 x] 3 (0, 0))) (hne : gv ≠ g) :
    Calls Try.prog 27 #[.slice (some ⟨g, 0, none⟩) xs.length cap, .int .i64 (k : Int), .slice (some ⟨gv, 0, none⟩) 1 1] W fun e w' =>
      e = .returned (.slice (some ⟨g, 0, none⟩) (xs.length + 1) cap) ∧ Roomy (Kd.int .i64) inCells 3 w0 w' g cap (xs.take k ++ x :: xs.drop k) ∧ W.grownBy w' (some g) := by
  rcases Nat.lt_or_ge k xs.length with h | h
  · exact ins_mid w0 W g cap gv k xs x hr hroom hcap h hgv hne
  · obtain rfl : k = xs.length := by omega
    have := ins_end w0 W g cap gv xs x hr hroom hcap hgv
    rwa [show xs.take xs.length ++ x :: xs.drop xs.length = xs ++ [x] by simp]
theorem R_four {α : Type} {d : Kd α} {e : Nat} {W : World} {base : Nat} {ok : Nat → Prop} {v : Value} {xs : List α} {b1 : Nat} (h : d.R e W base ok v xs) (hok : ∀ k, ok k → k ≠ b1) (u0 u1 u2 u3 : Value) :
    d.R e ((((W.setCell ⟨b1, 0, none⟩ u0).setCell ⟨b1, 1, none⟩ u1).setCell ⟨b1, 2, none⟩ u2).setCell ⟨b1, 3, none⟩ u3) base ok v xs :=
  Kd.R_far (Kd.R_far (Kd.R_far (Kd.R_far h (p := ⟨b1, 0, none⟩) hok u0) (p := ⟨b1, 1, none⟩) hok u1) (p := ⟨b1, 2, none⟩) hok u2) (p := ⟨b1, 3, none⟩) hok u3
theorem Roomy.four {α : Type} {d : Kd α} {f : α → List Value} {e : Nat} {w0 w : World} {g cap : Nat} {xs : List α} (h : Roomy d f e w0 w g cap xs) {b1 : Nat} (hb : g ≠ b1) (u0 u1 u2 u3 : Value) :
    Roomy d f e w0 ((((w.setCell ⟨b1, 0, none⟩ u0).setCell ⟨b1, 1, none⟩ u1).setCell ⟨b1, 2, none⟩ u2).setCell ⟨b1, 3, none⟩ u3) g cap xs :=
  (((h.far (p := ⟨b1, 0, none⟩) hb u0).far (p := ⟨b1, 1, none⟩) hb u1).far (p := ⟨b1, 2, none⟩) hb u2).far (p := ⟨b1, 3, none⟩) hb u3

set_option maxHeartbeats 8000000 in
theorem recv_yes (a0 a1 : Int) (A2 : Option Addr) (c2 : Nat) (l2 : List S27) (A3 : Option Addr) (c3 : Nat) (l3 : List Int) (t0 t1 : Int) (w : World) (hr2 : Kd.C k27 w A2 l2.length l2) (hc2 : l2.length ≤ c2)
    (hr3 : Kd.C (Kd.int .i64) w A3 l3.length l3) (hc3 : l3.length ≤ c3) (he : recvE a0 a1 l2 l3 ⟨t0, t1⟩ = 0) :
    Calls Try.prog 13 #[.agg #[.int .i64 a0, .int .i64 a1, .slice A2 l2.length c2, .slice A3 l3.length c3], .agg #[.int .i64 t0, .int .i64 t1]] w fun e w' => ∃ v2 v3 : Value,
      e = .returned (.tuple #[.agg #[.int .i64 (a0 + t1), .int .i64 a1, v2, v3], .int .i64 0]) ∧
      Kd.R k27 27 w' w.heap.size (fun k => some k ≠ v3.ownBlock) v2 l2 ∧ Kd.R (Kd.int .i64) 3 w' w.heap.size (fun k => some k ≠ v2.ownBlock) v3 (putIn l3 t0) ∧ Below w.heap.size w w' := by
  obtain ⟨hok, k1, k2, k3, k4⟩ := recvE_zero he
  obtain ⟨⟨⟨p0, p1⟩, p2, p3⟩, ho2, ho3, _⟩ := shOk_bounds hok
  have hl3 := ordB_len ho3
  have hl2 : l2.length ≤ 64 := by have := ordB_len ho2; simpa using this
  obtain ⟨hbs0, hpl⟩ := bs_f l3 t0 (by omega) (ordB_inc ho3)
  have hbs := Aside0.mk hbs0
  have hA := Aside0.mk (And.intro hr2 hr3)
  have hv := Aside0.mk (fun W (hW : Below w.heap.size w W) => share_Valid.calls a0 a1 A2 c2 l2 A3 c3 l3 true W (Kd.C_below hA.out.1 hW) hc2 (Kd.C_below hA.out.2 hW) hc3 (by unfold share_Valid.f; rw [hok]))
  have hq := Aside0.mk (isTransfer_f t0 t1)
  have hs := Aside0.mk (RecvW.start w a0 a1 A2 l2.length c2 A3 l3.length c3 t0 t1)
  have hown := Aside0.mk (fun W (hW : Below w.heap.size w W) => own_calls a0 a1 A2 c2 l2 A3 c3 l3 W (Kd.C_below hA.out.1 hW) hc2 hl2 (Kd.C_below hA.out.2 hW) hc3 hl3)
  rw [decide_eq_true k1] at hq
  rw [decide_eq_false k2] at hbs
  obtain ⟨⟨k1a, k1b⟩, k1c, k1d⟩ := k1
  have k1d' : t1 ≤ 1000 := k1d
  have k1c' : 1 ≤ t1 := k1c
  have k4' : ¬ a0 + t1 > 1000 := k4
  have k3' : ¬ (64 : Int) ≤ (l3.length : Int) := by omega
  unfold putIn
  have hpl' : (posOf l3 t0 : Int) ≤ (l3.length : Int) := by omega
  clear hr2 hr3 hok he ho2 ho3 hbs0 k1a k1b k1c k1d k2 k4
  go_enter Try.func13, Try.ntmps13
  go_wp2_with fail
  refine (hv.out _ hs.out.b).mono ?_
  rintro e w2 ⟨rfl, hb2⟩
  have hs2 := Aside0.mk (hs.out.below hb2)
  clear hb2 hs hv
  have z0 := blk_cell hs2.out.t 0
  have z1 := blk_cell hs2.out.t 1
  simp at z0 z1
  go_wp2_with fail
  refine (share_isTransfer.calls _ _ _ _ hq.out).mono ?_
  rintro e w3 ⟨rfl, hb3⟩
  have hs3 := Aside0.mk (hs2.out.below hb3)
  clear hs2 hq hb3 z0 z1
  have x0 := blk_cell hs3.out.s 0
  have x1 := blk_cell hs3.out.s 1
  have x2 := blk_cell hs3.out.s 2
  have x3 := blk_cell hs3.out.s 3
  have z0 := blk_cell hs3.out.t 0
  have z1 := blk_cell hs3.out.t 1
  have y0 := blk_cell hs3.out.r 0
  have y1 := blk_cell hs3.out.r 1
  have y2 := blk_cell hs3.out.r 2
  have y3 := blk_cell hs3.out.r 3
  simp at x0 x1 x2 x3 z0 z1 y0 y1 y2 y3
  go_wp2_with fail
  refine (slices_BinarySearch_int_int.calls _ A3 c3 l3 t0 _ _ _ (Kd.C_below hA.out.2 hs3.out.b) hc3 hbs.out).mono ?_
  rintro e w4 ⟨rfl, ⟨⟨n, rfl⟩⟩⟩
  have hs4 := Aside0.mk (hs3.out.drewN n)
  clear hs3 hbs x0 x1 x2 x3 y0 y1 y2 y3 z0 z1
  generalize w3.drewN n = w4 at *
  have x0 := blk_cell hs4.out.s 0
  have x1 := blk_cell hs4.out.s 1
  have x2 := blk_cell hs4.out.s 2
  have x3 := blk_cell hs4.out.s 3
  have z0 := blk_cell hs4.out.t 0
  have z1 := blk_cell hs4.out.t 1
  have y0 := blk_cell hs4.out.r 0
  have y1 := blk_cell hs4.out.r 1
  have y2 := blk_cell hs4.out.r 2
  have y3 := blk_cell hs4.out.r 3
  simp at x0 x1 x2 x3 z0 z1 y0 y1 y2 y3
  go_wp2_with fail
  refine (hown.out _ hs4.out.b).mono ?_
  rintro e w5 ⟨g2, g3, rfl, r2, r3, hne, hb5⟩
  have r2' := Aside0.mk r2
  have r3' := Aside0.mk r3
  have hg2 : Aside0 (w.heap.size + 2 < g2 ∧ w.heap.size + 2 < g3) := ⟨by have := r2.low; have := r3.low; have := blk_lt hs4.out.r; omega⟩
  have hgl : Aside0 (w.heap.size ≤ w4.heap.size) := ⟨by have := blk_lt hs4.out.s; omega⟩
  have hne' := Aside0.mk hne
  have hs5 := Aside0.mk (hs4.out.below hb5)
  clear r2 r3 hne hb5 hown hs4 x0 x1 x2 x3 z0 z1 y0 y1 y2 y3
  have x0 := blk_cell hs5.out.s 0
  have x1 := blk_cell hs5.out.s 1
  have x2 := blk_cell hs5.out.s 2
  have x3 := blk_cell hs5.out.s 3
  simp at x0 x1 x2 x3
  have u0 := blk_frozen hs5.out.s 0
  have u1 := blk_frozen hs5.out.s 1
  have u2 := blk_frozen hs5.out.s 2
  have u3 := blk_frozen hs5.out.s 3
  go_upto_region 11 with (fail)
  have hs6 := Aside0.mk (hs5.out.put a0 a1 (some ⟨g2, 0, none⟩) l2.length (l2.length + 1) (some ⟨g3, 0, none⟩) l3.length (l3.length + 1))
  have hg2f := Aside0.mk (show g2 ≠ w.heap.size by have := hg2.out; omega)
  have hg3f := Aside0.mk (show g3 ≠ w.heap.size by have := hg2.out; omega)
  have r26 := Aside0.mk ((r2'.out.low' (w0 := w) hgl.out).four hg2f.out (.int .i64 a0) (.int .i64 a1) (.slice (some ⟨g2, 0, none⟩) l2.length (l2.length + 1)) (.slice (some ⟨g3, 0, none⟩) l3.length (l3.length + 1)))
  have r36 := Aside0.mk ((r3'.out.low' (w0 := w) hgl.out).four hg3f.out (.int .i64 a0) (.int .i64 a1) (.slice (some ⟨g2, 0, none⟩) l2.length (l2.length + 1)) (.slice (some ⟨g3, 0, none⟩) l3.length (l3.length + 1)))
  clear hgl r2' r3' hs5 x0 x1 x2 x3 u0 u1 u2 u3
  generalize ((((w5.setCell ⟨w.heap.size, 0, none⟩ (.int .i64 a0)).setCell ⟨w.heap.size, 1, none⟩ (.int .i64 a1)).setCell ⟨w.heap.size, 2, none⟩ (.slice (some ⟨g2, 0, none⟩) l2.length (l2.length + 1))).setCell ⟨w.heap.size, 3, none⟩ (.slice (some ⟨g3, 0, none⟩) l3.length (l3.length + 1))) = w6 at *
  have x0 := blk_cell hs6.out.s 0
  have x1 := blk_cell hs6.out.s 1
  have x2 := blk_cell hs6.out.s 2
  have x3 := blk_cell hs6.out.s 3
  have z0 := blk_cell hs6.out.t 0
  have z1 := blk_cell hs6.out.t 1
  simp at x0 x1 x2 x3 z0 z1
  have u0 := blk_frozen hs6.out.s 0
  go_upto_region 12 with (fail)
  have hs7 := Aside0.mk (hs6.out.put0 (a0 + t1))
  have r27 := Aside0.mk (r26.out.far (p := ⟨w.heap.size, 0, none⟩) hg2f.out (.int .i64 (a0 + t1)))
  have r37 := Aside0.mk (r36.out.far (p := ⟨w.heap.size, 0, none⟩) hg3f.out (.int .i64 (a0 + t1)))
  clear x0 x1 x2 x3 z0 z1 u0 hs6 r26 r36
  generalize w6.setCell ⟨w.heap.size, 0, none⟩ (.int .i64 (a0 + t1)) = w7 at *
  have x0 := blk_cell hs7.out.s 0
  have x1 := blk_cell hs7.out.s 1
  have x2 := blk_cell hs7.out.s 2
  have x3 := blk_cell hs7.out.s 3
  have z0 := blk_cell hs7.out.t 0
  have z1 := blk_cell hs7.out.t 1
  simp at x0 x1 x2 x3 z0 z1
  go_wp2_with fail
  have hv8 := blk_new w7 (.cells #[.int .i64 t0] 3)
  have hb8 : Below w7.heap.size w7 (w7.alloc (.cells #[.int .i64 t0] 3)) := below_alloc (Below.refl _ _) _
  have hs8 := Aside0.mk (hs7.out.below hb8)
  have r28 := Aside0.mk (r27.out.below hb8)
  have r38 := Aside0.mk (r37.out.below hb8)
  have hlt8 := r37.out.lt
  clear x0 x1 x2 x3 z0 z1 hs7 r27 r37 hb8
  generalize w7.alloc (.cells #[.int .i64 t0] 3) = w8 at *
  refine (ins_calls w w8 g3 (l3.length + 1) w7.heap.size (posOf l3 t0) l3 t0 r38.out (Nat.le_refl _) (by omega) hpl hv8 (by omega)).mono ?_
  rintro e w9 ⟨rfl, r39, hg9⟩
  have hs9 := Aside0.mk (hs8.out.grown hg9 (fun g h => by cases h; exact hg2.out.2))
  have r29 := Aside0.mk (r28.out.grown hg9 (fun h => hne'.out (Option.some.inj h)))
  have r39' := Aside0.mk r39
  clear r28 r38 hs8 hv8 hlt8 r39 hg9
  have x0 := blk_cell hs9.out.s 0
  have x1 := blk_cell hs9.out.s 1
  have x2 := blk_cell hs9.out.s 2
  have x3 := blk_cell hs9.out.s 3
  have y0 := blk_cell hs9.out.r 0
  have y1 := blk_cell hs9.out.r 1
  have y2 := blk_cell hs9.out.r 2
  have y3 := blk_cell hs9.out.r 3
  simp at x0 x1 x2 x3 y0 y1 y2 y3
  have u0 := blk_frozen hs9.out.s 0
  have u1 := blk_frozen hs9.out.s 1
  have u2 := blk_frozen hs9.out.s 2
  have u3 := blk_frozen hs9.out.s 3
  have v0 := blk_frozen hs9.out.r 0
  have v1 := blk_frozen hs9.out.r 1
  have v2 := blk_frozen hs9.out.r 2
  have v3 := blk_frozen hs9.out.r 3
  go_upto_region 13 with (fail)
  have hs10 := Aside0.mk (hs9.out.put3 (some ⟨g3, 0, none⟩) (l3.length + 1) (l3.length + 1))
  have r210 := Aside0.mk (r29.out.far (p := ⟨w.heap.size, 3, none⟩) hg2f.out (.slice (some ⟨g3, 0, none⟩) (l3.length + 1) (l3.length + 1)))
  have r310 := Aside0.mk (r39'.out.far (p := ⟨w.heap.size, 3, none⟩) hg3f.out (.slice (some ⟨g3, 0, none⟩) (l3.length + 1) (l3.length + 1)))
  clear x0 x1 x2 x3 y0 y1 y2 y3 u0 u1 u2 u3 v0 v1 v2 v3 hs9 r29 r39'
  generalize w9.setCell ⟨w.heap.size, 3, none⟩ (.slice (some ⟨g3, 0, none⟩) (l3.length + 1) (l3.length + 1)) = w10 at *
  have x0 := blk_cell hs10.out.s 0
  have x1 := blk_cell hs10.out.s 1
  have x2 := blk_cell hs10.out.s 2
  have x3 := blk_cell hs10.out.s 3
  have y0 := blk_cell hs10.out.r 0
  have y1 := blk_cell hs10.out.r 1
  have y2 := blk_cell hs10.out.r 2
  have y3 := blk_cell hs10.out.r 3
  simp at x0 x1 x2 x3 y0 y1 y2 y3
  have v0 := blk_frozen hs10.out.r 0
  have v1 := blk_frozen hs10.out.r 1
  have v2 := blk_frozen hs10.out.r 2
  have v3 := blk_frozen hs10.out.r 3
  have hfin := Aside0.mk (hs10.out.fin (.int .i64 (a0 + t1)) (.int .i64 a1) (.slice (some ⟨g2, 0, none⟩) l2.length (l2.length + 1)) (.slice (some ⟨g3, 0, none⟩) (l3.length + 1) (l3.length + 1)))
  have q2 := Aside0.mk (R_four (b1 := w.heap.size + 2) (r210.out.R (ok := fun k => k = g2) trCells_len (fun x => k27_mkM _ _ _ x) rfl (by simp [maxLen]; omega)) (fun k hk => by subst hk; have := hg2.out; omega) (.int .i64 (a0 + t1)) (.int .i64 a1) (.slice (some ⟨g2, 0, none⟩) l2.length (l2.length + 1)) (.slice (some ⟨g3, 0, none⟩) (l3.length + 1) (l3.length + 1)))
  have hlen : (l3.take (posOf l3 t0) ++ t0 :: l3.drop (posOf l3 t0)).length = l3.length + 1 := by simp; omega
  have q3 := (R_four (b1 := w.heap.size + 2) (r310.out.R (ok := fun k => k = g3) inCells_len (fun x => rfl) rfl (by simp [maxLen]; omega)) (fun k hk => by subst hk; have := hg2.out; omega) (.int .i64 (a0 + t1)) (.int .i64 a1) (.slice (some ⟨g2, 0, none⟩) l2.length (l2.length + 1)) (.slice (some ⟨g3, 0, none⟩) (l3.length + 1) (l3.length + 1)))
  rw [hlen] at q3
  have q3' := Aside0.mk q3
  clear hs10 r210 r310 q3 hlen hA
  go_wp2
  refine bodyPost_ret (v := .tuple #[.agg #[.int .i64 (a0 + t1), .int .i64 a1, .slice (some ⟨g2, 0, none⟩) l2.length (l2.length + 1), .slice (some ⟨g3, 0, none⟩) (l3.length + 1) (l3.length + 1)], .int .i64 0]) (by simp [results, Try.results13, go_sem, y0, y1, y2, y3]) rfl
    ⟨_, _, rfl, ?_, ?_, hfin.out⟩
  · exact Kd.R_mono q2.out (fun k hk => by subst hk; simp [Value.ownBlock]; exact hne'.out)
  · exact Kd.R_mono q3'.out (fun k hk => by subst hk; simp [Value.ownBlock]; exact fun h => hne'.out h.symm)

theorem share_Receive.calls (a0_0 a0_1 : Int) (A0_2 : Option Addr) (c0_2 : Nat) (l0_2 : List S27) (A0_3 : Option Addr) (c0_3 : Nat) (l0_3 : List Int) (a1_0 a1_1 : Int) (r1 r2 : Int) (r3 : List S27) (r4 : List Int) (r5 : Int) (w : World)
    (hr0_2 : Kd.C k27 w A0_2 l0_2.length l0_2) (hc0_2 : l0_2.length ≤ c0_2) (hr0_3 : Kd.C (Kd.int .i64) w A0_3 l0_3.length l0_3) (hc0_3 : l0_3.length ≤ c0_3) (h : share_Receive.f a0_0 a0_1 l0_2 l0_3 a1_0 a1_1 = some (r1, r2, r3, r4, r5)) :
    Calls Try.prog 13 #[.agg #[.int .i64 a0_0, .int .i64 a0_1, .slice A0_2 l0_2.length c0_2, .slice A0_3 l0_3.length c0_3], .agg #[.int .i64 a1_0, .int .i64 a1_1]] w fun e w' => ∃ v1 v2 : Value,
      e = .returned (.tuple #[.agg #[.int .i64 r1, .int .i64 r2, v1, v2], .int .i64 r5]) ∧ Kd.R k27 27 w' w.heap.size (fun k => some k ≠ v2.ownBlock) v1 r3 ∧ Kd.R (Kd.int .i64) 3 w' w.heap.size (fun k => some k ≠ v1.ownBlock) v2 r4 ∧ Below w.heap.size w w' := by
  unfold share_Receive.f at h
  by_cases he : recvE a0_0 a0_1 l0_2 l0_3 ⟨a1_0, a1_1⟩ = 0
  · rw [if_pos he] at h
    simp only [Option.some.injEq, Prod.mk.injEq] at h
    obtain ⟨rfl, rfl, rfl, rfl, rfl⟩ := h
    exact recv_yes a0_0 a0_1 A0_2 c0_2 l0_2 A0_3 c0_3 l0_3 a1_0 a1_1 w hr0_2 hc0_2 hr0_3 hc0_3 he
  · rw [if_neg he] at h
    simp only [Option.some.injEq, Prod.mk.injEq] at h
    obtain ⟨rfl, rfl, rfl, rfl, rfl⟩ := h
    refine (recv_no a0_0 a0_1 A0_2 c0_2 l0_2 A0_3 c0_3 l0_3 a1_0 a1_1 _ w hr0_2 hc0_2 hr0_3 hc0_3 rfl he).mono ?_
    rintro e w' ⟨rfl, hb⟩
    exact ⟨_, _, rfl, Kd.R_nil _ _ _ _ _, Kd.R_nil _ _ _ _ _, hb⟩
end Go.Proofs.Ythoimnockinfbaa.Pr
