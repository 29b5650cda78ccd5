import Derived.Test.YthoimnockinfbaaShOwn
import Derived.Test.YthoimnockinfbaaShValid
set_option linter.unusedVariables false
set_option linter.unusedSimpArgs false
/-! share.Send. -/
namespace Go.Proofs.Ythoimnockinfbaa.Pr
open Go.RowKit Go.Proofs.YthoimnockinfbaaW.PrintWords Go.Proofs.YthoimnockinfbaaW.PrintLast Go.Proofs.YthoimnockinfbaaW.PrintMore
attribute [local go_sem] Oper.semAt_some

def sendE (h n : Int) (out : List S27) (inn : List Int) (amps : Int) : Int :=
  if shOk h n out inn = true then if 1 ≤ amps ∧ amps ≤ 1000 then if amps > h then 13 else if 64 ≤ out.length then 10 else if n > 1000000 then 3 else 0 else 1 else 1
def share_Send.f (h n : Int) (out : List S27) (inn : List Int) (amps : Int) : Option (Int × Int × List S27 × List Int × Int × Int × Int) :=
  if sendE h n out inn amps = 0 then some (h - amps, n + 1, out ++ [⟨n, amps⟩], inn, n, amps, 0) else some (0, 0, [], [], 0, 0, sendE h n out inn amps)

/-- What stands in the world ahead of Send's own work. -/
structure SendW (w X : World) (a0 a1 : Int) (A2 : Option Addr) (n2 c2 : Nat) (A3 : Option Addr) (n3 c3 : Nat) : Prop where
  s : X.heap[w.heap.size]? = some (.cells #[.int .i64 a0, .int .i64 a1, .slice A2 n2 c2, .slice A3 n3 c3] 25 (0, 0))
  r : X.heap[w.heap.size + 1]? = some (.cells #[.int .i64 0, .int .i64 0, .slice none 0 0, .slice none 0 0] 25 (0, 0))
  t : X.heap[w.heap.size + 2]? = some (.cells #[.int .i64 0, .int .i64 0] 27 (0, 0))
  b : Below w.heap.size w X
theorem SendW.below {w X X2 : World} {a0 a1 : Int} {A2 : Option Addr} {n2 c2 : Nat} {A3 : Option Addr} {n3 c3 : Nat} (h : SendW w X a0 a1 A2 n2 c2 A3 n3 c3) (hb : Below X.heap.size X X2) : SendW w X2 a0 a1 A2 n2 c2 A3 n3 c3 :=
  ⟨blk_below h.s hb, blk_below h.r hb, blk_below h.t hb, below_step h.b hb⟩
theorem SendW.drewN {w X : World} {a0 a1 : Int} {A2 : Option Addr} {n2 c2 : Nat} {A3 : Option Addr} {n3 c3 : Nat} (h : SendW w X a0 a1 A2 n2 c2 A3 n3 c3) (n : Nat) : SendW w (X.drewN n) a0 a1 A2 n2 c2 A3 n3 c3 :=
  ⟨h.s, h.r, h.t, pw_below_drewN h.b n⟩
theorem SendW.start (w : World) (a0 a1 : Int) (A2 : Option Addr) (n2 c2 : Nat) (A3 : Option Addr) (n3 c3 : Nat) :
    SendW w (((w.alloc (.cells #[.int .i64 a0, .int .i64 a1, .slice A2 n2 c2, .slice A3 n3 c3] 25)).alloc (.cells #[.int .i64 0, .int .i64 0, .slice none 0 0, .slice none 0 0] 25)).alloc (.cells #[.int .i64 0, .int .i64 0] 27)) a0 a1 A2 n2 c2 A3 n3 c3 := by
  have h1 := blk_new w (.cells #[.int .i64 a0, .int .i64 a1, .slice A2 n2 c2, .slice A3 n3 c3] 25)
  have h2 := blk_new (w.alloc (.cells #[.int .i64 a0, .int .i64 a1, .slice A2 n2 c2, .slice A3 n3 c3] 25)) (.cells #[.int .i64 0, .int .i64 0, .slice none 0 0, .slice none 0 0] 25)
  have h3 := blk_new ((w.alloc (.cells #[.int .i64 a0, .int .i64 a1, .slice A2 n2 c2, .slice A3 n3 c3] 25)).alloc (.cells #[.int .i64 0, .int .i64 0, .slice none 0 0, .slice none 0 0] 25)) (.cells #[.int .i64 0, .int .i64 0] 27)
  have b2 := fun o => below_alloc (Below.refl (w.alloc (.cells #[.int .i64 a0, .int .i64 a1, .slice A2 n2 c2, .slice A3 n3 c3] 25)).heap.size (w.alloc (.cells #[.int .i64 a0, .int .i64 a1, .slice A2 n2 c2, .slice A3 n3 c3] 25))) o
  rw [World.size_alloc] at h2
  rw [World.size_alloc, World.size_alloc] at h3
  refine ⟨?_, ?_, h3, ?_⟩
  · exact blk_below (blk_below h1 (below_alloc (Below.refl _ _) _)) (below_alloc (Below.refl _ _) _)
  · exact blk_below h2 (below_alloc (Below.refl _ _) _)
  · exact ((((Below.refl _ _).alloc (Nat.le_refl _) _).alloc (by simp) _).alloc (by simp; omega) _)

theorem SendW.fin {w X : World} {a0 a1 : Int} {A2 : Option Addr} {n2 c2 : Nat} {A3 : Option Addr} {n3 c3 : Nat} (h : SendW w X a0 a1 A2 n2 c2 A3 n3 c3) (u0 u1 u2 u3 u4 u5 : Value) :
    Below w.heap.size w ((((((X.setCell ⟨w.heap.size + 1, 0, none⟩ u0).setCell ⟨w.heap.size + 1, 1, none⟩ u1).setCell ⟨w.heap.size + 1, 2, none⟩ u2).setCell ⟨w.heap.size + 1, 3, none⟩ u3).setCell ⟨w.heap.size + 2, 0, none⟩ u4).setCell ⟨w.heap.size + 2, 1, none⟩ u5) :=
  (((((h.b.setCell (by show w.heap.size ≤ w.heap.size + 1; omega) _).setCell (by show w.heap.size ≤ w.heap.size + 1; omega) _).setCell (by show w.heap.size ≤ w.heap.size + 1; omega) _).setCell (by show w.heap.size ≤ w.heap.size + 1; omega) _).setCell (by show w.heap.size ≤ w.heap.size + 2; omega) _).setCell (by show w.heap.size ≤ w.heap.size + 2; omega) _

set_option maxHeartbeats 4000000 in
theorem send_no (a0 a1 : Int) (A2 : Option Addr) (c2 : Nat) (l2 : List S27) (A3 : Option Addr) (c3 : Nat) (l3 : List Int) (amps code : Int) (w : World) (hr2 : Kd.C k27 w A2 l2.length l2) (hc2 : l2.length ≤ c2)
    (hr3 : Kd.C (Kd.int .i64) w A3 l3.length l3) (hc3 : l3.length ≤ c3) (he : sendE a0 a1 l2 l3 amps = code) (hcode : code ≠ 0) :
    Calls Try.prog 11 #[.agg #[.int .i64 a0, .int .i64 a1, .slice A2 l2.length c2, .slice A3 l3.length c3], .int .i64 amps] w fun e w' =>
      e = .returned (.tuple #[.agg #[.int .i64 0, .int .i64 0, .slice none 0 0, .slice none 0 0], .agg #[.int .i64 0, .int .i64 0], .int .i64 code]) ∧ Below w.heap.size w w' := by
  have hA := Aside0.mk (And.intro hr2 hr3)
  have hv := Aside0.mk (fun W (hW : Below w.heap.size w W) => share_Valid.calls a0 a1 A2 c2 l2 A3 c3 l3 (shOk a0 a1 l2 l3) W (Kd.C_below hA.out.1 hW) hc2 (Kd.C_below hA.out.2 hW) hc3 rfl)
  have hq := Aside0.mk (between_f amps 1 1000)
  have hs := Aside0.mk (SendW.start w a0 a1 A2 l2.length c2 A3 l3.length c3)
  have hl2 : (l2.length : Int) ≤ 9223372036854775807 := by have := hr2.2.1; omega
  unfold sendE at he
  have he' := Aside0.mk he
  clear he hr2 hr3 hA
  cases hok : shOk a0 a1 l2 l3 with
  | false =>
    rw [hok] at hv he'
    have hce : code = 1 := by simpa using he'.out.symm
    subst hce
    clear hok he' hcode
    go_enter Try.func11, Try.ntmps11
    go_wp2_with fail
    refine (hv.out _ hs.out.b).mono ?_
    rintro e w2 ⟨rfl, hb2⟩
    have hs2 := Aside0.mk (hs.out.below hb2)
    clear hb2 hs hv
    have y0 := blk_cell hs2.out.r 0
    have y1 := blk_cell hs2.out.r 1
    have y2 := blk_cell hs2.out.r 2
    have y3 := blk_cell hs2.out.r 3
    have z0 := blk_cell hs2.out.t 0
    have z1 := blk_cell hs2.out.t 1
    simp at y0 y1 y2 y3 z0 z1
    have v0 := blk_frozen hs2.out.r 0
    have v1 := blk_frozen hs2.out.r 1
    have v2 := blk_frozen hs2.out.r 2
    have v3 := blk_frozen hs2.out.r 3
    have q0 := blk_frozen hs2.out.t 0
    have q1 := blk_frozen hs2.out.t 1
    go_wp2
    refine bodyPost_ret (v := .tuple #[.agg #[.int .i64 0, .int .i64 0, .slice none 0 0, .slice none 0 0], .agg #[.int .i64 0, .int .i64 0], .int .i64 1]) (by simp [results, Try.results11, go_sem, y0, y1, y2, y3, z0, z1]) rfl ⟨rfl, ?_⟩
    exact hs2.out.fin _ _ _ _ _ _
  | true =>
    rw [hok] at hv he'
    simp only [if_true] at he'
    clear hok
    by_cases k1 : 1 ≤ amps ∧ amps ≤ 1000
    · rw [decide_eq_true k1] at hq
      simp only [if_pos k1] at he'
      obtain ⟨k1a, k1b⟩ := k1
      have pre : True := trivial
      go_enter Try.func11, Try.ntmps11
      go_wp2_with fail
      refine (hv.out _ hs.out.b).mono ?_
      rintro e w2 ⟨rfl, hb2⟩
      have hs2 := Aside0.mk (hs.out.below hb2)
      clear hb2 hs hv
      go_wp2_with fail
      refine (share_between.calls _ _ _ _ _ hq.out).mono ?_
      rintro e w3 ⟨rfl, ⟨⟨n, rfl⟩⟩⟩
      have hs3 := Aside0.mk (hs2.out.drewN n)
      clear hs2 hq
      generalize w2.drewN n = w3 at *
      have y0 := blk_cell hs3.out.r 0
      have y1 := blk_cell hs3.out.r 1
      have y2 := blk_cell hs3.out.r 2
      have y3 := blk_cell hs3.out.r 3
      have z0 := blk_cell hs3.out.t 0
      have z1 := blk_cell hs3.out.t 1
      simp at y0 y1 y2 y3 z0 z1
      have v0 := blk_frozen hs3.out.r 0
      have v1 := blk_frozen hs3.out.r 1
      have v2 := blk_frozen hs3.out.r 2
      have v3 := blk_frozen hs3.out.r 3
      have q0 := blk_frozen hs3.out.t 0
      have q1 := blk_frozen hs3.out.t 1
      have x0 := blk_cell hs3.out.s 0
      have x1 := blk_cell hs3.out.s 1
      have x2 := blk_cell hs3.out.s 2
      have x3 := blk_cell hs3.out.s 3
      simp at x0 x1 x2 x3
      by_cases k2 : amps > a0
      · simp only [if_pos k2] at he'
        have hce : code = 13 := by simpa using he'.out.symm
        subst hce
        clear he' hcode
        go_wp2
        refine bodyPost_ret (v := .tuple #[.agg #[.int .i64 0, .int .i64 0, .slice none 0 0, .slice none 0 0], .agg #[.int .i64 0, .int .i64 0], .int .i64 13]) (by simp [results, Try.results11, go_sem, y0, y1, y2, y3, z0, z1]) rfl ⟨rfl, ?_⟩
        exact hs3.out.fin _ _ _ _ _ _
      · simp only [if_neg k2] at he'
        by_cases k3 : 64 ≤ l2.length
        · simp only [if_pos k3] at he'
          have hce : code = 10 := by simpa using he'.out.symm
          have k3' : (64 : Int) ≤ (l2.length : Int) := by omega
          subst hce
          clear he' hcode
          go_wp2
          refine bodyPost_ret (v := .tuple #[.agg #[.int .i64 0, .int .i64 0, .slice none 0 0, .slice none 0 0], .agg #[.int .i64 0, .int .i64 0], .int .i64 10]) (by simp [results, Try.results11, go_sem, y0, y1, y2, y3, z0, z1]) rfl ⟨rfl, ?_⟩
          exact hs3.out.fin _ _ _ _ _ _
        · simp only [if_neg k3] at he'
          have k3' : ¬ (64 : Int) ≤ (l2.length : Int) := by omega
          by_cases k4 : a1 > 1000000
          · simp only [if_pos k4] at he'
            have hce : code = 3 := by simpa using he'.out.symm
            subst hce
            clear he' hcode
            go_wp2
            refine bodyPost_ret (v := .tuple #[.agg #[.int .i64 0, .int .i64 0, .slice none 0 0, .slice none 0 0], .agg #[.int .i64 0, .int .i64 0], .int .i64 3]) (by simp [results, Try.results11, go_sem, y0, y1, y2, y3, z0, z1]) rfl ⟨rfl, ?_⟩
            exact hs3.out.fin _ _ _ _ _ _
          · simp only [if_neg k4] at he'
            exact absurd he'.out.symm hcode
    · rw [decide_eq_false k1] at hq
      simp only [if_neg k1] at he'
      have hce : code = 1 := by simpa using he'.out.symm
      subst hce
      clear he' hcode k1
      go_enter Try.func11, Try.ntmps11
      go_wp2_with fail
      refine (hv.out _ hs.out.b).mono ?_
      rintro e w2 ⟨rfl, hb2⟩
      have hs2 := Aside0.mk (hs.out.below hb2)
      clear hb2 hs hv
      go_wp2_with fail
      refine (share_between.calls _ _ _ _ _ hq.out).mono ?_
      rintro e w3 ⟨rfl, ⟨⟨n, rfl⟩⟩⟩
      have hs3 := Aside0.mk (hs2.out.drewN n)
      clear hs2 hq
      generalize w2.drewN n = w3 at *
      have y0 := blk_cell hs3.out.r 0
      have y1 := blk_cell hs3.out.r 1
      have y2 := blk_cell hs3.out.r 2
      have y3 := blk_cell hs3.out.r 3
      have z0 := blk_cell hs3.out.t 0
      have z1 := blk_cell hs3.out.t 1
      simp at y0 y1 y2 y3 z0 z1
      have v0 := blk_frozen hs3.out.r 0
      have v1 := blk_frozen hs3.out.r 1
      have v2 := blk_frozen hs3.out.r 2
      have v3 := blk_frozen hs3.out.r 3
      have q0 := blk_frozen hs3.out.t 0
      have q1 := blk_frozen hs3.out.t 1
      go_wp2
      refine bodyPost_ret (v := .tuple #[.agg #[.int .i64 0, .int .i64 0, .slice none 0 0, .slice none 0 0], .agg #[.int .i64 0, .int .i64 0], .int .i64 1]) (by simp [results, Try.results11, go_sem, y0, y1, y2, y3, z0, z1]) rfl ⟨rfl, ?_⟩
      exact hs3.out.fin _ _ _ _ _ _

theorem blk_cells_drew {w : World} {g : Nat} {o : Obj} (h : w.heap[g]? = some o) : w.drew.heap[g]? = some o := h
theorem SendW.alloc {w X : World} {a0 a1 : Int} {A2 : Option Addr} {n2 c2 : Nat} {A3 : Option Addr} {n3 c3 : Nat} (h : SendW w X a0 a1 A2 n2 c2 A3 n3 c3) (o : Obj) : SendW w (X.alloc o) a0 a1 A2 n2 c2 A3 n3 c3 := h.below (below_alloc (Below.refl _ _) o)
theorem SendW.far {w X : World} {a0 a1 : Int} {A2 : Option Addr} {n2 c2 : Nat} {A3 : Option Addr} {n3 c3 : Nat} (h : SendW w X a0 a1 A2 n2 c2 A3 n3 c3) {p : Addr} (hp : w.heap.size + 2 < p.block) (u : Value) : SendW w (X.setCell p u) a0 a1 A2 n2 c2 A3 n3 c3 :=
  ⟨blk_far h.s (by omega) u, blk_far h.r (by omega) u, blk_far h.t (by omega) u, h.b.setCell (by omega) u⟩
/-- The own copy's parts are changed. -/
theorem SendW.put {w X : World} {a0 a1 : Int} {A2 : Option Addr} {n2 c2 : Nat} {A3 : Option Addr} {n3 c3 : Nat} (h : SendW w X a0 a1 A2 n2 c2 A3 n3 c3) (b0 b1 : Int) (B2 : Option Addr) (m2 d2 : Nat) (B3 : Option Addr) (m3 d3 : Nat) :
    SendW w ((((X.setCell ⟨w.heap.size, 0, none⟩ (.int .i64 b0)).setCell ⟨w.heap.size, 1, none⟩ (.int .i64 b1)).setCell ⟨w.heap.size, 2, none⟩ (.slice B2 m2 d2)).setCell ⟨w.heap.size, 3, none⟩ (.slice B3 m3 d3)) b0 b1 B2 m2 d2 B3 m3 d3 := by
  refine ⟨blk_set (blk_set (blk_set (blk_set h.s 0 _) 1 _) 2 _) 3 _, ?_, ?_, ?_⟩
  · exact blk_far (blk_far (blk_far (blk_far h.r (by simp) _) (by simp) _) (by simp) _) (by simp) _
  · exact blk_far (blk_far (blk_far (blk_far h.t (by simp) _) (by simp) _) (by simp) _) (by simp) _
  · exact (((h.b.setCell (Nat.le_refl _) _).setCell (Nat.le_refl _) _).setCell (Nat.le_refl _) _).setCell (Nat.le_refl _) _
theorem SendW.put0 {w X : World} {a0 a1 : Int} {A2 : Option Addr} {n2 c2 : Nat} {A3 : Option Addr} {n3 c3 : Nat} (h : SendW w X a0 a1 A2 n2 c2 A3 n3 c3) (b0 : Int) : SendW w (X.setCell ⟨w.heap.size, 0, none⟩ (.int .i64 b0)) b0 a1 A2 n2 c2 A3 n3 c3 :=
  ⟨blk_set h.s 0 _, blk_far h.r (by simp) _, blk_far h.t (by simp) _, h.b.setCell (Nat.le_refl _) _⟩
theorem SendW.put1 {w X : World} {a0 a1 : Int} {A2 : Option Addr} {n2 c2 : Nat} {A3 : Option Addr} {n3 c3 : Nat} (h : SendW w X a0 a1 A2 n2 c2 A3 n3 c3) (b1 : Int) : SendW w (X.setCell ⟨w.heap.size, 1, none⟩ (.int .i64 b1)) a0 b1 A2 n2 c2 A3 n3 c3 :=
  ⟨blk_set h.s 1 _, blk_far h.r (by simp) _, blk_far h.t (by simp) _, h.b.setCell (Nat.le_refl _) _⟩
theorem SendW.put2 {w X : World} {a0 a1 : Int} {A2 : Option Addr} {n2 c2 : Nat} {A3 : Option Addr} {n3 c3 : Nat} (h : SendW w X a0 a1 A2 n2 c2 A3 n3 c3) (B2 : Option Addr) (m2 d2 : Nat) : SendW w (X.setCell ⟨w.heap.size, 2, none⟩ (.slice B2 m2 d2)) a0 a1 B2 m2 d2 A3 n3 c3 :=
  ⟨blk_set h.s 2 _, blk_far h.r (by simp) _, blk_far h.t (by simp) _, h.b.setCell (Nat.le_refl _) _⟩

theorem shOk_bounds {a0 a1 : Int} {l2 : List S27} {l3 : List Int} (hok : shOk a0 a1 l2 l3 = true) : ((0 ≤ a0 ∧ a0 ≤ 1000) ∧ (1 ≤ a1 ∧ a1 ≤ 1000001)) ∧ ordB (a1 - 1) (l2.map (·.f0)) = true ∧ ordB 1000000 l3 = true ∧ l2.any notTr = false := by
  unfold shOk at hok
  by_cases h : (0 ≤ a0 ∧ a0 ≤ 1000) ∧ (1 ≤ a1 ∧ a1 ≤ 1000001)
  · rw [if_pos h] at hok
    by_cases h1 : ordB (a1 - 1) (l2.map (·.f0)) = true
    · rw [if_pos h1] at hok
      by_cases h2 : ordB 1000000 l3 = true
      · rw [if_pos h2] at hok
        exact ⟨h, h1, h2, by simpa using hok⟩
      · rw [if_neg h2] at hok; cases hok
    · rw [if_neg h1] at hok; cases hok
  · rw [if_neg h] at hok; cases hok
theorem ordB_len {m : Int} {l : List Int} (h : ordB m l = true) : l.length ≤ 64 := by
  unfold ordB at h
  by_cases h3 : incB m 0 l = true
  · rw [if_pos h3] at h; exact of_decide_eq_true h
  · rw [if_neg h3] at h; cases h
theorem sendE_zero {a0 a1 : Int} {l2 : List S27} {l3 : List Int} {amps : Int} (he : sendE a0 a1 l2 l3 amps = 0) :
    shOk a0 a1 l2 l3 = true ∧ (1 ≤ amps ∧ amps ≤ 1000) ∧ ¬ amps > a0 ∧ ¬ 64 ≤ l2.length ∧ ¬ a1 > 1000000 := by
  unfold sendE at he
  by_cases h : shOk a0 a1 l2 l3 = true
  · rw [if_pos h] at he
    by_cases k1 : 1 ≤ amps ∧ amps ≤ 1000
    · rw [if_pos k1] at he
      by_cases k2 : amps > a0
      · rw [if_pos k2] at he; cases he
      · rw [if_neg k2] at he
        by_cases k3 : 64 ≤ l2.length
        · rw [if_pos k3] at he; cases he
        · rw [if_neg k3] at he
          by_cases k4 : a1 > 1000000
          · rw [if_pos k4] at he; cases he
          · exact ⟨h, k1, k2, k3, k4⟩
    · rw [if_neg k1] at he; cases he
  · rw [if_neg h] at he; cases he

theorem R_six {α : Type} {d : Kd α} {e : Nat} {W : World} {base : Nat} {ok : Nat → Prop} {v : Value} {xs : List α} {b1 b2 : Nat} (h : d.R e W base ok v xs) (hok : ∀ k, ok k → k ≠ b1 ∧ k ≠ b2) (u0 u1 u2 u3 u4 u5 : Value) :
    d.R e ((((((W.setCell ⟨b1, 0, none⟩ u0).setCell ⟨b1, 1, none⟩ u1).setCell ⟨b1, 2, none⟩ u2).setCell ⟨b1, 3, none⟩ u3).setCell ⟨b2, 0, none⟩ u4).setCell ⟨b2, 1, none⟩ u5).drew base ok v xs := by
  have h1 := Kd.R_far (Kd.R_far (Kd.R_far (Kd.R_far h (p := ⟨b1, 0, none⟩) (fun k hk => (hok k hk).1) u0) (p := ⟨b1, 1, none⟩) (fun k hk => (hok k hk).1) u1) (p := ⟨b1, 2, none⟩) (fun k hk => (hok k hk).1) u2) (p := ⟨b1, 3, none⟩) (fun k hk => (hok k hk).1) u3
  have h2 := Kd.R_far (Kd.R_far h1 (p := ⟨b2, 0, none⟩) (fun k hk => (hok k hk).2) u4) (p := ⟨b2, 1, none⟩) (fun k hk => (hok k hk).2) u5
  exact Kd.R_drewN h2 1

set_option maxHeartbeats 8000000 in
theorem send_yes (a0 a1 : Int) (A2 : Option Addr) (c2 : Nat) (l2 : List S27) (A3 : Option Addr) (c3 : Nat) (l3 : List Int) (amps : Int) (w : World) (hr2 : Kd.C k27 w A2 l2.length l2) (hc2 : l2.length ≤ c2)
    (hr3 : Kd.C (Kd.int .i64) w A3 l3.length l3) (hc3 : l3.length ≤ c3) (he : sendE a0 a1 l2 l3 amps = 0) :
    Calls Try.prog 11 #[.agg #[.int .i64 a0, .int .i64 a1, .slice A2 l2.length c2, .slice A3 l3.length c3], .int .i64 amps] w fun e w' => ∃ v2 v3 : Value,
      e = .returned (.tuple #[.agg #[.int .i64 (a0 - amps), .int .i64 (a1 + 1), v2, v3], .agg #[.int .i64 a1, .int .i64 amps], .int .i64 0]) ∧
      Kd.R k27 27 w' w.heap.size (fun k => some k ≠ v3.ownBlock) v2 (l2 ++ [⟨a1, amps⟩]) ∧ Kd.R (Kd.int .i64) 3 w' w.heap.size (fun k => some k ≠ v2.ownBlock) v3 l3 ∧ Below w.heap.size w w' := by
  have hA := Aside0.mk (And.intro hr2 hr3)
  obtain ⟨hok, k1, k2, k3, k4⟩ := sendE_zero he
  obtain ⟨hb01, _, ho3, _⟩ := shOk_bounds hok
  have hl3 := ordB_len ho3
  clear he ho3
  obtain ⟨⟨p0, p1⟩, p2, p3⟩ := hb01
  have hv := Aside0.mk (fun W (hW : Below w.heap.size w W) => share_Valid.calls a0 a1 A2 c2 l2 A3 c3 l3 true W (Kd.C_below hA.out.1 hW) hc2 (Kd.C_below hA.out.2 hW) hc3 (by unfold share_Valid.f; rw [hok]))
  have hq := Aside0.mk (between_f amps 1 1000)
  have hs := Aside0.mk (SendW.start w a0 a1 A2 l2.length c2 A3 l3.length c3)
  have hown := Aside0.mk (fun W (hW : Below w.heap.size w W) => own_calls a0 a1 A2 c2 l2 A3 c3 l3 W (Kd.C_below hA.out.1 hW) hc2 (by omega) (Kd.C_below hA.out.2 hW) hc3 hl3)
  rw [decide_eq_true k1] at hq
  obtain ⟨k1a, k1b⟩ := k1
  have k3' : ¬ (64 : Int) ≤ (l2.length : Int) := by omega
  clear hr2 hr3 hA hok
  go_enter Try.func11, Try.ntmps11
  go_wp2_with fail
  refine (hv.out _ hs.out.b).mono ?_
  rintro e w2 ⟨rfl, hb2⟩
  have hs2 := Aside0.mk (hs.out.below hb2)
  clear hb2 hs hv
  go_wp2_with fail
  refine (share_between.calls _ _ _ _ _ hq.out).mono ?_
  rintro e w3 ⟨rfl, ⟨⟨n, rfl⟩⟩⟩
  have hs3 := Aside0.mk (hs2.out.drewN n)
  clear hs2 hq
  generalize w2.drewN n = w3 at *
  have x0 := blk_cell hs3.out.s 0
  have x1 := blk_cell hs3.out.s 1
  have x2 := blk_cell hs3.out.s 2
  have x3 := blk_cell hs3.out.s 3
  simp at x0 x1 x2 x3
  go_upto_region 13 with (fail)
  have hT := Aside0.mk (blk_new w3 (.cells #[.int .i64 a1, .int .i64 amps] 27))
  have hTz : Aside0 (w.heap.size + 2 < w3.heap.size) := ⟨blk_lt hs3.out.t⟩
  have hs4 := Aside0.mk (hs3.out.alloc (.cells #[.int .i64 a1, .int .i64 amps] 27))
  clear x0 x1 x2 x3
  generalize w3.alloc (.cells #[.int .i64 a1, .int .i64 amps] 27) = w4 at *
  have hTl : Aside0 (w3.heap.size < w4.heap.size) := ⟨blk_lt hT.out⟩
  have x0 := blk_cell hs4.out.s 0
  have x1 := blk_cell hs4.out.s 1
  have x2 := blk_cell hs4.out.s 2
  have x3 := blk_cell hs4.out.s 3
  simp at x0 x1 x2 x3
  go_wp2_with fail
  refine (hown.out _ hs4.out.b).mono ?_
  rintro e w5 ⟨g2, g3, rfl, r2, r3, hne, hb5⟩
  have r2' := Aside0.mk r2
  have r3' := Aside0.mk r3
  have hg2 : Aside0 (w4.heap.size ≤ g2 ∧ w4.heap.size ≤ g3) := ⟨r2.low, r3.low⟩
  have hne' := Aside0.mk hne
  have hT5 := Aside0.mk (blk_below hT.out hb5)
  have hs5 := Aside0.mk (hs4.out.below hb5)
  clear r2 r3 hne hb5 x0 x1 x2 x3 hown hs3 hs4 hT
  have x0 := blk_cell hs5.out.s 0
  have x1 := blk_cell hs5.out.s 1
  have x2 := blk_cell hs5.out.s 2
  have x3 := blk_cell hs5.out.s 3
  simp at x0 x1 x2 x3
  have v0 := blk_frozen hs5.out.s 0
  have v1 := blk_frozen hs5.out.s 1
  have v2 := blk_frozen hs5.out.s 2
  have v3 := blk_frozen hs5.out.s 3
  go_upto_region 14 with (fail)
  have hs6 := Aside0.mk (hs5.out.put a0 a1 (some ⟨g2, 0, none⟩) l2.length (l2.length + 1) (some ⟨g3, 0, none⟩) l3.length (l3.length + 1))
  have hfar : ∀ g, w3.heap.size ≤ g → g ≠ w.heap.size := fun g hg => by have := hTz.out; omega
  have hT6 := Aside0.mk (blk_far (blk_far (blk_far (blk_far hT5.out (p := ⟨w.heap.size, 0, none⟩) (hfar _ (Nat.le_refl _)) (.int .i64 a0)) (p := ⟨w.heap.size, 1, none⟩) (hfar _ (Nat.le_refl _)) (.int .i64 a1)) (p := ⟨w.heap.size, 2, none⟩) (hfar _ (Nat.le_refl _)) (.slice (some ⟨g2, 0, none⟩) l2.length (l2.length + 1))) (p := ⟨w.heap.size, 3, none⟩) (hfar _ (Nat.le_refl _)) (.slice (some ⟨g3, 0, none⟩) l3.length (l3.length + 1)))
  have hg2f : g2 ≠ w.heap.size := hfar _ (by have := hg2.out.1; have := hTl.out; omega)
  have hg3f : g3 ≠ w.heap.size := hfar _ (by have := hg2.out.2; have := hTl.out; omega)
  have r26 := Aside0.mk ((((r2'.out.far (p := ⟨w.heap.size, 0, none⟩) hg2f (.int .i64 a0)).far (p := ⟨w.heap.size, 1, none⟩) hg2f (.int .i64 a1)).far (p := ⟨w.heap.size, 2, none⟩) hg2f (.slice (some ⟨g2, 0, none⟩) l2.length (l2.length + 1))).far (p := ⟨w.heap.size, 3, none⟩) hg2f (.slice (some ⟨g3, 0, none⟩) l3.length (l3.length + 1)))
  have r36 := Aside0.mk ((((r3'.out.far (p := ⟨w.heap.size, 0, none⟩) hg3f (.int .i64 a0)).far (p := ⟨w.heap.size, 1, none⟩) hg3f (.int .i64 a1)).far (p := ⟨w.heap.size, 2, none⟩) hg3f (.slice (some ⟨g2, 0, none⟩) l2.length (l2.length + 1))).far (p := ⟨w.heap.size, 3, none⟩) hg3f (.slice (some ⟨g3, 0, none⟩) l3.length (l3.length + 1)))
  have hg2f' := Aside0.mk hg2f
  have hg3f' := Aside0.mk hg3f
  clear hg2f hg3f hfar r2' r3' hs5 hT5 x0 x1 x2 x3 v0 v1 v2 v3
  generalize ((((w5.setCell ⟨w.heap.size, 0, none⟩ (.int .i64 a0)).setCell ⟨w.heap.size, 1, none⟩ (.int .i64 a1)).setCell ⟨w.heap.size, 2, none⟩ (.slice (some ⟨g2, 0, none⟩) l2.length (l2.length + 1))).setCell ⟨w.heap.size, 3, none⟩ (.slice (some ⟨g3, 0, none⟩) l3.length (l3.length + 1))) = w6 at *
  have x0 := blk_cell hs6.out.s 0
  simp at x0
  have v0 := blk_frozen hs6.out.s 0
  go_upto_region 15 with (fail)
  have hs7 := Aside0.mk (hs6.out.put0 (a0 - amps))
  have hT7 := Aside0.mk (blk_far hT6.out (p := ⟨w.heap.size, 0, none⟩) (by have := hTz.out; show w3.heap.size ≠ w.heap.size; omega) (.int .i64 (a0 - amps)))
  have r27 := Aside0.mk (r26.out.far (p := ⟨w.heap.size, 0, none⟩) hg2f'.out (.int .i64 (a0 - amps)))
  have r37 := Aside0.mk (r36.out.far (p := ⟨w.heap.size, 0, none⟩) hg3f'.out (.int .i64 (a0 - amps)))
  clear x0 v0 hs6 hT6 r26 r36
  generalize w6.setCell ⟨w.heap.size, 0, none⟩ (.int .i64 (a0 - amps)) = w7 at *
  have x1 := blk_cell hs7.out.s 1
  simp at x1
  have v1 := blk_frozen hs7.out.s 1
  go_upto_region 16 with (fail)
  have hs8 := Aside0.mk (hs7.out.put1 (a1 + 1))
  have hT8 := Aside0.mk (blk_far hT7.out (p := ⟨w.heap.size, 1, none⟩) (by have := hTz.out; show w3.heap.size ≠ w.heap.size; omega) (.int .i64 (a1 + 1)))
  have r28 := Aside0.mk (r27.out.far (p := ⟨w.heap.size, 1, none⟩) hg2f'.out (.int .i64 (a1 + 1)))
  have r38 := Aside0.mk (r37.out.far (p := ⟨w.heap.size, 1, none⟩) hg3f'.out (.int .i64 (a1 + 1)))
  clear x1 v1 hs7 hT7 r27 r37
  generalize w7.setCell ⟨w.heap.size, 1, none⟩ (.int .i64 (a1 + 1)) = w8 at *
  have x2 := blk_cell hs8.out.s 2
  have t0 := blk_cell hT8.out 0
  have t1 := blk_cell hT8.out 1
  simp at x2 t0 t1
  have hz8 : Aside0 (w.heap.size ≤ w8.heap.size) := ⟨by have := blk_lt hs8.out.s; omega⟩
  have HR := Aside0.mk ((r28.out.low' (w0 := w) (by have := hTl.out; have := hTz.out; omega)).R (ok := fun k => (k ≠ g3 ∧ k ≠ w.heap.size) ∧ k ≠ w.heap.size + 1 ∧ k ≠ w.heap.size + 2) trCells_len (fun x => k27_mkM _ _ _ x) ⟨⟨hne'.out, hg2f'.out⟩, by have := hg2.out.1; have := hTl.out; have := hTz.out; omega⟩ (by simp [maxLen]; omega))
  have hfr : Aside0 (∀ k, w8.heap.size ≤ k → (k ≠ g3 ∧ k ≠ w.heap.size) ∧ k ≠ w.heap.size + 1 ∧ k ≠ w.heap.size + 2) := ⟨fun k hk => by have := r38.out.lt; have := blk_lt hs8.out.t; omega⟩
  have hl9 : (l2.length + 1) * 16 ≤ 140737488355328 := by omega
  have hsc : some w.heap.size ≠ (Value.slice (some ⟨g2, 0, none⟩) l2.length (l2.length + 1)).ownBlock := by simp [Value.ownBlock]; exact fun h => hg2f'.out h.symm
  have hsc1 : some (w.heap.size + 1) ≠ (Value.slice (some ⟨g2, 0, none⟩) l2.length (l2.length + 1)).ownBlock := by simp [Value.ownBlock]; have := hg2.out.1; have := hTl.out; have := hTz.out; omega
  have hsc2 : some (w.heap.size + 2) ≠ (Value.slice (some ⟨g2, 0, none⟩) l2.length (l2.length + 1)).ownBlock := by simp [Value.ownBlock]; have := hg2.out.1; have := hTl.out; have := hTz.out; omega
  have hscT : some w3.heap.size ≠ (Value.slice (some ⟨g2, 0, none⟩) l2.length (l2.length + 1)).ownBlock := by simp [Value.ownBlock]; have := hg2.out.1; have := hTl.out; omega
  have hsc3 : some g3 ≠ (Value.slice (some ⟨g2, 0, none⟩) l2.length (l2.length + 1)).ownBlock := by simp [Value.ownBlock]; exact fun h => hne'.out h.symm
  have hscA := Aside0.mk (And.intro hsc (And.intro hsc1 (And.intro hsc2 (And.intro hscT hsc3))))
  clear hsc hsc1 hsc2 hscT hsc3
  go_wp2_with (
      at_builtin
      go_loud (refine Kd.R_append (w0 := w) k27 w.heap.size rfl _ _ 22 27 (.agg #[.int .i64 0, .int .i64 0]) 16 rfl Try.underlying22 info27 rfl (by decide) (by decide) (.slice (some ⟨g2, 0, none⟩) l2.length (l2.length + 1)) l2 ⟨a1, amps⟩ [.int .i64 a1, .int .i64 amps] (fun k => (k ≠ g3 ∧ k ≠ w.heap.size) ∧ k ≠ w.heap.size + 1 ∧ k ≠ w.heap.size + 2) (fun k => False) rfl rfl (k27_mkM _ _ _ ⟨a1, amps⟩) (fun k h => h.elim) hfr.out HR.out hs8.out.b hz8.out hl9 ?_)
      intro v1 w9 hq1 hb1 hg1 hat1
      obtain ⟨A9, c9, hv1, _, _⟩ := Kd.R_reads hq1
      subst hv1
      have hs9 := Aside0.mk (SendW.mk (blk_grown hs8.out.s hg1 hscA.out.1) (blk_grown hs8.out.r hg1 hscA.out.2.1) (blk_grown hs8.out.t hg1 hscA.out.2.2.1) hb1)
      have hT9 := Aside0.mk (blk_grown hT8.out hg1 hscA.out.2.2.2.1)
      have r39 := Aside0.mk (r38.out.grown hg1 hscA.out.2.2.2.2)
      have hq9 := Aside0.mk hq1
      clear hq1 hb1 hg1 hat1 x2 t0 t1
      have x2 := blk_cell hs9.out.s 2
      simp at x2
      have v2 := blk_frozen hs9.out.s 2)
  have hs10 := Aside0.mk (hs9.out.put2 A9 (l2.length + 1) c9)
  have hT10 := Aside0.mk (blk_far hT9.out (p := ⟨w.heap.size, 2, none⟩) (by have := hTz.out; show w3.heap.size ≠ w.heap.size; omega) (.slice A9 (l2.length + 1) c9))
  have r310 := Aside0.mk (r39.out.far (p := ⟨w.heap.size, 2, none⟩) hg3f'.out (.slice A9 (l2.length + 1) c9))
  have hl10 : (l2 ++ [(⟨a1, amps⟩ : S27)]).length = l2.length + 1 := by simp
  have hq10 : Aside0 (Kd.R k27 27 (w9.setCell ⟨w.heap.size, 2, none⟩ (.slice A9 (l2.length + 1) c9)) w.heap.size (fun k => (k ≠ g3 ∧ k ≠ w.heap.size) ∧ k ≠ w.heap.size + 1 ∧ k ≠ w.heap.size + 2) (.slice A9 (l2.length + 1) c9) (l2 ++ [⟨a1, amps⟩])) := ⟨by
    have h := hq9.out
    rw [hl10] at h
    exact Kd.R_far h (p := ⟨w.heap.size, 2, none⟩) (fun k hk => hk.1.2) _⟩
  clear hs9 hT9 r39 hq9 x2 v2 hscA hfr HR hT8 hs8 r28 r38 hl10
  generalize w9.setCell ⟨w.heap.size, 2, none⟩ (.slice A9 (l2.length + 1) c9) = w10 at *
  have x0 := blk_cell hs10.out.s 0
  have x1 := blk_cell hs10.out.s 1
  have x2 := blk_cell hs10.out.s 2
  have x3 := blk_cell hs10.out.s 3
  have t0 := blk_cell hT10.out 0
  have t1 := blk_cell hT10.out 1
  have y0 := blk_cell hs10.out.r 0
  have y1 := blk_cell hs10.out.r 1
  have y2 := blk_cell hs10.out.r 2
  have y3 := blk_cell hs10.out.r 3
  have z0 := blk_cell hs10.out.t 0
  have z1 := blk_cell hs10.out.t 1
  simp at x0 x1 x2 x3 t0 t1 y0 y1 y2 y3 z0 z1
  have v0 := blk_frozen hs10.out.r 0
  have v1 := blk_frozen hs10.out.r 1
  have v2 := blk_frozen hs10.out.r 2
  have v3 := blk_frozen hs10.out.r 3
  have q0 := blk_frozen hs10.out.t 0
  have q1 := blk_frozen hs10.out.t 1
  have n1 : ¬ w3.heap.size = w.heap.size + 1 := by have := hTz.out; omega
  have n2 : ¬ w.heap.size + 1 = w3.heap.size := by have := hTz.out; omega
  have n3 : ¬ w3.heap.size = w.heap.size + 2 := by have := hTz.out; omega
  have n4 : ¬ w.heap.size + 2 = w3.heap.size := by have := hTz.out; omega
  go_region
  all_goals
    have hfin := Aside0.mk (hs10.out.fin (.int .i64 (a0 - amps)) (.int .i64 (a1 + 1)) (.slice A9 (l2.length + 1) c9) (.slice (some ⟨g3, 0, none⟩) l3.length (l3.length + 1)) (.int .i64 a1) (.int .i64 amps)).drew
    have hqf := Aside0.mk (R_six (b1 := w.heap.size + 1) (b2 := w.heap.size + 2) hq10.out (fun k hk => ⟨hk.2.1, hk.2.2⟩) (.int .i64 (a0 - amps)) (.int .i64 (a1 + 1)) (.slice A9 (l2.length + 1) c9) (.slice (some ⟨g3, 0, none⟩) l3.length (l3.length + 1)) (.int .i64 a1) (.int .i64 amps))
    have hqi := Aside0.mk (R_six (b1 := w.heap.size + 1) (b2 := w.heap.size + 2) ((r310.out.low' (w0 := w) (by have := hTl.out; have := hTz.out; omega)).R (ok := fun k => k = g3) inCells_len (fun x => rfl) rfl (by simp [maxLen]; omega))
      (fun k hk => by subst hk; have := hg2.out.2; have := hTl.out; have := hTz.out; omega) (.int .i64 (a0 - amps)) (.int .i64 (a1 + 1)) (.slice A9 (l2.length + 1) c9) (.slice (some ⟨g3, 0, none⟩) l3.length (l3.length + 1)) (.int .i64 a1) (.int .i64 amps))
    have hnn := Aside0.mk (Kd.R_away hq10.out (g := g3) (fun k hk => hk.1.1))
    clear hg2 hTl hTz r310 hq10 hs10 hne' hg2f' hg3f' hT10
    go_wp2
    refine bodyPost_ret (v := .tuple #[.agg #[.int .i64 (a0 - amps), .int .i64 (a1 + 1), .slice A9 (l2.length + 1) c9, .slice (some ⟨g3, 0, none⟩) l3.length (l3.length + 1)], .agg #[.int .i64 a1, .int .i64 amps], .int .i64 0]) (by simp [results, Try.results11, go_sem, y0, y1, y2, y3, z0, z1]) rfl
      ⟨_, _, rfl, ?_, ?_, hfin.out⟩
    · exact Kd.R_mono hqf.out (fun k hk => by simp [Value.ownBlock]; exact hk.1.1)
    · exact Kd.R_mono hqi.out (fun k hk => by subst hk; exact hnn.out)

theorem share_Send.calls (a0_0 a0_1 : Int) (A0_2 : Option Addr) (c0_2 : Nat) (l0_2 : List S27) (A0_3 : Option Addr) (c0_3 : Nat) (l0_3 : List Int) (a1 : Int) (r1 r2 : Int) (r3 : List S27) (r4 : List Int) (r5 r6 r7 : Int) (w : World)
    (hr0_2 : Kd.C k27 w A0_2 l0_2.length l0_2) (hc0_2 : l0_2.length ≤ c0_2) (hr0_3 : Kd.C (Kd.int .i64) w A0_3 l0_3.length l0_3) (hc0_3 : l0_3.length ≤ c0_3) (h : share_Send.f a0_0 a0_1 l0_2 l0_3 a1 = some (r1, r2, r3, r4, r5, r6, r7)) :
    Calls Try.prog 11 #[.agg #[.int .i64 a0_0, .int .i64 a0_1, .slice A0_2 l0_2.length c0_2, .slice A0_3 l0_3.length c0_3], .int .i64 a1] w fun e w' => ∃ v1 v2 : Value,
      e = .returned (.tuple #[.agg #[.int .i64 r1, .int .i64 r2, v1, v2], .agg #[.int .i64 r5, .int .i64 r6], .int .i64 r7]) ∧ Kd.R k27 27 w' w.heap.size (fun k => some k ≠ v2.ownBlock) v1 r3 ∧ Kd.R (Kd.int .i64) 3 w' w.heap.size (fun k => some k ≠ v1.ownBlock) v2 r4 ∧ Below w.heap.size w w' := by
  unfold share_Send.f at h
  by_cases he : sendE a0_0 a0_1 l0_2 l0_3 a1 = 0
  · rw [if_pos he] at h
    simp only [Option.some.injEq, Prod.mk.injEq] at h
    obtain ⟨rfl, rfl, rfl, rfl, rfl, rfl, rfl⟩ := h
    exact send_yes a0_0 a0_1 A0_2 c0_2 l0_2 A0_3 c0_3 l0_3 a1 w hr0_2 hc0_2 hr0_3 hc0_3 he
  · rw [if_neg he] at h
    simp only [Option.some.injEq, Prod.mk.injEq] at h
    obtain ⟨rfl, rfl, rfl, rfl, rfl, rfl, rfl⟩ := h
    refine (send_no a0_0 a0_1 A0_2 c0_2 l0_2 A0_3 c0_3 l0_3 a1 _ w hr0_2 hc0_2 hr0_3 hc0_3 rfl he).mono ?_
    rintro e w' ⟨rfl, hb⟩
    exact ⟨_, _, rfl, Kd.R_nil _ _ _ _ _, Kd.R_nil _ _ _ _ _, hb⟩
end Go.Proofs.Ythoimnockinfbaa.Pr
