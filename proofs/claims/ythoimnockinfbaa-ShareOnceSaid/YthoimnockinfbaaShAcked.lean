import Derived.Test.YthoimnockinfbaaShReceive
import Derived.Test.YthoimnockinfbaaDelT
set_option linter.unusedVariables false
set_option linter.unusedSimpArgs false
/-! share.Acked. -/
namespace Go.Proofs.Ythoimnockinfbaa.Pr
open Go.RowKit Go.Proofs.YthoimnockinfbaaW.PrintWords Go.Proofs.YthoimnockinfbaaW.PrintLast Go.Proofs.YthoimnockinfbaaW.PrintMore
attribute [local go_sem] Oper.semAt_some

def isNum (n : Int) (t : S27) : Bool := t.f0 == n
def ackE (h n : Int) (out : List S27) (inn : List Int) (num : Int) : Int :=
  if shOk h n out inn = true then if idxFrom (isNum num) 0 out < 0 then 4 else 0 else 1
def share_Acked.f (h n : Int) (out : List S27) (inn : List Int) (num : Int) : Option (Int × Int × List S27 × List Int × Int) :=
  if ackE h n out inn num = 0 then some (h, n, out.eraseIdx (idxFrom (isNum num) 0 out).toNat, inn, 0) else some (0, 0, [], [], ackE h n out inn num)

theorem idxFrom_lt {α : Type} (p : α → Bool) : ∀ (l : List α) (i : Nat), (idxFrom p i l < 0 ∧ idxFrom p i l = -1) ∨ ((i : Int) ≤ idxFrom p i l ∧ idxFrom p i l < (i : Int) + l.length)
  | [], i => by left; simp [idxFrom]
  | x :: l, i => by
    simp only [idxFrom]
    by_cases h : p x = true
    · rw [if_pos h]; right; simp; omega
    · rw [if_neg h]
      rcases idxFrom_lt p l (i + 1) with h | h
      · left; exact h
      · right; simp only [List.length_cons]; omega

/-- The closure that asks for a number that it has captured. -/
theorem ack1_calls (b : Nat) (n : Int) (x : S27) (W : World) (hb : W.cell? ⟨b, 0, none⟩ = some (.int .i64 n)) :
    Calls Try.prog 31 #[.agg #[.int .i64 x.f0, .int .i64 x.f1], .pointer (some ⟨b, 0, none⟩)] W fun e w' => e = .returned (.bool (isNum n x)) ∧ Below W.heap.size W w' := by
  have hlt := World.block_lt_of_cell? _ _ hb
  have hlt' : b < W.heap.size := hlt
  have hne : ¬ b = W.heap.size := by omega
  have hb1 : (W.alloc (.cells #[.int .i64 x.f0, .int .i64 x.f1] 27)).cell? ⟨b, 0, none⟩ = some (.int .i64 n) := (below_alloc (Below.refl _ _) _).cell (p := ⟨b, 0, none⟩) hlt |>.trans hb
  have hfin := Aside0.mk (below_alloc (Below.refl W.heap.size W) (.cells #[.int .i64 x.f0, .int .i64 x.f1] 27))
  unfold isNum
  go_enter Try.func31, Try.ntmps31
  go_wp2
  go_ret
  exact ⟨rfl, hfin.out⟩
structure AckW (w X : World) (a0 a1 : Int) (A2 : Option Addr) (n2 c2 : Nat) (A3 : Option Addr) (n3 c3 : Nat) (t0 : Int) : Prop where
  s : X.heap[w.heap.size]? = some (.cells #[.int .i64 a0, .int .i64 a1, .slice A2 n2 c2, .slice A3 n3 c3] 25 (0, 0))
  t : X.heap[w.heap.size + 1]? = some (.cells #[.int .i64 t0] 3 (0, 0))
  r : X.heap[w.heap.size + 2]? = some (.cells #[.int .i64 0, .int .i64 0, .slice none 0 0, .slice none 0 0] 25 (0, 0))
  b : Below w.heap.size w X
theorem AckW.below {w X : World} {a0 a1 : Int} {A2 : Option Addr} {n2 c2 : Nat} {A3 : Option Addr} {n3 c3 : Nat} {t0 : Int} {X2 : World} (h : AckW w X a0 a1 A2 n2 c2 A3 n3 c3 t0) (hb : Below X.heap.size X X2) : AckW w X2 a0 a1 A2 n2 c2 A3 n3 c3 t0 :=
  ⟨blk_below h.s hb, blk_below h.t hb, blk_below h.r hb, below_step h.b hb⟩
theorem AckW.drewN {w X : World} {a0 a1 : Int} {A2 : Option Addr} {n2 c2 : Nat} {A3 : Option Addr} {n3 c3 : Nat} {t0 : Int} (h : AckW w X a0 a1 A2 n2 c2 A3 n3 c3 t0) (n : Nat) : AckW w (X.drewN n) a0 a1 A2 n2 c2 A3 n3 c3 t0 := ⟨h.s, h.t, h.r, pw_below_drewN h.b n⟩
theorem AckW.grown {w X : World} {a0 a1 : Int} {A2 : Option Addr} {n2 c2 : Nat} {A3 : Option Addr} {n3 c3 : Nat} {t0 : Int} {X2 : World} (h : AckW w X a0 a1 A2 n2 c2 A3 n3 c3 t0) {row : Option Nat} (hg : X.grownBy X2 row) (h0 : ∀ g, row = some g → w.heap.size + 2 < g) : AckW w X2 a0 a1 A2 n2 c2 A3 n3 c3 t0 :=
  ⟨blk_grown h.s hg (fun e => by have := h0 _ e.symm; omega), blk_grown h.t hg (fun e => by have := h0 _ e.symm; omega), blk_grown h.r hg (fun e => by have := h0 _ e.symm; omega),
    ⟨hg.os.trans h.b.os, hg.tape.trans h.b.tape, hg.output.trans h.b.output, Nat.le_trans h.b.size hg.size, fun k hk => (hg.block k (by have := h.b.size; omega) (fun e => by have := h0 _ e.symm; omega)).trans (h.b.block k hk)⟩⟩
theorem AckW.put {w X : World} {a0 a1 : Int} {A2 : Option Addr} {n2 c2 : Nat} {A3 : Option Addr} {n3 c3 : Nat} {t0 : Int} (h : AckW w X a0 a1 A2 n2 c2 A3 n3 c3 t0) (b0 b1 : Int) (B2 : Option Addr) (m2 d2 : Nat) (B3 : Option Addr) (m3 d3 : Nat) :
    AckW w ((((X.setCell ⟨w.heap.size, 0, none⟩ (.int .i64 b0)).setCell ⟨w.heap.size, 1, none⟩ (.int .i64 b1)).setCell ⟨w.heap.size, 2, none⟩ (.slice B2 m2 d2)).setCell ⟨w.heap.size, 3, none⟩ (.slice B3 m3 d3)) b0 b1 B2 m2 d2 B3 m3 d3 t0 := by
  refine ⟨blk_set (blk_set (blk_set (blk_set h.s 0 _) 1 _) 2 _) 3 _, ?_, ?_, ?_⟩
  · exact blk_far (blk_far (blk_far (blk_far h.t (by simp) _) (by simp) _) (by simp) _) (by simp) _
  · exact blk_far (blk_far (blk_far (blk_far h.r (by simp) _) (by simp) _) (by simp) _) (by simp) _
  · exact (((h.b.setCell (Nat.le_refl _) _).setCell (Nat.le_refl _) _).setCell (Nat.le_refl _) _).setCell (Nat.le_refl _) _
theorem AckW.put0 {w X : World} {a0 a1 : Int} {A2 : Option Addr} {n2 c2 : Nat} {A3 : Option Addr} {n3 c3 : Nat} {t0 : Int} (h : AckW w X a0 a1 A2 n2 c2 A3 n3 c3 t0) (b0 : Int) : AckW w (X.setCell ⟨w.heap.size, 0, none⟩ (.int .i64 b0)) b0 a1 A2 n2 c2 A3 n3 c3 t0 :=
  ⟨blk_set h.s 0 _, blk_far h.t (by simp) _, blk_far h.r (by simp) _, h.b.setCell (Nat.le_refl _) _⟩
theorem AckW.put2 {w X : World} {a0 a1 : Int} {A2 : Option Addr} {n2 c2 : Nat} {A3 : Option Addr} {n3 c3 : Nat} {t0 : Int} (h : AckW w X a0 a1 A2 n2 c2 A3 n3 c3 t0) (B2 : Option Addr) (m2 d2 : Nat) : AckW w (X.setCell ⟨w.heap.size, 2, none⟩ (.slice B2 m2 d2)) a0 a1 B2 m2 d2 A3 n3 c3 t0 :=
  ⟨blk_set h.s 2 _, blk_far h.t (by simp) _, blk_far h.r (by simp) _, h.b.setCell (Nat.le_refl _) _⟩
theorem AckW.put3 {w X : World} {a0 a1 : Int} {A2 : Option Addr} {n2 c2 : Nat} {A3 : Option Addr} {n3 c3 : Nat} {t0 : Int} (h : AckW w X a0 a1 A2 n2 c2 A3 n3 c3 t0) (B3 : Option Addr) (m3 d3 : Nat) : AckW w (X.setCell ⟨w.heap.size, 3, none⟩ (.slice B3 m3 d3)) a0 a1 A2 n2 c2 B3 m3 d3 t0 :=
  ⟨blk_set h.s 3 _, blk_far h.t (by simp) _, blk_far h.r (by simp) _, h.b.setCell (Nat.le_refl _) _⟩
theorem AckW.fin {w X : World} {a0 a1 : Int} {A2 : Option Addr} {n2 c2 : Nat} {A3 : Option Addr} {n3 c3 : Nat} {t0 : Int} (h : AckW w X a0 a1 A2 n2 c2 A3 n3 c3 t0) (u0 u1 u2 u3 : Value) :
    Below w.heap.size w ((((X.setCell ⟨w.heap.size + 2, 0, none⟩ u0).setCell ⟨w.heap.size + 2, 1, none⟩ u1).setCell ⟨w.heap.size + 2, 2, none⟩ u2).setCell ⟨w.heap.size + 2, 3, none⟩ u3) :=
  (((h.b.setCell (by show w.heap.size ≤ w.heap.size + 2; omega) _).setCell (by show w.heap.size ≤ w.heap.size + 2; omega) _).setCell (by show w.heap.size ≤ w.heap.size + 2; omega) _).setCell (by show w.heap.size ≤ w.heap.size + 2; omega) _
theorem AckW.start (w : World) (a0 a1 : Int) (A2 : Option Addr) (n2 c2 : Nat) (A3 : Option Addr) (n3 c3 : Nat) (t0 : Int) :
    AckW w (((w.alloc (.cells #[.int .i64 a0, .int .i64 a1, .slice A2 n2 c2, .slice A3 n3 c3] 25)).alloc (.cells #[.int .i64 t0] 3)).alloc (.cells #[.int .i64 0, .int .i64 0, .slice none 0 0, .slice none 0 0] 25)) a0 a1 A2 n2 c2 A3 n3 c3 t0 := by
  have h1 := blk_new w (.cells #[.int .i64 a0, .int .i64 a1, .slice A2 n2 c2, .slice A3 n3 c3] 25)
  have h2 := blk_new (w.alloc (.cells #[.int .i64 a0, .int .i64 a1, .slice A2 n2 c2, .slice A3 n3 c3] 25)) (.cells #[.int .i64 t0] 3)
  have h3 := blk_new ((w.alloc (.cells #[.int .i64 a0, .int .i64 a1, .slice A2 n2 c2, .slice A3 n3 c3] 25)).alloc (.cells #[.int .i64 t0] 3)) (.cells #[.int .i64 0, .int .i64 0, .slice none 0 0, .slice none 0 0] 25)
  rw [World.size_alloc] at h2
  rw [World.size_alloc, World.size_alloc] at h3
  refine ⟨?_, ?_, h3, ?_⟩
  · exact blk_below (blk_below h1 (below_alloc (Below.refl _ _) _)) (below_alloc (Below.refl _ _) _)
  · exact blk_below h2 (below_alloc (Below.refl _ _) _)
  · exact ((((Below.refl _ _).alloc (Nat.le_refl _) _).alloc (by simp) _).alloc (by simp; omega) _)


set_option maxHeartbeats 4000000 in
theorem ack_no (a0 a1 : Int) (A2 : Option Addr) (c2 : Nat) (l2 : List S27) (A3 : Option Addr) (c3 : Nat) (l3 : List Int) (t0 code : Int) (w : World) (hr2 : Kd.C k27 w A2 l2.length l2) (hc2 : l2.length ≤ c2)
    (hr3 : Kd.C (Kd.int .i64) w A3 l3.length l3) (hc3 : l3.length ≤ c3) (he : ackE a0 a1 l2 l3 t0 = code) (hcode : code ≠ 0) :
    Calls Try.prog 15 #[.agg #[.int .i64 a0, .int .i64 a1, .slice A2 l2.length c2, .slice A3 l3.length c3], .int .i64 t0] w fun e w' =>
      e = .returned (.tuple #[.agg #[.int .i64 0, .int .i64 0, .slice none 0 0, .slice none 0 0], .int .i64 code]) ∧ Below w.heap.size w w' := by
  have hA := Aside0.mk (And.intro hr2 hr3)
  have hv := Aside0.mk (fun W (hW : Below w.heap.size w W) => share_Valid.calls a0 a1 A2 c2 l2 A3 c3 l3 (shOk a0 a1 l2 l3) W (Kd.C_below hA.out.1 hW) hc2 (Kd.C_below hA.out.2 hW) hc3 rfl)
  have hs := Aside0.mk (AckW.start w a0 a1 A2 l2.length c2 A3 l3.length c3 t0)
  have eg := enters_of Try.func31 (by kernel_rfl) rfl
  have hix : Aside0 (∀ W, AckW w W a0 a1 A2 l2.length c2 A3 l3.length c3 t0 → Calls Try.prog 30 #[.slice A2 l2.length c2, .func (.func 31) #[] #[.pointer (some ⟨w.heap.size + 1, 0, none⟩)]] W fun e w' => e = .returned (.int .i64 (idxFrom (isNum t0) 0 l2)) ∧ Below W.heap.size W w') := ⟨fun W hW =>
    idxT_calls A2 c2 l2 31 #[.pointer (some ⟨w.heap.size + 1, 0, none⟩)] (isNum t0) _ W (Kd.C_below hA.out.1 hW.b) hc2 eg (fun W' x hb => by
      have e0 := blk_cell (blk_below hW.t hb) 0
      simp at e0
      exact ack1_calls (w.heap.size + 1) t0 x W' e0) rfl⟩
  clear eg
  unfold ackE at he
  have he' := Aside0.mk he
  clear he hr2 hr3
  cases hok : shOk a0 a1 l2 l3 with
  | false =>
    rw [hok] at hv he'
    have hce : code = 1 := by simpa using he'.out.symm
    subst hce
    clear he' hcode
    clear hok
    go_enter Try.func15, Try.ntmps15
    go_wp2_with fail
    refine (hv.out _ hs.out.b).mono ?_
    rintro e w2 ⟨rfl, hb2⟩
    have hs2 := Aside0.mk (hs.out.below hb2)
    clear hb2 hs hv
    have y0 := blk_cell hs2.out.r 0
    have y1 := blk_cell hs2.out.r 1
    have y2 := blk_cell hs2.out.r 2
    have y3 := blk_cell hs2.out.r 3
    simp at y0 y1 y2 y3
    have v0 := blk_frozen hs2.out.r 0
    have v1 := blk_frozen hs2.out.r 1
    have v2 := blk_frozen hs2.out.r 2
    have v3 := blk_frozen hs2.out.r 3
    go_wp2
    refine bodyPost_ret (v := .tuple #[.agg #[.int .i64 0, .int .i64 0, .slice none 0 0, .slice none 0 0], .int .i64 1]) (by simp [results, Try.results15, go_sem, y0, y1, y2, y3]) rfl ⟨rfl, ?_⟩
    exact hs2.out.fin _ _ _ _
  | true =>
    rw [hok] at hv he'
    simp only [if_true] at he'
    clear hok
    by_cases k1 : idxFrom (isNum t0) 0 l2 < 0
    · simp only [if_pos k1] at he'
      generalize idxFrom (isNum t0) 0 l2 = ii at *
      have hce : code = 4 := by simpa using he'.out.symm
      subst hce
      clear he' hcode
      go_enter Try.func15, Try.ntmps15
      go_wp2_with fail
      refine (hv.out _ hs.out.b).mono ?_
      rintro e w2 ⟨rfl, hb2⟩
      have hs2 := Aside0.mk (hs.out.below hb2)
      clear hb2 hs hv
      have x0 := blk_cell hs2.out.s 0
      have x1 := blk_cell hs2.out.s 1
      have x2 := blk_cell hs2.out.s 2
      have x3 := blk_cell hs2.out.s 3
      have z0 := blk_cell hs2.out.t 0
      have y0 := blk_cell hs2.out.r 0
      have y1 := blk_cell hs2.out.r 1
      have y2 := blk_cell hs2.out.r 2
      have y3 := blk_cell hs2.out.r 3
      simp at x0 x1 x2 x3 z0 y0 y1 y2 y3
      go_wp2_with fail
      refine (hix.out w2 hs2.out).mono ?_
      rintro e w3 ⟨rfl, hb3⟩
      have hs3 := Aside0.mk (hs2.out.below hb3)
      clear hs2 hb3 x0 x1 x2 x3 y0 y1 y2 y3 z0 hix
      have x0 := blk_cell hs3.out.s 0
      have x1 := blk_cell hs3.out.s 1
      have x2 := blk_cell hs3.out.s 2
      have x3 := blk_cell hs3.out.s 3
      have z0 := blk_cell hs3.out.t 0
      have y0 := blk_cell hs3.out.r 0
      have y1 := blk_cell hs3.out.r 1
      have y2 := blk_cell hs3.out.r 2
      have y3 := blk_cell hs3.out.r 3
      simp at x0 x1 x2 x3 z0 y0 y1 y2 y3
      have v0 := blk_frozen hs3.out.r 0
      have v1 := blk_frozen hs3.out.r 1
      have v2 := blk_frozen hs3.out.r 2
      have v3 := blk_frozen hs3.out.r 3
      go_wp2
      refine bodyPost_ret (v := .tuple #[.agg #[.int .i64 0, .int .i64 0, .slice none 0 0, .slice none 0 0], .int .i64 4]) (by simp [results, Try.results15, go_sem, y0, y1, y2, y3]) rfl ⟨rfl, ?_⟩
      exact hs3.out.fin _ _ _ _
    · simp only [if_neg k1] at he'
      exact absurd he'.out.symm hcode

theorem ackE_zero {a0 a1 : Int} {l2 : List S27} {l3 : List Int} {num : Int} (he : ackE a0 a1 l2 l3 num = 0) : shOk a0 a1 l2 l3 = true ∧ ¬ idxFrom (isNum num) 0 l2 < 0 := by
  unfold ackE at he
  by_cases h : shOk a0 a1 l2 l3 = true
  · rw [if_pos h] at he
    by_cases k1 : idxFrom (isNum num) 0 l2 < 0
    · rw [if_pos k1] at he; cases he
    · exact ⟨h, k1⟩
  · rw [if_neg h] at he; cases he

set_option maxHeartbeats 8000000 in
theorem ack_yes (a0 a1 : Int) (A2 : Option Addr) (c2 : Nat) (l2 : List S27) (A3 : Option Addr) (c3 : Nat) (l3 : List Int) (t0 : Int) (w : World) (hr2 : Kd.C k27 w A2 l2.length l2) (hc2 : l2.length ≤ c2)
    (hr3 : Kd.C (Kd.int .i64) w A3 l3.length l3) (hc3 : l3.length ≤ c3) (he : ackE a0 a1 l2 l3 t0 = 0) :
    Calls Try.prog 15 #[.agg #[.int .i64 a0, .int .i64 a1, .slice A2 l2.length c2, .slice A3 l3.length c3], .int .i64 t0] w fun e w' => ∃ v2 v3 : Value,
      e = .returned (.tuple #[.agg #[.int .i64 a0, .int .i64 a1, v2, v3], .int .i64 0]) ∧
      Kd.R k27 27 w' w.heap.size (fun k => some k ≠ v3.ownBlock) v2 (l2.eraseIdx (idxFrom (isNum t0) 0 l2).toNat) ∧ Kd.R (Kd.int .i64) 3 w' w.heap.size (fun k => some k ≠ v2.ownBlock) v3 l3 ∧ Below w.heap.size w w' := by
  obtain ⟨hok, k1⟩ := ackE_zero he
  obtain ⟨_, ho2, ho3, _⟩ := shOk_bounds hok
  have hl3 := ordB_len ho3
  have hl2 : l2.length ≤ 64 := by have := ordB_len ho2; simpa using this
  have hA := Aside0.mk (And.intro hr2 hr3)
  have hv := Aside0.mk (fun W (hW : Below w.heap.size w W) => share_Valid.calls a0 a1 A2 c2 l2 A3 c3 l3 true W (Kd.C_below hA.out.1 hW) hc2 (Kd.C_below hA.out.2 hW) hc3 (by unfold share_Valid.f; rw [hok]))
  have hs := Aside0.mk (AckW.start w a0 a1 A2 l2.length c2 A3 l3.length c3 t0)
  have eg := enters_of Try.func31 (by kernel_rfl) rfl
  have hix : Aside0 (∀ W, AckW w W a0 a1 A2 l2.length c2 A3 l3.length c3 t0 → Calls Try.prog 30 #[.slice A2 l2.length c2, .func (.func 31) #[] #[.pointer (some ⟨w.heap.size + 1, 0, none⟩)]] W fun e w' => e = .returned (.int .i64 (idxFrom (isNum t0) 0 l2)) ∧ Below W.heap.size W w') := ⟨fun W hW =>
    idxT_calls A2 c2 l2 31 #[.pointer (some ⟨w.heap.size + 1, 0, none⟩)] (isNum t0) _ W (Kd.C_below hA.out.1 hW.b) hc2 eg (fun W' x hb => by
      have e0 := blk_cell (blk_below hW.t hb) 0
      simp at e0
      exact ack1_calls (w.heap.size + 1) t0 x W' e0) rfl⟩
  clear eg
  have hown := Aside0.mk (fun W (hW : Below w.heap.size w W) => own_calls a0 a1 A2 c2 l2 A3 c3 l3 W (Kd.C_below hA.out.1 hW) hc2 hl2 (Kd.C_below hA.out.2 hW) hc3 hl3)
  obtain ⟨k, hk, hkl⟩ : ∃ k : Nat, idxFrom (isNum t0) 0 l2 = (k : Int) ∧ k < l2.length := by
    rcases idxFrom_lt (isNum t0) l2 0 with h | h
    · exact absurd h.1 k1
    · exact ⟨(idxFrom (isNum t0) 0 l2).toNat, by omega, by omega⟩
  rw [hk] at hix ⊢
  rw [Int.toNat_natCast]
  have hkz : ¬ (k : Int) < 0 := by omega
  have hel : (l2.eraseIdx k).length = l2.length - 1 := by rw [List.length_eraseIdx]; simp [hkl]
  have hel' := Aside0.mk hel
  clear hr2 hr3 hok he ho2 ho3 hk k1 hel
  go_enter Try.func15, Try.ntmps15
  go_wp2_with fail
  refine (hv.out _ hs.out.b).mono ?_
  rintro e w2 ⟨rfl, hb2⟩
  have hs2 := Aside0.mk (hs.out.below hb2)
  clear hb2 hs hv
  have x0 := blk_cell hs2.out.s 0
  have x1 := blk_cell hs2.out.s 1
  have x2 := blk_cell hs2.out.s 2
  have x3 := blk_cell hs2.out.s 3
  have z0 := blk_cell hs2.out.t 0
  have y0 := blk_cell hs2.out.r 0
  have y1 := blk_cell hs2.out.r 1
  have y2 := blk_cell hs2.out.r 2
  have y3 := blk_cell hs2.out.r 3
  simp at x0 x1 x2 x3 z0 y0 y1 y2 y3
  go_wp2_with fail
  refine (hix.out w2 hs2.out).mono ?_
  rintro e w3 ⟨rfl, hb3⟩
  have hs3 := Aside0.mk (hs2.out.below hb3)
  clear hs2 hb3 x0 x1 x2 x3 y0 y1 y2 y3 z0 hix
  have x0 := blk_cell hs3.out.s 0
  have x1 := blk_cell hs3.out.s 1
  have x2 := blk_cell hs3.out.s 2
  have x3 := blk_cell hs3.out.s 3
  have z0 := blk_cell hs3.out.t 0
  have y0 := blk_cell hs3.out.r 0
  have y1 := blk_cell hs3.out.r 1
  have y2 := blk_cell hs3.out.r 2
  have y3 := blk_cell hs3.out.r 3
  simp at x0 x1 x2 x3 z0 y0 y1 y2 y3
  go_wp2_with fail
  refine (hown.out _ hs3.out.b).mono ?_
  rintro e w5 ⟨g2, g3, rfl, r2, r3, hne, hb5⟩
  have r2' := Aside0.mk r2
  have r3' := Aside0.mk r3
  have hg2 : Aside0 (w.heap.size + 2 < g2 ∧ w.heap.size + 2 < g3) := ⟨by have := r2.low; have := r3.low; have := blk_lt hs3.out.r; omega⟩
  have hgl : Aside0 (w.heap.size ≤ w3.heap.size) := ⟨by have := blk_lt hs3.out.s; omega⟩
  have hne' := Aside0.mk hne
  have hs5 := Aside0.mk (hs3.out.below hb5)
  clear r2 r3 hne hb5 hown hs3 x0 x1 x2 x3 z0 y0 y1 y2 y3
  have x0 := blk_cell hs5.out.s 0
  have x1 := blk_cell hs5.out.s 1
  have x2 := blk_cell hs5.out.s 2
  have x3 := blk_cell hs5.out.s 3
  simp at x0 x1 x2 x3
  have u0 := blk_frozen hs5.out.s 0
  have u1 := blk_frozen hs5.out.s 1
  have u2 := blk_frozen hs5.out.s 2
  have u3 := blk_frozen hs5.out.s 3
  go_upto_region 7 with (fail)
  have hs6 := Aside0.mk (hs5.out.put a0 a1 (some ⟨g2, 0, none⟩) l2.length (l2.length + 1) (some ⟨g3, 0, none⟩) l3.length (l3.length + 1))
  have hg2f := Aside0.mk (show g2 ≠ w.heap.size by have := hg2.out; omega)
  have hg3f := Aside0.mk (show g3 ≠ w.heap.size by have := hg2.out; omega)
  have r26 := Aside0.mk ((r2'.out.low' (w0 := w) hgl.out).four hg2f.out (.int .i64 a0) (.int .i64 a1) (.slice (some ⟨g2, 0, none⟩) l2.length (l2.length + 1)) (.slice (some ⟨g3, 0, none⟩) l3.length (l3.length + 1)))
  have r36 := Aside0.mk ((r3'.out.low' (w0 := w) hgl.out).four hg3f.out (.int .i64 a0) (.int .i64 a1) (.slice (some ⟨g2, 0, none⟩) l2.length (l2.length + 1)) (.slice (some ⟨g3, 0, none⟩) l3.length (l3.length + 1)))
  clear hgl r2' r3' hs5 x0 x1 x2 x3 u0 u1 u2 u3
  generalize ((((w5.setCell ⟨w.heap.size, 0, none⟩ (.int .i64 a0)).setCell ⟨w.heap.size, 1, none⟩ (.int .i64 a1)).setCell ⟨w.heap.size, 2, none⟩ (.slice (some ⟨g2, 0, none⟩) l2.length (l2.length + 1))).setCell ⟨w.heap.size, 3, none⟩ (.slice (some ⟨g3, 0, none⟩) l3.length (l3.length + 1))) = w6 at *
  have x0 := blk_cell hs6.out.s 0
  have x1 := blk_cell hs6.out.s 1
  have x2 := blk_cell hs6.out.s 2
  have x3 := blk_cell hs6.out.s 3
  have z0 := blk_cell hs6.out.t 0
  simp at x0 x1 x2 x3 z0
  go_wp2_with fail
  refine (del_calls w w6 g2 (l2.length + 1) k l2 r26.out (Nat.le_refl _) (by omega) hkl).mono ?_
  rintro e w9 ⟨rfl, r29, hg9⟩
  have hs9 := Aside0.mk (hs6.out.grown hg9 (fun g h => by cases h; exact hg2.out.1))
  have r39 := Aside0.mk (r36.out.grown hg9 (fun h => hne'.out (Option.some.inj h).symm))
  have r29' := Aside0.mk r29
  clear r26 r36 hs6 r29 hg9 x0 x1 x2 x3 z0
  have x0 := blk_cell hs9.out.s 0
  have x1 := blk_cell hs9.out.s 1
  have x2 := blk_cell hs9.out.s 2
  have x3 := blk_cell hs9.out.s 3
  have y0 := blk_cell hs9.out.r 0
  have y1 := blk_cell hs9.out.r 1
  have y2 := blk_cell hs9.out.r 2
  have y3 := blk_cell hs9.out.r 3
  simp at x0 x1 x2 x3 y0 y1 y2 y3
  have u0 := blk_frozen hs9.out.s 0
  have u1 := blk_frozen hs9.out.s 1
  have u2 := blk_frozen hs9.out.s 2
  have u3 := blk_frozen hs9.out.s 3
  have v0 := blk_frozen hs9.out.r 0
  have v1 := blk_frozen hs9.out.r 1
  have v2 := blk_frozen hs9.out.r 2
  have v3 := blk_frozen hs9.out.r 3
  go_upto_region 8 with (fail)
  have hs10 := Aside0.mk (hs9.out.put2 (some ⟨g2, 0, none⟩) (l2.length - 1) (l2.length + 1))
  have r210 := Aside0.mk (r29'.out.far (p := ⟨w.heap.size, 2, none⟩) hg2f.out (.slice (some ⟨g2, 0, none⟩) (l2.length - 1) (l2.length + 1)))
  have r310 := Aside0.mk (r39.out.far (p := ⟨w.heap.size, 2, none⟩) hg3f.out (.slice (some ⟨g2, 0, none⟩) (l2.length - 1) (l2.length + 1)))
  clear x0 x1 x2 x3 y0 y1 y2 y3 u0 u1 u2 u3 v0 v1 v2 v3 hs9 r29' r39
  generalize w9.setCell ⟨w.heap.size, 2, none⟩ (.slice (some ⟨g2, 0, none⟩) (l2.length - 1) (l2.length + 1)) = w10 at *
  have x0 := blk_cell hs10.out.s 0
  have x1 := blk_cell hs10.out.s 1
  have x2 := blk_cell hs10.out.s 2
  have x3 := blk_cell hs10.out.s 3
  have y0 := blk_cell hs10.out.r 0
  have y1 := blk_cell hs10.out.r 1
  have y2 := blk_cell hs10.out.r 2
  have y3 := blk_cell hs10.out.r 3
  simp at x0 x1 x2 x3 y0 y1 y2 y3
  have v0 := blk_frozen hs10.out.r 0
  have v1 := blk_frozen hs10.out.r 1
  have v2 := blk_frozen hs10.out.r 2
  have v3 := blk_frozen hs10.out.r 3
  have hfin := Aside0.mk (hs10.out.fin (.int .i64 a0) (.int .i64 a1) (.slice (some ⟨g2, 0, none⟩) (l2.length - 1) (l2.length + 1)) (.slice (some ⟨g3, 0, none⟩) l3.length (l3.length + 1)))
  have q2 := (R_four (b1 := w.heap.size + 2) (r210.out.R (ok := fun k => k = g2) trCells_len (fun x => k27_mkM _ _ _ x) rfl (by simp [maxLen]; omega)) (fun k hk => by subst hk; have := hg2.out; omega) (.int .i64 a0) (.int .i64 a1) (.slice (some ⟨g2, 0, none⟩) (l2.length - 1) (l2.length + 1)) (.slice (some ⟨g3, 0, none⟩) l3.length (l3.length + 1)))
  rw [hel'.out] at q2
  have q2' := Aside0.mk q2
  have q3 := Aside0.mk (R_four (b1 := w.heap.size + 2) (r310.out.R (ok := fun k => k = g3) inCells_len (fun x => rfl) rfl (by simp [maxLen]; omega)) (fun k hk => by subst hk; have := hg2.out; omega) (.int .i64 a0) (.int .i64 a1) (.slice (some ⟨g2, 0, none⟩) (l2.length - 1) (l2.length + 1)) (.slice (some ⟨g3, 0, none⟩) l3.length (l3.length + 1)))
  clear hs10 r210 r310 q2 hA
  go_wp2
  refine bodyPost_ret (v := .tuple #[.agg #[.int .i64 a0, .int .i64 a1, .slice (some ⟨g2, 0, none⟩) (l2.length - 1) (l2.length + 1), .slice (some ⟨g3, 0, none⟩) l3.length (l3.length + 1)], .int .i64 0]) (by simp [results, Try.results15, go_sem, y0, y1, y2, y3]) rfl
    ⟨_, _, rfl, ?_, ?_, hfin.out⟩
  · exact Kd.R_mono q2'.out (fun k hk => by subst hk; simp [Value.ownBlock]; exact hne'.out)
  · exact Kd.R_mono q3.out (fun k hk => by subst hk; simp [Value.ownBlock]; exact fun h => hne'.out h.symm)

theorem share_Acked.calls (a0_0 a0_1 : Int) (A0_2 : Option Addr) (c0_2 : Nat) (l0_2 : List S27) (A0_3 : Option Addr) (c0_3 : Nat) (l0_3 : List Int) (a1 : Int) (r1 r2 : Int) (r3 : List S27) (r4 : List Int) (r5 : Int) (w : World)
    (hr0_2 : Kd.C k27 w A0_2 l0_2.length l0_2) (hc0_2 : l0_2.length ≤ c0_2) (hr0_3 : Kd.C (Kd.int .i64) w A0_3 l0_3.length l0_3) (hc0_3 : l0_3.length ≤ c0_3) (h : share_Acked.f a0_0 a0_1 l0_2 l0_3 a1 = some (r1, r2, r3, r4, r5)) :
    Calls Try.prog 15 #[.agg #[.int .i64 a0_0, .int .i64 a0_1, .slice A0_2 l0_2.length c0_2, .slice A0_3 l0_3.length c0_3], .int .i64 a1] w fun e w' => ∃ v1 v2 : Value,
      e = .returned (.tuple #[.agg #[.int .i64 r1, .int .i64 r2, v1, v2], .int .i64 r5]) ∧ Kd.R k27 27 w' w.heap.size (fun k => some k ≠ v2.ownBlock) v1 r3 ∧ Kd.R (Kd.int .i64) 3 w' w.heap.size (fun k => some k ≠ v1.ownBlock) v2 r4 ∧ Below w.heap.size w w' := by
  unfold share_Acked.f at h
  by_cases he : ackE a0_0 a0_1 l0_2 l0_3 a1 = 0
  · rw [if_pos he] at h
    simp only [Option.some.injEq, Prod.mk.injEq] at h
    obtain ⟨rfl, rfl, rfl, rfl, rfl⟩ := h
    exact ack_yes a0_0 a0_1 A0_2 c0_2 l0_2 A0_3 c0_3 l0_3 a1 w hr0_2 hc0_2 hr0_3 hc0_3 he
  · rw [if_neg he] at h
    simp only [Option.some.injEq, Prod.mk.injEq] at h
    obtain ⟨rfl, rfl, rfl, rfl, rfl⟩ := h
    refine (ack_no a0_0 a0_1 A0_2 c0_2 l0_2 A0_3 c0_3 l0_3 a1 _ w hr0_2 hc0_2 hr0_3 hc0_3 rfl he).mono ?_
    rintro e w' ⟨rfl, hb⟩
    exact ⟨_, _, rfl, Kd.R_nil _ _ _ _ _, Kd.R_nil _ _ _ _ _, hb⟩
end Go.Proofs.Ythoimnockinfbaa.Pr
