import Derived.Test.YthoimnockinfbaaShOrd
import Derived.Shelf.Abstract
import Derived.IntWalk
set_option linter.unusedVariables false
set_option linter.unusedSimpArgs false
/-! share.Valid. -/
namespace Go.Proofs.Ythoimnockinfbaa.Pr
open Go.RowKit Go.Proofs.YthoimnockinfbaaW.PrintWords Go.Proofs.YthoimnockinfbaaW.PrintLast Go.Proofs.YthoimnockinfbaaW.PrintMore
attribute [local go_sem] Oper.semAt_some

/-- The place of the first element with a property, or -1. -/
def idxFrom {α : Type} (p : α → Bool) : Nat → List α → Int
  | _, [] => -1
  | i, x :: l => if p x = true then (i : Int) else idxFrom p (i + 1) l

set_option maxHeartbeats 2000000 in
theorem idxT_calls (A : Option Addr) (c : Nat) (l : List S27) (g : Nat) (lb : Array Value) (p : S27 → Bool) (r : Int) (w : World) (hr : Kd.C k27 w A l.length l) (hc : l.length ≤ c)
    (eg : ∀ args w, (callFunc g args).run Try.prog w = .ok (.enter g args) w)
    (hp : ∀ (W : World) (x : S27), Below w.heap.size w W → Calls Try.prog g (#[.agg #[.int .i64 x.f0, .int .i64 x.f1]] ++ lb) W fun e w' => e = .returned (.bool (p x)) ∧ Below W.heap.size W w') (h : idxFrom p 0 l = r) :
    Calls Try.prog 30 #[.slice A l.length c, .func (.func g) #[] lb] w fun e w' => e = .returned (.int .i64 r) ∧ Below w.heap.size w w' := by
  have hl : l.length ≤ 9223372036854775807 := by have := hr.2.1; simpa [maxLen] using this
  have hA := Aside0.mk hr
  have hh := Aside0.mk h
  have hp' := Aside0.mk hp
  clear hr h hp
  go_enter Try.func30, Try.ntmps30
  go_wp2
  go_loopw [5, 8] (fun _ t wr => ∃ (i : Nat), t = .int .i64 (i : Int) ∧ i ≤ l.length ∧ Aside0 (idxFrom p i (l.drop i) = r) ∧ Aside0 (Below w.heap.size w wr)) (fun _ t _ => l.length - (intOf t).toNat)
  case atStart => exact ⟨0, rfl, by omega, ⟨by rw [List.drop_zero]; exact hh.out⟩, ⟨Below.refl _ _⟩⟩
  case round =>
    obtain ⟨i, rfl, hi, hck, hb⟩ := hrel
    by_cases hlt : i < l.length
    · obtain ⟨ad, hA0, e0, e1⟩ := at_T27 (Kd.C_below hA.out hb.out) (i : Int) (by omega) (by omega)
      subst hA0
      simp only [Int.toNat_natCast] at e0 e1
      have hck2 := hck.out
      rw [rd_dropT l i hlt] at hck2
      simp only [idxFrom] at hck2
      have hck3 := Aside0.mk hck2
      clear hck hck2
      generalize hx : rd_T27 l (i : Int) = x at *
      clear hx
      have hcall := hp'.out wr x hb.out
      cases hq : p x with
      | true =>
        rw [hq] at hcall
        have hrf : r = i := by have := hck3.out; rw [hq] at this; simpa using this.symm
        subst hrf
        have hcall' := Aside0.mk hcall
        clear hcall hq
        go_wp2_with fail
        refine hcall'.out.mono ?_
        rintro e w2 ⟨rfl, hb2⟩
        have hb3 := Aside0.mk (below_step hb.out hb2)
        clear hb2
        go_wp2
        go_ret
        exact ⟨rfl, hb3.out⟩
      | false =>
        rw [hq] at hcall
        have hck4 : Aside0 (idxFrom p (i + 1) (l.drop (i + 1)) = r) := ⟨by have := hck3.out; rw [hq] at this; simpa using this⟩
        have hcall' := Aside0.mk hcall
        clear hcall hq hck3
        go_wp2_with fail
        refine hcall'.out.mono ?_
        rintro e w2 ⟨rfl, hb2⟩
        have hb3 := Aside0.mk (below_step hb.out hb2)
        clear hb2
        go_wp2
        exact ⟨⟨i + 1, by go_num, hlt, hck4, hb3⟩, by simp [intOf]; omega⟩
    · have hge : i = l.length := by omega
      subst hge
      have hck2 := hck.out
      rw [List.drop_of_length_le (Nat.le_refl _)] at hck2
      simp only [idxFrom] at hck2
      subst hck2
      clear hck
      go_wp2
      go_ret
      exact ⟨rfl, hb.out⟩

theorem idxFrom_any {α : Type} (p : α → Bool) : ∀ (l : List α) (i : Nat), (0 ≤ idxFrom p i l ↔ l.any p = true)
  | [], i => by simp [idxFrom]
  | x :: l, i => by
    simp only [idxFrom, List.any_cons]
    cases hp : p x
    · simpa using idxFrom_any p l (i + 1)
    · simp

set_option maxHeartbeats 2000000 in
theorem contT_calls (A : Option Addr) (c : Nat) (l : List S27) (g : Nat) (lb : Array Value) (p : S27 → Bool) (r : Bool) (w : World) (hr : Kd.C k27 w A l.length l) (hc : l.length ≤ c)
    (eg : ∀ args w, (callFunc g args).run Try.prog w = .ok (.enter g args) w)
    (hp : ∀ (W : World) (x : S27), Below w.heap.size w W → Calls Try.prog g (#[.agg #[.int .i64 x.f0, .int .i64 x.f1]] ++ lb) W fun e w' => e = .returned (.bool (p x)) ∧ Below W.heap.size W w') (h : l.any p = r) :
    Calls Try.prog 37 #[.slice A l.length c, .func (.func g) #[] lb] w fun e w' => e = .returned (.bool r) ∧ Below w.heap.size w w' := by
  have hcall := Aside0.mk (idxT_calls A c l g lb p _ w hr hc eg hp rfl)
  have ha := idxFrom_any p l 0
  have hrr : Aside0 (decide (0 ≤ idxFrom p 0 l) = r) := ⟨by rw [← h, Bool.eq_iff_iff, decide_eq_true_iff]; exact ha⟩
  clear hr hp h ha
  generalize idxFrom p 0 l = i at *
  go_enter Try.func37, Try.ntmps37
  go_wp2_with fail
  refine hcall.out.mono ?_
  rintro e w2 ⟨rfl, hb2⟩
  have hb3 := Aside0.mk hb2
  clear hb2
  go_wp2
  go_ret
  exact ⟨by rw [← hrr.out]; rfl, hb3.out⟩

def trOk (t : S27) : Prop := (1 ≤ t.f0 ∧ t.f0 ≤ 1000000) ∧ 1 ≤ t.f1 ∧ t.f1 ≤ 1000
instance (t : S27) : Decidable (trOk t) := by unfold trOk; infer_instance
theorem between_f (n a b : Int) : share_between.f n a b = some (decide (a ≤ n ∧ n ≤ b)) := by
  unfold share_between.f
  by_cases h : a ≤ n
  · rw [if_pos h]; congr 1; simp; omega
  · rw [if_neg h]; congr 1; simp; omega
theorem isTransfer_f (a b : Int) : share_isTransfer.f a b = some (decide (trOk ⟨a, b⟩)) := by
  unfold share_isTransfer.f
  rw [between_f, between_f]
  simp only [Option.bind_some]
  by_cases h : 1 ≤ a ∧ a ≤ 1000000
  · rw [if_pos (by simpa using h)]; congr 1; simp [trOk, h]
  · rw [if_neg (by simpa using h)]; congr 1; symm; rw [decide_eq_false_iff_not]; exact fun hh => h hh.1

def notTr (t : S27) : Bool := !decide (trOk t)
theorem valid2_calls (x : S27) (w : World) : Calls Try.prog 38 #[.agg #[.int .i64 x.f0, .int .i64 x.f1]] w fun e w' => e = .returned (.bool (notTr x)) ∧ Below w.heap.size w w' := by
  have hd := Aside0.mk (isTransfer_f x.f0 x.f1)
  have hb0 : Aside0 (Below w.heap.size w (w.alloc (.cells #[.int .i64 x.f0, .int .i64 x.f1] 27))) := ⟨below_alloc (Below.refl _ _) _⟩
  unfold notTr
  have he : (⟨x.f0, x.f1⟩ : S27) = x := rfl
  rw [he] at hd
  generalize decide (trOk x) = b at *
  clear he
  go_enter Try.func38, Try.ntmps38
  go_wp2_with fail
  refine (share_isTransfer.calls x.f0 x.f1 b _ hd.out).mono ?_
  rintro e w2 ⟨rfl, hb2⟩
  have hb3 := Aside0.mk (below_step hb0.out hb2)
  clear hb2
  go_wp2
  go_ret
  exact ⟨rfl, hb3.out⟩

/-- What is a share. -/
def shOk (have_ next : Int) (out : List S27) (inn : List Int) : Bool :=
  if (0 ≤ have_ ∧ have_ ≤ 1000) ∧ (1 ≤ next ∧ next ≤ 1000001) then
    if ordB (next - 1) (out.map (·.f0)) = true then if ordB 1000000 inn = true then !out.any notTr else false else false
  else false
def share_Valid.f (a0 a1 : Int) (l2 : List S27) (l3 : List Int) : Option Bool := some (shOk a0 a1 l2 l3)

set_option maxHeartbeats 4000000 in
theorem share_Valid.calls (a0_0 a0_1 : Int) (A0_2 : Option Addr) (c0_2 : Nat) (l0_2 : List S27) (A0_3 : Option Addr) (c0_3 : Nat) (l0_3 : List Int) (r : Bool) (w : World) (hr0_2 : Kd.C k27 w A0_2 l0_2.length l0_2) (hc0_2 : l0_2.length ≤ c0_2) (hr0_3 : Kd.C (Kd.int .i64) w A0_3 l0_3.length l0_3) (hc0_3 : l0_3.length ≤ c0_3)
    (h : share_Valid.f a0_0 a0_1 l0_2 l0_3 = some r) :
    Calls Try.prog 18 #[.agg #[.int .i64 a0_0, .int .i64 a0_1, .slice A0_2 l0_2.length c0_2, .slice A0_3 l0_3.length c0_3]] w fun e w' => e = .returned (.bool r) ∧ Below w.heap.size w w' := by
  have hr : shOk a0_0 a0_1 l0_2 l0_3 = r := Option.some.inj h
  have hh := Aside0.mk hr
  have hA := Aside0.mk (And.intro hr0_2 hr0_3)
  clear hr h hr0_2 hr0_3
  have hb0 : Aside0 (Below w.heap.size w (w.alloc (.cells #[.int .i64 a0_0, .int .i64 a0_1, .slice A0_2 l0_2.length c0_2, .slice A0_3 l0_3.length c0_3] 25))) := ⟨below_alloc (Below.refl _ _) _⟩
  have eg := Aside0.mk (enters_of Try.func38 (by kernel_rfl) rfl)
  have q1 := Aside0.mk (between_f a0_0 0 1000)
  have q2 := Aside0.mk (between_f a0_1 1 1000001)
  have hr2 : Aside0 ((if decide (0 ≤ a0_0 ∧ a0_0 ≤ 1000) = true then if decide (1 ≤ a0_1 ∧ a0_1 ≤ 1000001) = true then if ordB (a0_1 - 1) (l0_2.map (·.f0)) = true then if ordB 1000000 l0_3 = true then !l0_2.any notTr else false else false else false else false) = r) := ⟨by
    rw [← hh.out]
    unfold shOk
    by_cases k1 : 0 ≤ a0_0 ∧ a0_0 ≤ 1000 <;> by_cases k2 : 1 ≤ a0_1 ∧ a0_1 ≤ 1000001 <;> simp [k1, k2]⟩
  clear hh
  have hs1 : Aside0 (1 ≤ a0_1 ∧ a0_1 ≤ 1000001 → IntKind.i64.wrap (a0_1 - 1) = a0_1 - 1) := ⟨fun h => IntWalk.i64_in _ (by omega)⟩
  cases hb1 : decide (0 ≤ a0_0 ∧ a0_0 ≤ 1000) with
  | false =>
    rw [hb1] at q1 hr2
    have hrf : r = false := by simpa using hr2.out.symm
    subst hrf
    clear hb1
    go_enter Try.func18, Try.ntmps18
    go_wp2_with fail
    refine (share_between.calls _ _ _ _ _ q1.out).mono ?_
    rintro e w2 ⟨rfl, ⟨⟨n, rfl⟩⟩⟩
    go_wp2
    go_ret
    exact ⟨rfl, pw_below_drewN hb0.out _⟩
  | true =>
    rw [hb1] at q1 hr2
    clear hb1
    cases hb2 : decide (1 ≤ a0_1 ∧ a0_1 ≤ 1000001) with
    | false =>
      rw [hb2] at q2 hr2
      have hrf : r = false := by simpa using hr2.out.symm
      subst hrf
      clear hb2
      go_enter Try.func18, Try.ntmps18
      go_wp2_with fail
      refine (share_between.calls _ _ _ _ _ q1.out).mono ?_
      rintro e w2 ⟨rfl, ⟨⟨n, rfl⟩⟩⟩
      go_wp2_with fail
      refine (share_between.calls _ _ _ _ _ q2.out).mono ?_
      rintro e w3 ⟨rfl, ⟨⟨n2, rfl⟩⟩⟩
      go_wp2
      go_ret
      exact ⟨rfl, pw_below_drewN hb0.out _⟩
    | true =>
      rw [hb2] at q2 hr2
      obtain ⟨k2a, k2b⟩ := of_decide_eq_true hb2
      clear hb2
      have hord := Aside0.mk (fun W (hW : Below w.heap.size w W) => ordT_calls A0_2 c0_2 l0_2 (a0_1 - 1) _ W (Kd.C_below hA.out.1 hW) hc0_2 rfl)
      have hord2 := Aside0.mk (fun W (hW : Below w.heap.size w W) => ordI_calls A0_3 c0_3 l0_3 1000000 _ W (Kd.C_below hA.out.2 hW) hc0_3 rfl)
      have hcont := Aside0.mk (fun W (hW : Below w.heap.size w W) => contT_calls A0_2 c0_2 l0_2 38 #[] notTr _ W (Kd.C_below hA.out.1 hW) hc0_2 eg.out (fun W' x _ => valid2_calls x W') rfl)
      simp only [if_true] at hr2
      clear eg hs1
      generalize ordB (a0_1 - 1) (l0_2.map (·.f0)) = o1 at *
      generalize ordB 1000000 l0_3 = o2 at *
      generalize l0_2.any notTr = o3 at *
      go_enter Try.func18, Try.ntmps18
      go_wp2_with fail
      refine (share_between.calls _ _ _ _ _ q1.out).mono ?_
      rintro e w2 ⟨rfl, ⟨⟨n, rfl⟩⟩⟩
      go_wp2_with fail
      refine (share_between.calls _ _ _ _ _ q2.out).mono ?_
      rintro e w3 ⟨rfl, ⟨⟨n2, rfl⟩⟩⟩
      go_wp2_with fail
      have hX := blk_new w (.cells #[.int .i64 a0_0, .int .i64 a0_1, .slice A0_2 l0_2.length c0_2, .slice A0_3 l0_3.length c0_3] 25)
      have hbX := Aside0.mk (pw_below_drewN hb0.out (n + n2))
      have hX2 := Aside0.mk (blk_drewN hX (n + n2))
      clear hX hb0
      generalize (w.alloc (.cells #[.int .i64 a0_0, .int .i64 a0_1, .slice A0_2 l0_2.length c0_2, .slice A0_3 l0_3.length c0_3] 25)).drewN (n + n2) = X at *
      refine (hord.out _ hbX.out).mono ?_
      rintro e w4 ⟨rfl, hb4⟩
      have hX4 := Aside0.mk (blk_below hX2.out hb4)
      have hw4 := Aside0.mk (below_step hbX.out hb4)
      clear hb4 hX2 hord hbX
      cases o1 with
      | false =>
        have hrf : r = false := by simpa using hr2.out.symm
        subst hrf
        go_wp2
        go_ret
        exact ⟨rfl, hw4.out⟩
      | true =>
        have f3 := blk_cell hX4.out 3
        have f2 := blk_cell hX4.out 2
        simp at f3 f2
        go_wp2_with fail
        refine (hord2.out _ hw4.out).mono ?_
        rintro e w5 ⟨rfl, hb5⟩
        have hX5 := Aside0.mk (blk_below hX4.out hb5)
        have hw5 := Aside0.mk (below_step hw4.out hb5)
        clear hb5 hX4 hord2 f3 f2
        cases o2 with
        | false =>
          have hrf : r = false := by simpa using hr2.out.symm
          subst hrf
          go_wp2
          go_ret
          exact ⟨rfl, hw5.out⟩
        | true =>
          have hrf : r = !o3 := by simpa using hr2.out.symm
          subst hrf
          have f2 := blk_cell hX5.out 2
          simp at f2
          go_wp2_with fail
          refine (hcont.out _ hw5.out).mono ?_
          rintro e w6 ⟨rfl, hb6⟩
          have hw6 := Aside0.mk (below_step hw5.out hb6)
          clear hb6
          go_wp2
          go_ret
          exact ⟨rfl, hw6.out⟩
end Go.Proofs.Ythoimnockinfbaa.Pr
