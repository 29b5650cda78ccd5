import Derived.Test.YthoimnockinfbaaPr2
set_option linter.unusedVariables false
set_option linter.unusedSimpArgs false
/-! The order of a share's lists. -/
namespace Go.Proofs.Ythoimnockinfbaa.Pr
open Go.RowKit Go.Proofs.YthoimnockinfbaaW.PrintWords Go.Proofs.YthoimnockinfbaaW.PrintLast Go.Proofs.YthoimnockinfbaaW.PrintMore
attribute [local go_sem] Oper.semAt_some

theorem rd_dropI (l : List Int) (i : Nat) (h : i < l.length) : l.drop i = rd l (i : Int) :: l.drop (i + 1) := by
  rw [List.drop_eq_getElem_cons h]
  simp [rd, List.getD_eq_getElem?_getD, h]
theorem rd_dropT (l : List S27) (i : Nat) (h : i < l.length) : l.drop i = rd_T27 l (i : Int) :: l.drop (i + 1) := by
  rw [List.drop_eq_getElem_cons h]
  simp [rd_T27, List.getD_eq_getElem?_getD, h]

/-- Keys strictly increase, up to a bound. -/
def incB (most : Int) : Int → List Int → Bool
  | _, [] => true
  | last, k :: l => if k ≤ last then false else if k > most then false else incB most k l
def ordB (most : Int) (l : List Int) : Bool := if incB most 0 l = true then decide (l.length ≤ 64) else false

set_option maxHeartbeats 2000000 in
theorem ordT_calls (A : Option Addr) (c : Nat) (l : List S27) (most : Int) (r : Bool) (w : World) (hr : Kd.C k27 w A l.length l) (hc : l.length ≤ c) (h : ordB most (l.map (·.f0)) = r) :
    Calls Try.prog 34 #[.slice A l.length c, .int .i64 most, .func (.func 35) #[] #[]] w fun e w' => e = .returned (.bool r) ∧ Below w.heap.size w w' := by
  have hl : l.length ≤ 9223372036854775807 := by have := hr.2.1; simpa [maxLen] using this
  have hA := Aside0.mk hr
  have hh := Aside0.mk h
  clear hr h
  go_enter Try.func34, Try.ntmps34
  go_wp2
  go_loopw [7, 13] (fun la t wr => ∃ (i : Nat) (last : Int), t = .int .i64 (i : Int) ∧ la = .int .i64 last ∧ i ≤ l.length ∧ Aside0 ((if incB most last ((l.drop i).map (·.f0)) = true then decide (l.length ≤ 64) else false) = r) ∧ Aside0 (Below w.heap.size w wr)) (fun _ t _ => l.length - (intOf t).toNat)
  case atStart => exact ⟨0, 0, rfl, rfl, by omega, ⟨by have := hh.out; unfold ordB at this; simpa using this⟩, ⟨Below.refl _ _⟩⟩
  case round =>
    obtain ⟨i, last, rfl, rfl, hi, hck, hb⟩ := hrel
    by_cases hlt : i < l.length
    · obtain ⟨ad, hA0, e0, e1⟩ := at_T27 (Kd.C_below hA.out hb.out) (i : Int) (by omega) (by omega)
      subst hA0
      simp only [Int.toNat_natCast] at e0 e1
      have hck2 := hck.out
      rw [rd_dropT l i hlt] at hck2
      simp only [List.map_cons, incB] at hck2
      have hck3 := Aside0.mk hck2
      clear hck hck2
      generalize hx : rd_T27 l (i : Int) = x at *
      clear hx
      have hcall : ∀ W : World, Calls Try.prog 35 #[.agg #[.int .i64 x.f0, .int .i64 x.f1]] W fun e w' => e = .returned (.int .i64 x.f0) ∧ Below W.heap.size W w' := fun W => share_number.calls x.f0 x.f1 x.f0 W rfl
      have hb1 : Aside0 (Below w.heap.size w (wr.alloc (.cells #[.int .i64 x.f0, .int .i64 x.f1] 27))) := ⟨below_alloc hb.out _⟩
      clear hb
      by_cases k1 : x.f0 ≤ last
      · have hrf : r = false := by have := hck3.out; simp only [if_pos k1] at this; simpa using this.symm
        subst hrf
        go_wp2_with fail
        refine (hcall _).mono ?_
        rintro e w2 ⟨rfl, hb2⟩
        have hb3 := Aside0.mk (below_step hb1.out hb2)
        clear hb2
        go_wp2
        go_ret
        exact ⟨rfl, hb3.out⟩
      · by_cases k2 : x.f0 > most
        · have hrf : r = false := by have := hck3.out; simp only [if_neg k1, if_pos k2] at this; simpa using this.symm
          subst hrf
          go_wp2_with fail
          refine (hcall _).mono ?_
          rintro e w2 ⟨rfl, hb2⟩
          have hb3 := Aside0.mk (below_step hb1.out hb2)
          clear hb2
          go_wp2
          go_ret
          exact ⟨rfl, hb3.out⟩
        · have hck4 := hck3.out
          simp only [if_neg k1, if_neg k2] at hck4
          have hck5 := Aside0.mk hck4
          clear hck4 hck3
          go_wp2_with fail
          refine (hcall _).mono ?_
          rintro e w2 ⟨rfl, hb2⟩
          have hb3 := Aside0.mk (below_step hb1.out hb2)
          clear hb2
          go_wp2
          refine ⟨⟨i + 1, x.f0, by go_num, rfl, hlt, hck5, hb3⟩, by simp [intOf]; omega⟩
    · have hge : i = l.length := by omega
      subst hge
      have hck2 := hck.out
      rw [List.drop_of_length_le (Nat.le_refl _)] at hck2
      simp only [List.map_nil, incB, if_true] at hck2
      subst hck2
      clear hck
      go_wp2
      go_ret
      exact ⟨by congr 2; simp; omega, hb.out⟩
set_option maxHeartbeats 2000000 in
theorem ordI_calls (A : Option Addr) (c : Nat) (l : List Int) (most : Int) (r : Bool) (w : World) (hr : Kd.C (Kd.int .i64) w A l.length l) (hc : l.length ≤ c) (h : ordB most l = r) :
    Calls Try.prog 36 #[.slice A l.length c, .int .i64 most, .func (.func 33) #[] #[]] w fun e w' => e = .returned (.bool r) ∧ Below w.heap.size w w' := by
  have hl : l.length ≤ 9223372036854775807 := by have := hr.2.1; simpa [maxLen] using this
  have hA := Aside0.mk hr
  have hh := Aside0.mk h
  clear hr h
  go_enter Try.func36, Try.ntmps36
  go_wp2
  go_loopw [7, 13] (fun la t wr => ∃ (i : Nat) (last : Int), t = .int .i64 (i : Int) ∧ la = .int .i64 last ∧ i ≤ l.length ∧ Aside0 ((if incB most last (l.drop i) = true then decide (l.length ≤ 64) else false) = r) ∧ Aside0 (Below w.heap.size w wr)) (fun _ t _ => l.length - (intOf t).toNat)
  case atStart => exact ⟨0, 0, rfl, rfl, by omega, ⟨by have := hh.out; unfold ordB at this; simpa using this⟩, ⟨Below.refl _ _⟩⟩
  case round =>
    obtain ⟨i, last, rfl, rfl, hi, hck, hb⟩ := hrel
    by_cases hlt : i < l.length
    · obtain ⟨ad, hA0, e0⟩ := Kd.at_int (Kd.C_below hA.out hb.out) (i : Int) (by omega) (by omega)
      subst hA0
      simp only [Int.toNat_natCast] at e0
      have hck2 := hck.out
      rw [rd_dropI l i hlt] at hck2
      simp only [incB] at hck2
      have hck3 := Aside0.mk hck2
      clear hck hck2
      generalize hx : rd l (i : Int) = x at *
      clear hx
      have hcall : ∀ W : World, Calls Try.prog 33 #[.int .i64 x] W fun e w' => e = .returned (.int .i64 x) ∧ Below W.heap.size W w' := fun W => by
        go_enter Try.func33, Try.ntmps33
        go_wp2
        go_ret
        exact ⟨rfl, Below.refl _ _⟩
      have hb1 : Aside0 (Below w.heap.size w wr) := ⟨hb.out⟩
      clear hb
      by_cases k1 : x ≤ last
      · have hrf : r = false := by have := hck3.out; simp only [if_pos k1] at this; simpa using this.symm
        subst hrf
        go_wp2_with fail
        refine (hcall _).mono ?_
        rintro e w2 ⟨rfl, hb2⟩
        have hb3 := Aside0.mk (below_step hb1.out hb2)
        clear hb2
        go_wp2
        go_ret
        exact ⟨rfl, hb3.out⟩
      · by_cases k2 : x > most
        · have hrf : r = false := by have := hck3.out; simp only [if_neg k1, if_pos k2] at this; simpa using this.symm
          subst hrf
          go_wp2_with fail
          refine (hcall _).mono ?_
          rintro e w2 ⟨rfl, hb2⟩
          have hb3 := Aside0.mk (below_step hb1.out hb2)
          clear hb2
          go_wp2
          go_ret
          exact ⟨rfl, hb3.out⟩
        · have hck4 := hck3.out
          simp only [if_neg k1, if_neg k2] at hck4
          have hck5 := Aside0.mk hck4
          clear hck4 hck3
          go_wp2_with fail
          refine (hcall _).mono ?_
          rintro e w2 ⟨rfl, hb2⟩
          have hb3 := Aside0.mk (below_step hb1.out hb2)
          clear hb2
          go_wp2
          refine ⟨⟨i + 1, x, by go_num, rfl, hlt, hck5, hb3⟩, by simp [intOf]; omega⟩
    · have hge : i = l.length := by omega
      subst hge
      have hck2 := hck.out
      rw [List.drop_of_length_le (Nat.le_refl _)] at hck2
      simp only [incB, if_true] at hck2
      subst hck2
      clear hck
      go_wp2
      go_ret
      exact ⟨by congr 2; simp; omega, hb.out⟩
end Go.Proofs.Ythoimnockinfbaa.Pr
