import Derived.Test.YtfjbbmgnfpeogaaPm1
import Derived.Test.YtfjbbmgnfpeogaaKinds
import Derived.Test.YtfjbbmgnfpeogaaFlowMin
namespace Go.Proofs.Ytfjbbmgnfpeogaa.Pure
open Go.RowKit Go.Proofs.Ytfjbbmgnfpeogaa.Pr Go.Proofs.YtfjbbmgnfpeogaaW.PrintWords Go.Proofs.YtfjbbmgnfpeogaaW.PrintLast Go.Proofs.YtfjbbmgnfpeogaaW.PrintMore

theorem capL_set (S : List Bool) (c : Int) : ∀ (l : List S39) (i : Nat) (h : i < l.length), l[i].f2 ≤ c →
    capL S l ≤ capL S (l.set i ⟨l[i].f0, l[i].f1, c⟩) ∧ capL S (l.set i ⟨l[i].f0, l[i].f1, c⟩) ≤ capL S l + (c - l[i].f2)
  | [], i, h, _ => by simp at h
  | x :: l, 0, _, hc => by
    simp only [List.set_cons_zero, List.getElem_cons_zero, capL_cons] at hc ⊢
    unfold capE
    simp only
    split <;> omega
  | x :: l, i + 1, h, hc => by
    simp only [List.set_cons_succ, List.getElem_cons_succ, capL_cons] at hc ⊢
    have := capL_set S c l i (by simpa using h) hc
    omega

theorem FlowMoreRoom (y0 : S24) (a1 : Int) (a2 : Int) (a3 : Int) (a4 : Int) : good24 y0 → Int64 .i64 a1 → Int64 .i64 a2 → Int64 .i64 a3 → Int64 .i64 a4 → ∃ k, Ytfjbbmgnfpeogaa.Pr.chargeparklaw21_FlowMoreRoom.f k (y0.f0) (y0.f1) (a1) (a2) (a3) (a4) = some true := by
  intro _ _ _ _ _
  refine ⟨2000, ?_⟩
  obtain ⟨n, l⟩ := y0
  simp only
  unfold chargeparklaw21_FlowMoreRoom.f
  rw [head_f 2000 (by omega), rends_f n l a1 a2 2000 (by omega)]
  simp only [Option.bind_some]
  have out : chargeparklaw21_FlowMoreRoom.j0 2000 a1 a2 a3 a4 true true n l = some true := by simp only [chargeparklaw21_FlowMoreRoom.j0, if_true]
  by_cases h : endsOk n l a1 a2
  · rw [if_pos (by simpa using h)]
    by_cases c0 : (l.length : Int) = 0
    · rw [if_pos c0]; exact out
    · rw [if_neg c0]
      by_cases c1 : a3 < 0
      · rw [if_pos c1]; exact out
      · rw [if_neg c1]
        by_cases c2 : a4 < 0
        · rw [if_pos c2]; exact out
        · rw [if_neg c2]
          by_cases c3 : a4 > 1000000
          · rw [decide_eq_true c3]; exact out
          · rw [decide_eq_false c3]
            have hl := h.1.1.2.2
            simp only [chargeparklaw21_FlowMoreRoom.j0, Option.bind_some, List.length_nil, List.nil_append, Int.toNat_natCast, Nat.zero_add]
            obtain ⟨b, rfl⟩ := Int.eq_ofNat_of_zero_le (show 0 ≤ a3 by omega)
            have hm : Int.tmod ((b : Nat) : Int) (l.length : Int) = ((b % l.length : Nat) : Int) := (Int.ofNat_tmod b l.length).symm
            have hlt : b % l.length < l.length := Nat.mod_lt _ (by omega)
            simp only [Int.ofNat_eq_natCast, hm, Int.toNat_natCast]
            rw [if_neg (by decide), if_pos (by omega), if_pos (by omega), if_pos (by omega), if_neg (by omega), if_pos (by omega), if_pos (by omega)]
            obtain ⟨a, f, S, e, P, L⟩ := most_least h
            have hi : rd_T39 l ((b % l.length : Nat) : Int) = l[b % l.length] := by simp only [rd_T39, Int.toNat_natCast, List.getD_eq_getElem?_getD, List.getElem?_eq_getElem hlt, Option.getD_some]
            rw [hi]
            have hx : edgeOk n l[b % l.length] := h.1.2 _ (List.getElem_mem hlt)
            obtain ⟨x1, x2, x5, x6⟩ := hx
            rw [w64 (x := l[b % l.length].f2 + a4) (by omega) (by omega)]
            obtain ⟨c, hc⟩ : ∃ c, c = mn 1000000 (l[b % l.length].f2 + a4) := ⟨_, rfl⟩
            have hc1 : l[b % l.length].f2 ≤ c ∧ c ≤ 1000000 ∧ c ≤ l[b % l.length].f2 + a4 := by rw [hc]; unfold mn; split <;> omega
            rw [← hc]
            have h' : endsOk n (l.set (b % l.length) ⟨l[b % l.length].f0, l[b % l.length].f1, c⟩) a1 a2 := by
              refine ⟨⟨⟨h.1.1.1, h.1.1.2.1, by simpa using hl⟩, fun x hx => ?_⟩, h.2⟩
              rcases List.mem_or_eq_of_mem_set hx with hx | rfl
              · exact h.1.2 x hx
              · exact ⟨x1, x2, by simp only; omega, by simp only; omega⟩
            obtain ⟨a', f', S', e', P', L'⟩ := most_least h'
            rw [e, e']
            simp only [Option.bind_some, if_true]
            have hge : a ≤ a' := by
              obtain ⟨Sc, hcc, he⟩ := L'.cut
              have i1 := L.le Sc hcc
              have i2 := (capL_set Sc c l _ hlt hc1.1).1
              omega
            have hle : a' ≤ a + a4 := by
              obtain ⟨Sc, hcc, he⟩ := L.cut
              have i1 := L'.le Sc hcc
              have i2 := (capL_set Sc c l _ hlt hc1.1).2
              omega
            have hbd := tcap_bound l S (fun j hj => (h.1.2 _ (rd_mem l j hj)).2.2) l.length (Nat.le_refl _)
            rw [P.cap] at hbd
            rw [w64 (x := a + a4) (by omega) (by omega), if_pos (show a' ≥ a from hge)]
            simp [hle, chargeparklaw21_FlowMoreRoom.j1]
  · rw [if_neg (by simpa using h)]; exact out
end Go.Proofs.Ytfjbbmgnfpeogaa.Pure
