import Derived.Test.YtfjbbmgnfpeogaaPr12
import Derived.Test.YtfjbbmgnfpeogaaKinds
import Derived.Test.YtfjbbmgnfpeogaaFlowMin
namespace Go.Proofs.Ytfjbbmgnfpeogaa.Pure
open Go.RowKit Go.Proofs.Ytfjbbmgnfpeogaa.Pr Go.Proofs.YtfjbbmgnfpeogaaW.PrintWords Go.Proofs.YtfjbbmgnfpeogaaW.PrintLast Go.Proofs.YtfjbbmgnfpeogaaW.PrintMore

def scaled (c : Int) (l : List S39) : List S39 := l.map fun e => ⟨e.f0, e.f1, c * e.f2⟩

theorem capL_scaled (c : Int) (S : List Bool) : ∀ l : List S39, capL S (scaled c l) = c * capL S l
  | [] => by simp [scaled, capL, sumI]
  | x :: l => by
    have h := capL_scaled c S l
    unfold scaled at h ⊢
    rw [List.map_cons, capL_cons, capL_cons, h, Int.mul_add]
    congr 1
    unfold capE
    split <;> simp

theorem scaling_loop (n : Int) (l : List S39) (s t c : Int) (hc0 : 0 ≤ c) (hc1 : c ≤ 1000) (hl : l.length ≤ 600) (r : Bool)
    (hend : ∀ k, (flow_Most.f n l s t).bind (fun bt365 => (flow_Most.f n (scaled c l) s t).bind fun bt373 => (if true = true then (if bt365.2.2.2 = 0 then (if bt373.2.2.2 = 0 then (some (bt373.1 == (wrap64 (c * bt365.1)))) else (some true)) else (some true)) else (some false))) = some r → chargeparklaw21_FlowScaling.l0 (k + 1) s t c true (scaled c l) (l.length : Int) n l = some r)
    (hm : (∀ e ∈ l, 0 ≤ e.f2 ∧ e.f2 ≤ 1000000) → (flow_Most.f n l s t).bind (fun bt365 => (flow_Most.f n (scaled c l) s t).bind fun bt373 => (if true = true then (if bt365.2.2.2 = 0 then (if bt373.2.2.2 = 0 then (some (bt373.1 == (wrap64 (c * bt365.1)))) else (some true)) else (some true)) else (some false))) = some true) (hr : r = true) :
    ∀ (d i k : Nat), i + d = l.length → d + 2 ≤ k → (∀ e ∈ l.take i, 0 ≤ e.f2 ∧ e.f2 ≤ 1000000) →
    chargeparklaw21_FlowScaling.l0 k s t c true (scaled c (l.take i)) (i : Int) n l = some true := by
  subst hr
  intro d
  induction d with
  | zero =>
    intro i k hi hk hp
    obtain ⟨k, rfl⟩ : ∃ m, k = m + 1 := ⟨k - 1, by omega⟩
    have : i = l.length := by omega
    subst this
    rw [List.take_length] at hp ⊢
    exact hend k (hm hp)
  | succ d ih =>
    intro i k hi hk hp
    obtain ⟨k, rfl⟩ : ∃ m, k = m + 1 := ⟨k - 1, by omega⟩
    simp only [chargeparklaw21_FlowScaling.l0]
    rw [if_pos (by omega), if_pos (by omega), w64 (x := (i : Int) + 1) (by omega) (by omega)]
    by_cases c1 : (rd_T39 l (i : Int)).f2 > 1000000
    · rw [if_pos c1]
    · rw [if_neg c1]
      by_cases c2 : (rd_T39 l (i : Int)).f2 < 0
      · rw [if_pos c2]
      · rw [if_neg c2]
        have hlen : (scaled c (l.take i)).length = i := by simp [scaled]; omega
        rw [if_pos (by rw [hlen]; omega)]
        have h1 : l.take (i + 1) = l.take i ++ [rd_T39 l (i : Int)] := by
          rw [List.take_add_one, List.getElem?_eq_getElem (by omega)]
          simp [rd_T39, List.getD_eq_getElem?_getD, show i < l.length by omega]
        have hb : -9223372036854775808 ≤ c * (rd_T39 l (i : Int)).f2 ∧ c * (rd_T39 l (i : Int)).f2 ≤ 9223372036854775807 := by
          have a1 : 0 ≤ (rd_T39 l (i : Int)).f2 := by omega
          have a2 : (rd_T39 l (i : Int)).f2 ≤ 1000000 := by omega
          have h2 := Int.mul_nonneg hc0 a1
          have h3 : c * (rd_T39 l (i : Int)).f2 ≤ 1000 * (rd_T39 l (i : Int)).f2 := Int.mul_le_mul_of_nonneg_right hc1 a1
          omega
        rw [w64 hb.1 hb.2]
        have h := ih (i + 1) k (by omega) (by omega) (fun e he => by
          rw [h1] at he
          rcases List.mem_append.1 he with he | he
          · exact hp e he
          · rw [List.mem_singleton.1 he]; omega)
        rw [h1] at h
        have h4 : scaled c (l.take i ++ [rd_T39 l (i : Int)]) = scaled c (l.take i) ++ [⟨(rd_T39 l (i : Int)).f0, (rd_T39 l (i : Int)).f1, c * (rd_T39 l (i : Int)).f2⟩] := by simp [scaled]
        rw [h4, show ((i + 1 : Nat) : Int) = (i : Int) + 1 by omega] at h
        exact h

theorem FlowScaling (y0 : S24) (a1 : Int) (a2 : Int) (a3 : Int) : good24 y0 → Int64 .i64 a1 → Int64 .i64 a2 → Int64 .i64 a3 → ∃ k, Ytfjbbmgnfpeogaa.Pr.chargeparklaw21_FlowScaling.f k (y0.f0) (y0.f1) (a1) (a2) (a3) = some true := by
  intro _ _ _ _
  refine ⟨2000, ?_⟩
  obtain ⟨n, l⟩ := y0
  simp only
  unfold chargeparklaw21_FlowScaling.f
  rw [head_f 2000 (by omega)]
  simp only [Option.bind_some]
  by_cases c1 : a3 < 0
  · rw [if_pos c1]; simp only [chargeparklaw21_FlowScaling.j0, if_true]
  · rw [if_neg c1]
    by_cases c2 : a3 > 1000
    · rw [if_pos c2]; simp only [chargeparklaw21_FlowScaling.j0, if_true]
    · rw [if_neg c2]
      simp only [chargeparklaw21_few.f, Option.bind_some, chargeparklaw21_FlowScaling.j0]
      by_cases c3 : (l.length : Int) ≤ 600
      · rw [if_neg (by simpa using c3)]
        refine scaling_loop n l a1 a2 a3 (by omega) (by omega) (by omega) true (fun k hk => ?_) (fun hcap => ?_) rfl l.length 0 1999 (by omega) (by omega) (by simp)
        · simp only [chargeparklaw21_FlowScaling.l0]
          rw [if_neg (by omega)]; exact hk
        · by_cases h : endsOk n l a1 a2
          · obtain ⟨a, f, S, e, P, L⟩ := most_least h
            rw [e]
            by_cases h' : endsOk n (scaled a3 l) a1 a2
            · obtain ⟨a', f', S', e', P', L'⟩ := most_least h'
              rw [e']
              simp only [Option.bind_some, if_true]
              have hle : a' ≤ a3 * a := by
                obtain ⟨Sc, hc, he⟩ := L.cut
                have := L'.le Sc hc
                rwa [capL_scaled, he] at this
              have hge : a3 * a ≤ a' := by
                obtain ⟨Sc, hc, he⟩ := L'.cut
                have := L.le Sc hc
                rw [capL_scaled] at he
                rw [← he]
                exact Int.mul_le_mul_of_nonneg_left this (by omega)
              have hbd := tcap_bound l S (fun j hj => (h.1.2 _ (rd_mem l j hj)).2.2) l.length (Nat.le_refl _)
              rw [P.cap] at hbd
              have hl5 := h.1.1.2.2
              have hb2 : -9223372036854775808 ≤ a3 * a ∧ a3 * a ≤ 9223372036854775807 := by
                have h2 := Int.mul_nonneg (show 0 ≤ a3 by omega) hbd.1
                have h3 : a3 * a ≤ 1000 * a := Int.mul_le_mul_of_nonneg_right (by omega) hbd.1
                omega
              rw [w64 hb2.1 hb2.2]
              have : a' = a3 * a := by omega
              simp [this]
            · rw [most_bad h']; simp
          · rw [most_bad h]
            by_cases h' : endsOk n (scaled a3 l) a1 a2
            · obtain ⟨a', f', S', e', _⟩ := most_least h'
              rw [e']; simp
            · rw [most_bad h']; simp
      · rw [if_pos (by simpa using c3)]
end Go.Proofs.Ytfjbbmgnfpeogaa.Pure
