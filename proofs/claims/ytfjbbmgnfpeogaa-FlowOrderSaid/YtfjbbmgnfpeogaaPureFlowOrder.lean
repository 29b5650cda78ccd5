import Derived.Test.YtfjbbmgnfpeogaaPr11
import Derived.Test.YtfjbbmgnfpeogaaKinds
import Derived.Test.YtfjbbmgnfpeogaaFlowMin
namespace Go.Proofs.Ytfjbbmgnfpeogaa.Pure
open Go.RowKit Go.Proofs.Ytfjbbmgnfpeogaa.Pr Go.Proofs.YtfjbbmgnfpeogaaW.PrintWords Go.Proofs.YtfjbbmgnfpeogaaW.PrintLast Go.Proofs.YtfjbbmgnfpeogaaW.PrintMore

def rev (e : S39) : S39 := ⟨e.f1, e.f0, e.f2⟩
def turn (l : List S39) (r i : Nat) : List S39 := (List.range i).map fun j => rd_T39 l (((j + r) % l.length : Nat) : Int)

theorem turn_all (l : List S39) (r : Nat) (hr : r < l.length) : turn l r l.length = l.drop r ++ l.take r := by
  refine List.ext_getElem (by simp [turn]; omega) fun j h1 h2 => ?_
  have hj : j < l.length := by simpa [turn] using h1
  simp only [turn, List.getElem_map, List.getElem_range]
  by_cases c : j < l.length - r
  · rw [List.getElem_append_left (by simpa using c), List.getElem_drop, Nat.mod_eq_of_lt (by omega)]
    have : j + r < l.length := by omega
    simp only [rd_T39, List.getD_eq_getElem?_getD, Int.toNat_natCast, List.getElem?_eq_getElem this, Option.getD_some]
    congr 1
    omega
  · rw [List.getElem_append_right (by simpa using c)]
    have e : (j + r) % l.length = j + r - l.length := by
      rw [Nat.mod_eq_sub_mod (by omega), Nat.mod_eq_of_lt (by omega)]
    have : j + r - l.length < l.length := by omega
    simp only [List.getElem_take, e, List.length_drop]
    simp only [rd_T39, List.getD_eq_getElem?_getD, Int.toNat_natCast, List.getElem?_eq_getElem this, Option.getD_some]
    congr 1
    omega

def comp (S : List Bool) : List Bool := S.map (!·)
theorem comp_comp (S : List Bool) : comp (comp S) = S := by simp [comp, List.map_map, Function.comp_def]
theorem sees_comp (S : List Bool) (v : Int) (h0 : 0 ≤ v) (h1 : v < S.length) : FlowM.sees (comp S) v = !FlowM.sees S v := by
  have h2 : v.toNat < S.length := by omega
  simp [FlowM.sees, comp, List.getD_eq_getElem?_getD, h2]

theorem capL_rev (n : Nat) (S : List Bool) (hS : S.length = n) : ∀ l : List S39, (∀ e ∈ l, edgeOk n e) → capL (comp S) (l.map rev) = capL S l
  | [], _ => rfl
  | x :: l, h => by
    have hx := h x (by simp)
    rw [List.map_cons, capL_cons, capL_cons, capL_rev n S hS l (fun e he => h e (by simp [he]))]
    congr 1
    obtain ⟨⟨a, b⟩, ⟨c, d⟩, _⟩ := hx
    unfold capE rev
    simp only
    rw [sees_comp S x.f1 c (by omega), sees_comp S x.f0 a (by omega)]
    cases FlowM.sees S x.f0 <;> cases FlowM.sees S x.f1 <;> simp

theorem cut_comp {n : Nat} {s t : Int} {S : List Bool} (h : cutOk n s t S) (s0 : 0 ≤ s) (s1 : s < n) (t0 : 0 ≤ t) (t1 : t < n) : cutOk n t s (comp S) := by
  obtain ⟨a, b, c⟩ := h
  refine ⟨by simp [comp, a], ?_, ?_⟩
  · rw [sees_comp S t t0 (by omega), c]; rfl
  · rw [sees_comp S s s0 (by omega), b]; rfl

theorem order_loop (n : Int) (l : List S39) (s t by_ : Int) (h : endsOk n l s t) (hb0 : 0 ≤ by_)
    (hend : (flow_Most.f n l s t).bind (fun bt330 => (flow_Most.f n (turn l (by_.toNat % l.length) l.length) s t).bind fun bt338 => (flow_Most.f n ((turn l (by_.toNat % l.length) l.length).map rev) t s).bind fun bt346 => (if true = true then (if bt330.2.2.2 = 0 then (if bt338.2.2.2 = 0 then (if bt346.2.2.2 = 0 then (if bt330.1 = bt338.1 then (some (bt330.1 == bt346.1)) else (some false)) else (some false)) else (some false)) else (some false)) else (some false))) = some true) :
    ∀ (d i k : Nat), i + d = l.length → d + 2 ≤ k →
    chargeparklaw21_FlowOrder.l0 k s t by_ true (turn l (by_.toNat % l.length) i) ((turn l (by_.toNat % l.length) i).map rev) (i : Int) n l = some true := by
  have hl := h.1.1.2.2
  intro d
  induction d with
  | zero =>
    intro i k hi hk
    obtain ⟨k, rfl⟩ : ∃ m, k = m + 1 := ⟨k - 1, by omega⟩
    have : i = l.length := by omega
    subst this
    simp only [chargeparklaw21_FlowOrder.l0]
    rw [if_neg (by omega)]
    exact hend
  | succ d ih =>
    intro i k hi hk
    obtain ⟨k, rfl⟩ : ∃ m, k = m + 1 := ⟨k - 1, by omega⟩
    simp only [chargeparklaw21_FlowOrder.l0]
    have hm : Int.tmod by_ (l.length : Int) = ((by_.toNat % l.length : Nat) : Int) := by
      obtain ⟨b, rfl⟩ := Int.eq_ofNat_of_zero_le hb0
      simp only [Int.ofNat_eq_natCast, Int.toNat_natCast]
      exact (Int.ofNat_tmod b l.length).symm
    have hr : by_.toNat % l.length < l.length := Nat.mod_lt _ (by omega)
    rw [hm, w64 (x := (i : Int) + ((by_.toNat % l.length : Nat) : Int)) (by omega) (by omega)]
    have hm2 : Int.tmod ((i : Int) + ((by_.toNat % l.length : Nat) : Int)) (l.length : Int) = (((i + by_.toNat % l.length) % l.length : Nat) : Int) := by
      rw [show (i : Int) + ((by_.toNat % l.length : Nat) : Int) = ((i + by_.toNat % l.length : Nat) : Int) by omega]
      exact (Int.ofNat_tmod _ _).symm
    have hr2 : (i + by_.toNat % l.length) % l.length < l.length := Nat.mod_lt _ (by omega)
    rw [hm2, if_pos (by omega), if_neg (by omega), if_pos (by omega), if_pos (by omega)]
    have hlen : (turn l (by_.toNat % l.length) i).length = i := by simp [turn]
    rw [if_pos (by rw [hlen]; omega), if_pos (by rw [List.length_map, hlen]; omega), w64 (x := (i : Int) + 1) (by omega) (by omega)]
    have h1 := ih (i + 1) k (by omega) (by omega)
    have h2 : turn l (by_.toNat % l.length) (i + 1) = turn l (by_.toNat % l.length) i ++ [rd_T39 l (((i + by_.toNat % l.length) % l.length : Nat) : Int)] := by simp [turn, List.range_succ]
    rw [h2, List.map_append, show ((i + 1 : Nat) : Int) = (i : Int) + 1 by omega] at h1
    exact h1

theorem FlowOrder (y0 : S24) (a1 : Int) (a2 : Int) (a3 : Int) : good24 y0 → Int64 .i64 a1 → Int64 .i64 a2 → Int64 .i64 a3 → ∃ k, Ytfjbbmgnfpeogaa.Pr.chargeparklaw21_FlowOrder.f k (y0.f0) (y0.f1) (a1) (a2) (a3) = some true := by
  intro _ _ _ _
  refine ⟨2000, ?_⟩
  obtain ⟨n, l⟩ := y0
  simp only
  unfold chargeparklaw21_FlowOrder.f
  rw [head_f 2000 (by omega), rends_f n l a1 a2 2000 (by omega)]
  simp only [Option.bind_some]
  by_cases h : endsOk n l a1 a2
  · rw [if_pos (by simpa using h)]
    simp only [chargeparklaw21_FlowOrder.j0]
    by_cases c1 : a3 < 0
    · rw [if_pos (by simpa using c1)]
    · rw [if_neg (by simpa using c1)]
      have hl := h.1.1.2.2
      have hh := order_loop n l a1 a2 a3 h (by omega) ?hend l.length 0 1999 (by omega) (by omega)
      · have e0 : turn l (a3.toNat % l.length) 0 = [] := rfl
        rw [e0] at hh
        exact hh
      · obtain ⟨a, f, S, e, P, L⟩ := most_least h
        obtain ⟨⟨⟨n1, n2, _⟩, hg⟩, ⟨s0, s1⟩, ⟨t0, t1⟩, hst⟩ := h
        obtain ⟨m, rfl⟩ : ∃ m : Nat, n = m := ⟨n.toNat, by omega⟩
        obtain ⟨tu, htu⟩ : ∃ tu, tu = turn l (a3.toNat % l.length) l.length := ⟨_, rfl⟩
        rw [← htu]
        have hcap : ∀ S, capL S tu = capL S l := by
          intro S
          by_cases z : l.length = 0
          · have : l = [] := List.eq_nil_of_length_eq_zero z
            subst this
            rw [htu]; rfl
          · rw [htu, turn_all l _ (Nat.mod_lt _ (by omega)), capL_append, Int.add_comm, ← capL_append, List.take_append_drop]
        have hmem : ∀ x ∈ tu, x ∈ l := by
          intro x hx
          rw [htu] at hx
          obtain ⟨j, hj, rfl⟩ := List.mem_map.1 hx
          have := List.mem_range.1 hj
          exact rd_mem l _ (Nat.mod_lt _ (by omega))
        have hlen : tu.length = l.length := by rw [htu]; simp [turn]
        have h2 : endsOk m tu a1 a2 := ⟨⟨⟨n1, n2, by omega⟩, fun x hx => hg x (hmem x hx)⟩, ⟨s0, s1⟩, ⟨t0, t1⟩, hst⟩
        have h3 : endsOk m (tu.map rev) a2 a1 := ⟨⟨⟨n1, n2, by simp; omega⟩, fun x hx => by
          obtain ⟨y, hy, rfl⟩ := List.mem_map.1 hx
          obtain ⟨p, q, r⟩ := hg y (hmem y hy)
          exact ⟨q, p, r⟩⟩, ⟨t0, t1⟩, ⟨s0, s1⟩, fun e => hst e.symm⟩
        obtain ⟨a', f', S', e', P', L'⟩ := most_least h2
        obtain ⟨b, g, R, eb, Pb, Lb⟩ := most_least h3
        rw [e, e', eb]
        simp only [Option.bind_some, if_true]
        simp only [Int.toNat_natCast] at L L' Lb
        have e1 : a = a' := L.eq L' (fun S _ => (hcap S).symm)
        have hedge : ∀ x ∈ tu, edgeOk m x := fun x hx => hg x (hmem x hx)
        have e2 : a = b := by
          obtain ⟨Sa, ha, hca⟩ := L.cut
          obtain ⟨Sb, hb, hcb⟩ := Lb.cut
          have i1 := Lb.le (comp Sa) (cut_comp ha s0 s1 t0 t1)
          rw [capL_rev m Sa ha.1 tu hedge, hcap, hca] at i1
          have i2 := L.le (comp Sb) (cut_comp hb t0 t1 s0 s1)
          have i3 := capL_rev m (comp Sb) (by simp [comp, hb.1]) tu hedge
          rw [comp_comp, hcap] at i3
          omega
        rw [if_pos e1]
        simp [e2]
  · rw [if_neg (by simpa using h)]
    simp only [chargeparklaw21_FlowOrder.j0, if_true]
end Go.Proofs.Ytfjbbmgnfpeogaa.Pure
