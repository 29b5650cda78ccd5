import Derived.Test.YtfjbbmgnfpeogaaPr5
import Derived.Test.YtfjbbmgnfpeogaaPr6
import Derived.Test.YtfjbbmgnfpeogaaPr7
import Derived.Test.YtfjbbmgnfpeogaaPr2
import Derived.Test.YtfjbbmgnfpeogaaFlowEnds
import Derived.Test.YtfjbbmgnfpeogaaThFlowRound
/-! What the given flows and cuts are, as the code sees them. -/
namespace Go.Proofs.Ytfjbbmgnfpeogaa.Pr
open Go.RowKit Go.Proofs.YtfjbbmgnfpeogaaW.PrintWords Go.Proofs.YtfjbbmgnfpeogaaW.PrintLast Go.Proofs.YtfjbbmgnfpeogaaW.PrintMore
open Go.Proofs.Ytfjbbmgnfpeogaa.FlowTheory

def tnet (l : List S39) (fl : List Int) (i : Nat) (v : Int) : Int := net i (FlowM.frF (esOf l)) (FlowM.toF (esOf l)) (FlowM.flF fl) v
def tcap (l : List S39) (S : List Bool) (i : Nat) : Int := capOf i (FlowM.frF (esOf l)) (FlowM.toF (esOf l)) (FlowM.capF (esOf l)) (FlowM.sees S)

theorem tnet_succ (l : List S39) (fl : List Int) (i : Nat) (h : i < l.length) (v : Int) :
    tnet l fl (i + 1) v = tnet l fl i v + ((if (rd_T39 l (i : Int)).f0 = v then rd fl (i : Int) else 0) - (if (rd_T39 l (i : Int)).f1 = v then rd fl (i : Int) else 0)) := by
  obtain ⟨e1, e2, _⟩ := frF_of l i h
  rw [← e1, ← e2]
  rfl
theorem tcap_succ (l : List S39) (S : List Bool) (i : Nat) (h : i < l.length) :
    tcap l S (i + 1) = tcap l S i + (if FlowM.sees S (rd_T39 l (i : Int)).f0 = true ∧ FlowM.sees S (rd_T39 l (i : Int)).f1 = false then (rd_T39 l (i : Int)).f2 else 0) := by
  obtain ⟨e1, e2, e3⟩ := frF_of l i h
  rw [← e1, ← e2, ← e3]
  rfl
theorem tnet_bound (l : List S39) (fl : List Int) (hb : ∀ i : Nat, i < l.length → 0 ≤ rd fl (i : Int) ∧ rd fl (i : Int) ≤ 1000000) (v : Int) : ∀ i : Nat, i ≤ l.length → - (i * 1000000 : Int) ≤ tnet l fl i v ∧ tnet l fl i v ≤ i * 1000000
  | 0, _ => by simp [tnet, net, sumN]
  | i + 1, h => by
    have h1 := tnet_bound l fl hb v i (by omega)
    have h2 := hb i (by omega)
    rw [tnet_succ l fl i (by omega)]
    split <;> split <;> omega
theorem tcap_bound (l : List S39) (S : List Bool) (hb : ∀ i : Nat, i < l.length → 0 ≤ (rd_T39 l (i : Int)).f2 ∧ (rd_T39 l (i : Int)).f2 ≤ 1000000) : ∀ i : Nat, i ≤ l.length → 0 ≤ tcap l S i ∧ tcap l S i ≤ i * 1000000
  | 0, _ => by simp [tcap, capOf, sumN]
  | i + 1, h => by
    have h1 := tcap_bound l S hb i (by omega)
    have h2 := hb i (by omega)
    rw [tcap_succ l S i (by omega)]
    split <;> omega

theorem w64 {x : Int} (h1 : -9223372036854775808 ≤ x) (h2 : x ≤ 9223372036854775807) : wrap64 x = x := by unfold wrap64; omega

/-! Ends -/
theorem rvalid_loop (n : Int) (l : List S39) (hl : l.length ≤ 512) : ∀ (d i k : Nat), i + d = l.length → d + 1 ≤ k →
    chargeparkref21_Valid.l0 k (i : Int) n l = some (decide (∀ e ∈ l.drop i, edgeOk n e)) := by
  intro d
  induction d with
  | zero =>
    intro i k hi hk
    obtain ⟨k, rfl⟩ : ∃ m, k = m + 1 := ⟨k - 1, by omega⟩
    simp only [chargeparkref21_Valid.l0]
    rw [if_neg (by omega), List.drop_of_length_le (by omega)]
    simp
  | succ d ih =>
    intro i k hi hk
    obtain ⟨k, rfl⟩ : ∃ m, k = m + 1 := ⟨k - 1, by omega⟩
    simp only [chargeparkref21_Valid.l0]
    rw [if_pos (by omega), if_pos (by omega), rd_drop l i (by omega), w64 (by omega) (by omega)]
    have h := ih (i + 1) k (by omega) (by omega)
    rw [show ((i + 1 : Nat) : Int) = (i : Int) + 1 by omega] at h
    generalize hx : rd_T39 l (i : Int) = x at *
    have bad : ∀ (D : Decidable (∀ e ∈ x :: List.drop (i + 1) l, edgeOk n e)), ¬ edgeOk n x → some false = some (@decide (∀ e ∈ x :: List.drop (i + 1) l, edgeOk n e) D) := fun D hn => by
      congr 1; symm; rw [decide_eq_false_iff_not]; exact fun hh => hn (hh x (by simp))
    by_cases c1 : x.f0 < 0
    · rw [if_pos c1]; exact bad _ (fun h => by have := h.1; omega)
    · rw [if_neg c1]
      by_cases c2 : x.f0 ≥ n
      · rw [if_pos c2]; exact bad _ (fun h => by have := h.1; omega)
      · rw [if_neg c2]
        by_cases c3 : x.f1 < 0
        · rw [if_pos c3]; exact bad _ (fun h => by have := h.2.1; omega)
        · rw [if_neg c3]
          by_cases c4 : x.f1 ≥ n
          · rw [if_pos c4]; exact bad _ (fun h => by have := h.2.1; omega)
          · rw [if_neg c4]
            by_cases c5 : x.f2 < 0
            · rw [if_pos c5]; exact bad _ (fun h => by have := h.2.2; omega)
            · rw [if_neg c5]
              by_cases c6 : x.f2 > 1000000
              · rw [if_pos c6]; exact bad _ (fun h => by have := h.2.2; omega)
              · rw [if_neg c6, h]
                congr 1
                have : edgeOk n x := ⟨by omega, by omega, by omega, by omega⟩
                simp [this]

theorem rvalid_f (n : Int) (l : List S39) (k : Nat) (hk : 600 ≤ k) : chargeparkref21_Valid.f k n l = some (decide (graphOk n l)) := by
  obtain ⟨k, rfl⟩ : ∃ m, k = m + 1 := ⟨k - 1, by omega⟩
  unfold chargeparkref21_Valid.f
  by_cases c1 : n < 1
  · rw [if_pos c1]; simp only [chargeparkref21_Valid.j0, if_true]
    congr 1; symm; rw [decide_eq_false_iff_not]; intro h; have := h.1.1; omega
  · rw [if_neg c1]
    by_cases c2 : n > 64
    · rw [if_pos c2]; simp only [chargeparkref21_Valid.j0, if_true]
      congr 1; symm; rw [decide_eq_false_iff_not]; intro h; have := h.1.2.1; omega
    · rw [if_neg c2]
      simp only [chargeparkref21_Valid.j0]
      by_cases c3 : (l.length : Int) > 512
      · rw [if_pos (by simpa using c3)]
        congr 1; symm; rw [decide_eq_false_iff_not]; intro h; have := h.1.2.2; omega
      · rw [if_neg (by simpa using c3)]
        have h := rvalid_loop n l (by omega) l.length 0 k (by omega) (by omega)
        rw [List.drop_zero] at h
        rw [show ((0 : Nat) : Int) = 0 from rfl] at h
        rw [h]
        congr 1
        have : 1 ≤ n ∧ n ≤ 64 ∧ l.length ≤ 512 := by omega
        simp [graphOk, this]

theorem rends_f (n : Int) (l : List S39) (s t : Int) (k : Nat) (hk : 600 ≤ k) : chargeparkref21_Ends.f k n l s t = some (decide (endsOk n l s t)) := by
  unfold chargeparkref21_Ends.f
  rw [rvalid_f n l k hk]
  simp only [Option.bind_some]
  have bad : ¬ endsOk n l s t → some false = some (decide (endsOk n l s t)) := fun hn => by rw [decide_eq_false hn]
  by_cases c1 : graphOk n l
  · rw [if_pos (by simpa using c1)]
    by_cases c2 : s ≥ 0
    · rw [if_pos c2]
      by_cases c3 : s < n
      · rw [if_pos c3]
        by_cases c4 : t ≥ 0
        · rw [if_pos c4]
          by_cases c5 : t < n
          · rw [if_pos c5]
            congr 1
            have d2 : 0 ≤ s := c2
            have d4 : 0 ≤ t := c4
            by_cases e : s = t <;> simp [endsOk, c1, d2, c3, d4, c5, e]
          · rw [if_neg c5]; exact bad (fun h => by have := h.2.2.1; omega)
        · rw [if_neg c4]; exact bad (fun h => by have := h.2.2.1; omega)
      · rw [if_neg c3]; exact bad (fun h => by have := h.2.1; omega)
    · rw [if_neg c2]; exact bad (fun h => by have := h.2.1; omega)
  · rw [if_neg (by simpa using c1)]; exact bad (fun h => c1 h.1)

/-! Amount -/
theorem amount_loop (n : Int) (l : List S39) (v : Int) (fl : List Int) (hl : l.length ≤ 512) (hf : fl.length = l.length)
    (hb : ∀ i : Nat, i < l.length → 0 ≤ rd fl (i : Int) ∧ rd fl (i : Int) ≤ 1000000) : ∀ (d i k : Nat), i + d = l.length → d + 1 ≤ k →
    chargeparkref21_Amount.l0 k v fl (tnet l fl i v) (i : Int) n l = some (tnet l fl l.length v) := by
  intro d
  induction d with
  | zero =>
    intro i k hi hk
    obtain ⟨k, rfl⟩ : ∃ m, k = m + 1 := ⟨k - 1, by omega⟩
    simp only [chargeparkref21_Amount.l0]
    rw [if_neg (by omega)]
    have : i = l.length := by omega
    rw [this]
  | succ d ih =>
    intro i k hi hk
    obtain ⟨k, rfl⟩ : ∃ m, k = m + 1 := ⟨k - 1, by omega⟩
    simp only [chargeparkref21_Amount.l0]
    rw [if_pos (by omega), if_pos (by omega)]
    have h := ih (i + 1) k (by omega) (by omega)
    have hs := tnet_succ l fl i (by omega) v
    have hbd := tnet_bound l fl hb v i (by omega)
    have hbi := hb i (by omega)
    rw [w64 (x := (i : Int) + 1) (by omega) (by omega)]
    rw [show ((i + 1 : Nat) : Int) = (i : Int) + 1 by omega] at h
    generalize rd_T39 l (i : Int) = x at *
    generalize rd fl (i : Int) = y at *
    generalize tnet l fl i v = z at *
    generalize tnet l fl (i + 1) v = z' at *
    by_cases c1 : x.f0 = v
    · rw [if_pos c1, if_pos (by omega)]
      by_cases c2 : x.f1 = v
      · rw [if_pos c2, w64 (x := z + y) (by omega) (by omega), w64 (x := z + y - y) (by omega) (by omega)]
        rw [if_pos c1, if_pos c2] at hs
        rw [show z + y - y = z' by omega]; exact h
      · rw [if_neg c2, w64 (x := z + y) (by omega) (by omega)]
        rw [if_pos c1, if_neg c2] at hs
        rw [show z + y = z' by omega]; exact h
    · rw [if_neg c1]
      by_cases c2 : x.f1 = v
      · rw [if_pos c2, if_pos (by omega), w64 (x := z - y) (by omega) (by omega)]
        rw [if_neg c1, if_pos c2] at hs
        rw [show z - y = z' by omega]; exact h
      · rw [if_neg c2]
        rw [if_neg c1, if_neg c2] at hs
        rw [show z = z' by omega]; exact h

theorem amount_f (n : Int) (l : List S39) (v : Int) (fl : List Int) (hl : l.length ≤ 512) (hf : fl.length = l.length)
    (hb : ∀ i : Nat, i < l.length → 0 ≤ rd fl (i : Int) ∧ rd fl (i : Int) ≤ 1000000) (k : Nat) (hk : 600 ≤ k) : chargeparkref21_Amount.f k n l v fl = some (tnet l fl l.length v) := by
  have h := amount_loop n l v fl hl hf hb l.length 0 k (by omega) (by omega)
  exact h

/-! Flow -/
def bounded (l : List S39) (fl : List Int) (i : Nat) : Prop := ∀ j : Nat, i ≤ j → j < l.length → 0 ≤ rd fl (j : Int) ∧ rd fl (j : Int) ≤ (rd_T39 l (j : Int)).f2
def kept (n : Nat) (l : List S39) (s t : Int) (fl : List Int) (u : Nat) : Prop := ∀ v : Nat, u ≤ v → v < n → (v : Int) ≠ s → (v : Int) ≠ t → tnet l fl l.length v = 0
def flowOk (n : Nat) (l : List S39) (s t : Int) (fl : List Int) : Prop := fl.length = l.length ∧ bounded l fl 0 ∧ kept n l s t fl 0

open Classical in
theorem flow_loop1 (n : Nat) (l : List S39) (s t : Int) (fl : List Int) (hl : l.length ≤ 512) (hn : n ≤ 64) (hf : fl.length = l.length)
    (hb : ∀ i : Nat, i < l.length → 0 ≤ rd fl (i : Int) ∧ rd fl (i : Int) ≤ 1000000) : ∀ (d u k : Nat), u + d = n → d + 602 ≤ k →
    chargeparkref21_Flow.l1 k s t fl (u : Int) (n : Int) l = some (decide (kept n l s t fl u)) := by
  intro d
  induction d with
  | zero =>
    intro u k hu hk
    obtain ⟨k, rfl⟩ : ∃ m, k = m + 1 := ⟨k - 1, by omega⟩
    simp only [chargeparkref21_Flow.l1]
    rw [if_neg (by omega)]
    congr 1; symm; rw [decide_eq_true_iff]; intro v hv hv2; omega
  | succ d ih =>
    intro u k hu hk
    obtain ⟨k, rfl⟩ : ∃ m, k = m + 1 := ⟨k - 1, by omega⟩
    simp only [chargeparkref21_Flow.l1]
    rw [if_pos (by omega), w64 (x := (u : Int) + 1) (by omega) (by omega)]
    have h := ih (u + 1) k (by omega) (by omega)
    rw [show ((u + 1 : Nat) : Int) = (u : Int) + 1 by omega] at h
    have skip : ((u : Int) = s ∨ (u : Int) = t ∨ tnet l fl l.length u = 0) → decide (kept n l s t fl (u + 1)) = decide (kept n l s t fl u) := by
      intro hu'
      have : kept n l s t fl (u + 1) ↔ kept n l s t fl u := by
        refine ⟨fun hk v hv1 hv2 a b => ?_, fun hk v hv1 hv2 a b => hk v (by omega) hv2 a b⟩
        by_cases e : v = u
        · subst e; rcases hu' with h | h | h; exact absurd h a; exact absurd h b; exact h
        · exact hk v (by omega) hv2 a b
      simp only [this]
    by_cases c1 : (u : Int) = s
    · rw [if_pos c1, h, skip (.inl c1)]
    · rw [if_neg c1]
      by_cases c2 : (u : Int) = t
      · rw [if_pos c2, h, skip (.inr (.inl c2))]
      · rw [if_neg c2, amount_f n l u fl hl hf hb k (by omega)]
        simp only [Option.bind_some]
        by_cases c3 : tnet l fl l.length u = 0
        · rw [if_pos c3, h, skip (.inr (.inr c3))]
        · rw [if_neg c3]
          congr 1; symm; rw [decide_eq_false_iff_not]; exact fun hh => c3 (hh u (by omega) (by omega) c1 c2)

open Classical in
theorem flow_loop0 (n : Nat) (l : List S39) (s t : Int) (fl : List Int) (hl : l.length ≤ 512) (hn : n ≤ 64) (hf : fl.length = l.length)
    (hc : ∀ i : Nat, i < l.length → (rd_T39 l (i : Int)).f2 ≤ 1000000) : ∀ (d i k : Nat), i + d = l.length → d + 700 ≤ k →
    (∀ j : Nat, j < i → 0 ≤ rd fl (j : Int) ∧ rd fl (j : Int) ≤ (rd_T39 l (j : Int)).f2) →
    chargeparkref21_Flow.l0 k s t fl (i : Int) (n : Int) l = some (decide (bounded l fl i ∧ kept n l s t fl 0)) := by
  intro d
  induction d with
  | zero =>
    intro i k hi hk hp
    obtain ⟨k, rfl⟩ : ∃ m, k = m + 1 := ⟨k - 1, by omega⟩
    simp only [chargeparkref21_Flow.l0]
    rw [if_neg (by omega)]
    have h := flow_loop1 n l s t fl hl hn hf (fun j hj => by have := hp j (by omega); have := hc j hj; omega) n 0 k (by omega) (by omega)
    rw [show ((0 : Nat) : Int) = 0 from rfl] at h
    rw [h]
    have : bounded l fl i := fun j h1 h2 => by omega
    simp [this]
  | succ d ih =>
    intro i k hi hk hp
    obtain ⟨k, rfl⟩ : ∃ m, k = m + 1 := ⟨k - 1, by omega⟩
    simp only [chargeparkref21_Flow.l0]
    rw [if_pos (by omega), if_pos (by omega), w64 (x := (i : Int) + 1) (by omega) (by omega)]
    have bad : ¬ (0 ≤ rd fl (i : Int) ∧ rd fl (i : Int) ≤ (rd_T39 l (i : Int)).f2) → some false = some (decide (bounded l fl i ∧ kept n l s t fl 0)) := fun hn => by
      congr 1; symm; rw [decide_eq_false_iff_not]; exact fun hh => hn (hh.1 i (by omega) (by omega))
    by_cases c1 : rd fl (i : Int) < 0
    · rw [if_pos c1]; exact bad (fun h => by omega)
    · rw [if_neg c1, if_pos (by omega)]
      by_cases c2 : rd fl (i : Int) > (rd_T39 l (i : Int)).f2
      · rw [if_pos c2]; exact bad (fun h => by omega)
      · rw [if_neg c2]
        have h := ih (i + 1) k (by omega) (by omega) (fun j hj => by
          by_cases e : j = i
          · subst e; exact ⟨by omega, by omega⟩
          · exact hp j (by omega))
        rw [show ((i + 1 : Nat) : Int) = (i : Int) + 1 by omega] at h
        rw [h]
        have : bounded l fl (i + 1) ↔ bounded l fl i := by
          refine ⟨fun hk v hv1 hv2 => ?_, fun hk v hv1 hv2 => hk v (by omega) hv2⟩
          by_cases e : v = i
          · subst e; exact ⟨by omega, by omega⟩
          · exact hk v (by omega) hv2
        simp only [this]

open Classical in
theorem flow_f {n : Int} {l : List S39} {s t : Int} (he : endsOk n l s t) (fl : List Int) (k : Nat) (hk : 1300 ≤ k) : chargeparkref21_Flow.f k n l s t fl = some (decide (flowOk n.toNat l s t fl)) := by
  obtain ⟨⟨⟨n1, n2, hl⟩, hg⟩, _⟩ := he
  obtain ⟨m, rfl⟩ : ∃ m : Nat, n = m := ⟨n.toNat, by omega⟩
  unfold chargeparkref21_Flow.f
  by_cases c : (fl.length : Int) = (l.length : Int)
  · rw [if_pos c]
    have h := flow_loop0 m l s t fl hl (by omega) (by omega) (fun i hi => (hg _ (rd_mem l i hi)).2.2.2) l.length 0 k (by omega) (by omega) (fun j hj => by omega)
    rw [show ((0 : Nat) : Int) = 0 from rfl] at h
    rw [h]
    have : fl.length = l.length := by omega
    simp [flowOk, this]
  · rw [if_neg c]
    congr 1; symm; rw [decide_eq_false_iff_not]; exact fun hh => c (by rw [hh.1])

/-! Cut -/
def cutOk (n : Nat) (s t : Int) (S : List Bool) : Prop := S.length = n ∧ FlowM.sees S s = true ∧ FlowM.sees S t = false
instance (n : Nat) (s t : Int) (S : List Bool) : Decidable (cutOk n s t S) := by unfold cutOk; infer_instance

theorem cut_f {n : Int} {l : List S39} {s t : Int} (he : endsOk n l s t) (S : List Bool) : chargeparkref21_Cut.f n l s t S = some (decide (cutOk n.toNat s t S)) := by
  obtain ⟨⟨⟨n1, n2, hl⟩, hg⟩, ⟨s0, s1⟩, ⟨t0, t1⟩, _⟩ := he
  unfold chargeparkref21_Cut.f
  by_cases c : (S.length : Int) = n
  · rw [if_pos c, if_pos s0, if_pos (by omega)]
    have hlen : S.length = n.toNat := by omega
    have es : FlowM.sees S s = rdOf false S s := rfl
    have et : FlowM.sees S t = rdOf false S t := rfl
    by_cases c2 : rdOf false S s = true
    · rw [if_pos c2, if_pos t0, if_pos (by omega)]
      congr 1
      simp [cutOk, hlen, es, c2, et]
    · rw [if_neg c2]
      congr 1; symm; rw [decide_eq_false_iff_not]; exact fun hh => c2 (es ▸ hh.2.1)
  · rw [if_neg c]
    congr 1; symm; rw [decide_eq_false_iff_not]; intro hh; have := hh.1; omega

theorem cap_loop (n : Int) (l : List S39) (S : List Bool) (hg : graphOk n l) (hS : S.length = n.toNat) : ∀ (d i k : Nat), i + d = l.length → d + 1 ≤ k →
    chargeparkref21_Capacity.l0 k S (tcap l S i) (i : Int) n l = some (tcap l S l.length) := by
  obtain ⟨⟨n1, n2, hl⟩, hg⟩ := hg
  intro d
  induction d with
  | zero =>
    intro i k hi hk
    obtain ⟨k, rfl⟩ : ∃ m, k = m + 1 := ⟨k - 1, by omega⟩
    simp only [chargeparkref21_Capacity.l0]
    rw [if_neg (by omega)]
    have : i = l.length := by omega
    rw [this]
  | succ d ih =>
    intro i k hi hk
    obtain ⟨k, rfl⟩ : ∃ m, k = m + 1 := ⟨k - 1, by omega⟩
    simp only [chargeparkref21_Capacity.l0]
    have hx := hg _ (rd_mem l i (by omega))
    have h := ih (i + 1) k (by omega) (by omega)
    have hs := tcap_succ l S i (by omega)
    have hbd := tcap_bound l S (fun j hj => (hg _ (rd_mem l j hj)).2.2) i (by omega)
    rw [show ((i + 1 : Nat) : Int) = (i : Int) + 1 by omega] at h
    rw [if_pos (by omega), if_pos (by omega), w64 (x := (i : Int) + 1) (by omega) (by omega)]
    obtain ⟨⟨x1, x2⟩, ⟨x3, x4⟩, x5, x6⟩ := hx
    have e1 : rdOf false S (rd_T39 l (i : Int)).f0 = FlowM.sees S (rd_T39 l (i : Int)).f0 := rfl
    have e2 : rdOf false S (rd_T39 l (i : Int)).f1 = FlowM.sees S (rd_T39 l (i : Int)).f1 := rfl
    rw [e1, e2]
    generalize rd_T39 l (i : Int) = x at *
    rw [if_pos x1, if_pos (by omega)]
    generalize FlowM.sees S x.f0 = p at *
    generalize FlowM.sees S x.f1 = q at *
    generalize tcap l S i = z at *
    generalize tcap l S (i + 1) = z' at *
    cases p with
    | false =>
      rw [if_neg (by decide)]
      simp at hs
      rw [← hs]; exact h
    | true =>
      rw [if_pos rfl, if_pos x3, if_pos (by omega)]
      cases q with
      | true =>
        rw [if_pos rfl]
        simp at hs
        rw [← hs]; exact h
      | false =>
        rw [if_neg (by decide)]
        simp at hs
        rw [w64 (x := z + x.f2) (by omega) (by omega), ← hs]; exact h

theorem cap_f {n : Int} {l : List S39} (hg : graphOk n l) (S : List Bool) (hS : S.length = n.toNat) (k : Nat) (hk : 600 ≤ k) : chargeparkref21_Capacity.f k n l S = some (tcap l S l.length) :=
  cap_loop n l S hg hS l.length 0 k (by omega) (by have := hg.1.2.2; omega)
end Go.Proofs.Ytfjbbmgnfpeogaa.Pr
