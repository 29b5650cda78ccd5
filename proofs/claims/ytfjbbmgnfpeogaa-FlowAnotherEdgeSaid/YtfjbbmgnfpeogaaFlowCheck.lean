import Derived.Test.YtfjbbmgnfpeogaaFlowRef
/-! The program's check of a flow and a cut. -/
namespace Go.Proofs.Ytfjbbmgnfpeogaa.Pr
open Go.RowKit Go.Proofs.YtfjbbmgnfpeogaaW.PrintWords Go.Proofs.YtfjbbmgnfpeogaaW.PrintLast Go.Proofs.YtfjbbmgnfpeogaaW.PrintMore
open Go.Proofs.Ytfjbbmgnfpeogaa.FlowTheory

theorem rd_set (xs : List Int) (a v : Nat) (x : Int) (h : a < xs.length) : rd (xs.set a x) (v : Int) = if v = a then x else rd xs (v : Int) := by
  unfold rd
  simp only [Int.toNat_natCast, List.getD_eq_getElem?_getD, List.getElem?_set]
  by_cases e : a = v
  · subst e; simp [h]
  · rw [if_neg e, if_neg (fun e' => e e'.symm)]

structure Out (n : Nat) (l : List S39) (fl : List Int) (i : Nat) (out : List Int) : Prop where
  len : out.length = n
  at_ : ∀ v : Nat, v < n → rd out (v : Int) = tnet l fl i v

theorem out_step {n : Nat} {l : List S39} {fl : List Int} {i : Nat} {out : List Int} (h : Out n l fl i out) (hi : i < l.length) (a b : Nat) (ha : a < n) (hb : b < n) (ea : (rd_T39 l (i : Int)).f0 = a) (eb : (rd_T39 l (i : Int)).f1 = b) :
    Out n l fl (i + 1) ((out.set a (rd out (a : Int) + rd fl (i : Int))).set b (rd (out.set a (rd out (a : Int) + rd fl (i : Int))) (b : Int) - rd fl (i : Int))) := by
  refine ⟨by simp [h.len], fun v hv => ?_⟩
  rw [rd_set _ _ _ _ (by simp [h.len]; exact hb), rd_set _ _ _ _ (by rw [h.len]; exact ha), rd_set _ _ _ _ (by rw [h.len]; exact ha), tnet_succ l fl i hi, ea, eb, h.at_ v hv, h.at_ a ha, h.at_ b hb]
  by_cases c1 : v = a
  · subst c1
    by_cases c2 : v = b
    · subst c2; simp
    · have c3 : ¬ ((b : Int) = v) := by omega
      rw [if_neg c2, if_pos rfl, if_pos rfl, if_neg c3]; omega
  · have c4 : ¬ ((a : Int) = v) := by omega
    by_cases c2 : v = b
    · subst c2
      rw [if_pos rfl, if_neg c1, if_neg c4, if_pos rfl]; omega
    · have c3 : ¬ ((b : Int) = v) := by omega
      rw [if_neg c2, if_neg c1, if_neg c4, if_neg c3]; omega

open Classical in
theorem check_loop1 (n : Nat) (l : List S39) (s t : Int) (fl : List Int) (out : List Int) (cut : Int) (hn : n ≤ 64) (hs0 : 0 ≤ s) (hs1 : s < n) (ho : Out n l fl l.length out) : ∀ (d u k : Nat), u + d = n → d + 1 ≤ k →
    flow_Check.l1 k s t out cut out (out.length : Int) (u : Int) = some (decide (kept n l s t fl u ∧ tnet l fl l.length s = cut)) := by
  have hol := ho.len
  intro d
  induction d with
  | zero =>
    intro u k hu hk
    obtain ⟨k, rfl⟩ : ∃ m, k = m + 1 := ⟨k - 1, by omega⟩
    simp only [flow_Check.l1]
    rw [if_neg (by omega), if_pos hs0, if_pos (by omega)]
    obtain ⟨a, rfl⟩ := Int.eq_ofNat_of_zero_le hs0
    have hr := ho.at_ a (by omega)
    have hk0 : kept n l (a : Int) t fl u := fun v hv hv2 => by omega
    simp only [hk0, true_and, hr]
    congr 1
  | succ d ih =>
    intro u k hu hk
    obtain ⟨k, rfl⟩ : ∃ m, k = m + 1 := ⟨k - 1, by omega⟩
    simp only [flow_Check.l1]
    rw [if_pos (by omega), if_pos (by omega), if_pos (by omega), w64 (x := (u : Int) + 1) (by omega) (by omega)]
    have h := ih (u + 1) k (by omega) (by omega)
    rw [show ((u + 1 : Nat) : Int) = (u : Int) + 1 by omega] at h
    have skip : ((u : Int) = s ∨ (u : Int) = t ∨ tnet l fl l.length u = 0) → decide (kept n l s t fl (u + 1) ∧ tnet l fl l.length s = cut) = decide (kept n l s t fl u ∧ tnet l fl l.length s = cut) := by
      intro hu'
      have : kept n l s t fl (u + 1) ↔ kept n l s t fl u := by
        refine ⟨fun hk v hv1 hv2 a b => ?_, fun hk v hv1 hv2 a b => hk v (by omega) hv2 a b⟩
        by_cases e : v = u
        · subst e; rcases hu' with h | h | h; exact absurd h a; exact absurd h b; exact h
        · exact hk v (by omega) hv2 a b
      simp only [this]
    by_cases c1 : (u : Int) = s
    · rw [if_pos c1, h, skip (.inl c1)]
    · rw [if_neg c1]
      by_cases c2 : (u : Int) = t
      · rw [if_pos c2, h, skip (.inr (.inl c2))]
      · rw [if_neg c2, ho.at_ u (by omega)]
        by_cases c3 : tnet l fl l.length u = 0
        · rw [if_pos c3, h, skip (.inr (.inr c3))]
        · rw [if_neg c3]
          congr 1; symm; rw [decide_eq_false_iff_not]; exact fun hh => c3 (hh.1 u (by omega) (by omega) c1 c2)

open Classical in
theorem check_loop0 (n : Nat) (l : List S39) (s t : Int) (fl : List Int) (S : List Bool) (hg : graphOk n l) (hs0 : 0 ≤ s) (hs1 : s < n) (hf : fl.length = l.length) (hS : S.length = n) : ∀ (d i k : Nat), i + d = l.length → 2 * d + 100 ≤ k →
    ∀ out : List Int, (∀ j : Nat, j < i → 0 ≤ rd fl (j : Int) ∧ rd fl (j : Int) ≤ (rd_T39 l (j : Int)).f2) → Out n l fl i out →
    flow_Check.l0 k s t fl S out (tcap l S i) l (l.length : Int) (i : Int) = some (decide (bounded l fl i ∧ kept n l s t fl 0 ∧ tnet l fl l.length s = tcap l S l.length)) := by
  obtain ⟨⟨n1, n2, hl⟩, hg⟩ := hg
  intro d
  induction d with
  | zero =>
    intro i k hi hk out hp ho
    obtain ⟨k, rfl⟩ : ∃ m, k = m + 1 := ⟨k - 1, by omega⟩
    simp only [flow_Check.l0]
    rw [if_neg (by omega)]
    have hil : i = l.length := by omega
    subst hil
    have h := check_loop1 n l s t fl out (tcap l S l.length) (by omega) hs0 hs1 ho n 0 k (by omega) (by omega)
    rw [show ((0 : Nat) : Int) = 0 from rfl] at h
    rw [h]
    have : bounded l fl l.length := fun j h1 h2 => by omega
    simp [this]
  | succ d ih =>
    intro i k hi hk out hp ho
    obtain ⟨k, rfl⟩ : ∃ m, k = m + 1 + 1 := ⟨k - 2, by omega⟩
    have hx := hg _ (rd_mem l i (by omega))
    obtain ⟨⟨x1, x2⟩, ⟨x3, x4⟩, x5, x6⟩ := hx
    have bad : ¬ (0 ≤ rd fl (i : Int) ∧ rd fl (i : Int) ≤ (rd_T39 l (i : Int)).f2) → some false = some (decide (bounded l fl i ∧ kept n l s t fl 0 ∧ tnet l fl l.length s = tcap l S l.length)) := fun hn => by
      congr 1; symm; rw [decide_eq_false_iff_not]; exact fun hh => hn (hh.1 i (by omega) (by omega))
    simp only [flow_Check.l0]
    rw [if_pos (by omega), if_pos (by omega), if_pos (by omega), if_pos (by omega)]
    by_cases c1 : rd fl (i : Int) < 0
    · rw [if_pos c1]; simp only [flow_Check.j2, if_true]; exact bad (fun h => by omega)
    · rw [if_neg c1]
      simp only [flow_Check.j2]
      by_cases c2 : rd fl (i : Int) > (rd_T39 l (i : Int)).f2
      · rw [if_pos (by simpa using c2)]; exact bad (fun h => by omega)
      · rw [if_neg (by simpa using c2)]
        obtain ⟨a, ha⟩ := Int.eq_ofNat_of_zero_le x1
        obtain ⟨b, hb⟩ := Int.eq_ofNat_of_zero_le x3
        have hol := ho.len
        have hp1 : ∀ j : Nat, j < i + 1 → 0 ≤ rd fl (j : Int) ∧ rd fl (j : Int) ≤ (rd_T39 l (j : Int)).f2 := fun j hj => by
          by_cases e : j = i
          · subst e; exact ⟨by omega, by omega⟩
          · exact hp j (by omega)
        have hbnd : ∀ v : Int, ∀ j : Nat, j ≤ i + 1 → - (j * 1000000 : Int) ≤ tnet l fl j v ∧ tnet l fl j v ≤ j * 1000000 := by
          intro v j
          induction j with
          | zero => intro _; simp [tnet, net, sumN]
          | succ j ihj =>
            intro hj
            have h1 := ihj (by omega)
            have h2 := hp1 j (by omega)
            have h3 := (hg _ (rd_mem l j (by omega))).2.2.2
            rw [tnet_succ l fl j (by omega)]
            split <;> split <;> omega
        have hst := out_step ho (by omega) a b (by omega) (by omega) ha hb
        have ya := ho.at_ a (by omega)
        have yb := ho.at_ b (by omega)
        have bda := hbnd a i (by omega)
        have bdb := hbnd b i (by omega)
        have hfi := hp1 i (by omega)
        have hca := tcap_succ l S i (by omega)
        have hcb := tcap_bound l S (fun j hj => (hg _ (rd_mem l j hj)).2.2) i (by omega)
        have hlen2 : ∀ x, (out.set a x).length = out.length := fun x => by simp
        rw [ha, hb]
        simp only [Int.toNat_natCast, Option.bind_some]
        rw [if_pos (by omega), if_pos (by omega), if_pos (by omega), if_pos (by omega), if_pos (by omega), if_pos (by omega), if_pos (by omega), w64 (x := rd out (a : Int) + rd fl (i : Int)) (by omega) (by omega)]
        have hrb : rd (out.set a (rd out (a : Int) + rd fl (i : Int))) (b : Int) = (if b = a then rd out (a : Int) + rd fl (i : Int) else rd out (b : Int)) := rd_set _ _ _ _ (by omega)
        rw [w64 (x := rd (out.set a (rd out (a : Int) + rd fl (i : Int))) (b : Int) - rd fl (i : Int)) (by rw [hrb]; split <;> omega) (by rw [hrb]; split <;> omega), w64 (x := (i : Int) + 1) (by omega) (by omega)]
        generalize hO : ((out.set a (rd out (a : Int) + rd fl (i : Int))).set b (rd (out.set a (rd out (a : Int) + rd fl (i : Int))) (b : Int) - rd fl (i : Int))) = out2 at hst ⊢
        have h := ih (i + 1) k (by omega) (by omega) out2 hp1 hst
        rw [show ((i + 1 : Nat) : Int) = (i : Int) + 1 by omega] at h
        have e1 : rdOf false S (a : Int) = FlowM.sees S (a : Int) := rfl
        have e2 : rdOf false S (b : Int) = FlowM.sees S (b : Int) := rfl
        have hbb : bounded l fl (i + 1) ↔ bounded l fl i := by
          refine ⟨fun hk v hv1 hv2 => ?_, fun hk v hv1 hv2 => hk v (by omega) hv2⟩
          by_cases e : v = i
          · subst e; exact ⟨by omega, by omega⟩
          · exact hk v (by omega) hv2
        rw [ha, hb] at hca
        try simp only [Int.ofNat_eq_natCast] at hca
        simp only [hbb] at h
        rw [e1, e2]
        cases hp' : FlowM.sees S (a : Int) with
        | false =>
          rw [if_neg (by decide)]
          simp [hp'] at hca
          rw [← hca]; exact h
        | true =>
          rw [if_pos rfl, if_pos (by omega)]
          cases hq' : FlowM.sees S (b : Int) with
          | true =>
            rw [if_pos rfl]
            simp [hp', hq'] at hca
            rw [← hca]; exact h
          | false =>
            rw [if_neg (by decide)]
            simp [hp', hq'] at hca
            rw [w64 (by omega) (by omega), ← hca]; exact h

open Classical in
theorem check_f (n : Int) (l : List S39) (s t : Int) (fl : List Int) (S : List Bool) (k : Nat) (hk : 1300 ≤ k) :
    flow_Check.f k n l s t fl S = some (decide (endsOk n l s t ∧ flowOk n.toNat l s t fl ∧ cutOk n.toNat s t S ∧ tnet l fl l.length s = tcap l S l.length)) := by
  obtain ⟨k, rfl⟩ : ∃ m, k = m + 1 := ⟨k - 1, by omega⟩
  unfold flow_Check.f
  rw [areEnds_f n l s t (k + 1) (by omega)]
  simp only [Option.bind_some]
  have bad : ¬ (endsOk n l s t ∧ flowOk n.toNat l s t fl ∧ cutOk n.toNat s t S ∧ tnet l fl l.length s = tcap l S l.length) → flow_Check.j0 (k + 1) s t fl S true n l = some (decide (endsOk n l s t ∧ flowOk n.toNat l s t fl ∧ cutOk n.toNat s t S ∧ tnet l fl l.length s = tcap l S l.length)) := fun hn => by
    simp only [flow_Check.j0, if_true]
    rw [decide_eq_false hn]
  by_cases c0 : endsOk n l s t
  · rw [if_pos (by simpa using c0)]
    obtain ⟨hg, ⟨s0, s1⟩, ⟨t0, t1⟩, hst⟩ := c0
    have hg' := hg
    obtain ⟨⟨n1, n2, hl⟩, _⟩ := hg'
    by_cases c1 : (fl.length : Int) = (l.length : Int)
    · rw [if_pos c1]
      by_cases c2 : (S.length : Int) = n
      · rw [if_pos c2, if_pos s0, if_pos (by omega)]
        have es : FlowM.sees S s = rdOf false S s := rfl
        have et : FlowM.sees S t = rdOf false S t := rfl
        by_cases c3 : rdOf false S s = true
        · rw [if_pos c3, if_pos t0, if_pos (by omega)]
          cases c4 : rdOf false S t with
          | true => exact bad (fun hh => by have := hh.2.2.1.2.2; rw [et, c4] at this; cases this)
          | false =>
            simp only [flow_Check.j0]
            rw [if_neg (by decide), if_pos (by omega), if_pos (by omega)]
            obtain ⟨m, rfl⟩ : ∃ m : Nat, n = m := ⟨n.toNat, by omega⟩
            simp only [Int.toNat_natCast]
            have hO : Out m l fl 0 (List.replicate m 0) := ⟨by simp, fun v hv => by simp [rd, tnet, net, sumN, List.getD_eq_getElem?_getD, hv]⟩
            have h := check_loop0 m l s t fl S hg s0 s1 (by omega) (by omega) l.length 0 k (by omega) (by omega) (List.replicate m 0) (fun j hj => by omega) hO
            have h0 : tcap l S 0 = 0 := rfl
            rw [h0, show ((0 : Nat) : Int) = 0 from rfl] at h
            rw [h]
            congr 1
            have q1 : endsOk (m : Int) l s t := ⟨hg, ⟨s0, s1⟩, ⟨t0, t1⟩, hst⟩
            have q2 : cutOk m s t S := ⟨by omega, by rw [es]; exact c3, by rw [et]; exact c4⟩
            have q3 : fl.length = l.length := by omega
            simp only [q1, q2, flowOk, q3, true_and, and_assoc]
        · rw [if_neg c3]; exact bad (fun hh => by have := hh.2.2.1.2.1; rw [es] at this; exact c3 this)
      · rw [if_neg c2]; exact bad (fun hh => by have := hh.2.2.1.1; omega)
    · rw [if_neg c1]; exact bad (fun hh => by have := hh.2.1.1; omega)
  · rw [if_neg (by simpa using c0)]; exact bad (fun hh => c0 hh.1)

/-! What Most gives is such. -/
theorem flow_of {n : Nat} {l : List S39} {s t : Int} {fl : List Int} : flowOk n l s t fl ↔ fl.length = l.length ∧ IsFlow (esOf l).length n (FlowM.frF (esOf l)) (FlowM.toF (esOf l)) (FlowM.capF (esOf l)) s t (FlowM.flF fl) := by
  have hlen : (esOf l).length = l.length := by simp [esOf]
  rw [hlen]
  have hrd : ∀ j : Nat, rd fl (j : Int) = FlowM.flF fl j := fun j => by simp [rd, FlowM.flF]
  refine ⟨fun ⟨a, b, c⟩ => ⟨a, ?_, ?_, ?_⟩, fun ⟨a, ⟨b, c, d⟩⟩ => ⟨a, ?_, ?_⟩⟩
  · intro i hi; have := (b i (by omega) hi).1; rwa [hrd] at this
  · intro i hi; have := (b i (by omega) hi).2; rw [hrd] at this; rw [(frF_of l i hi).2.2]; exact this
  · intro v v0 v1 a' b'
    obtain ⟨u, rfl⟩ := Int.eq_ofNat_of_zero_le v0
    exact c u (by omega) (by omega) a' b'
  · intro i _ hi
    have h1 := b i hi
    have h2 := c i hi
    rw [(frF_of l i hi).2.2] at h2
    rw [hrd]; exact ⟨h1, h2⟩
  · intro v _ hv a' b'
    exact d v (by omega) (by omega) a' b'
end Go.Proofs.Ytfjbbmgnfpeogaa.Pr
