import Derived.Test.YtfjbbmgnfpeogaaThFlow
import Derived.Test.YtfjbbmgnfpeogaaThFlowModel
/-! The search and the push are right: plain proofs about FlowM. -/
namespace Go.Proofs.Ytfjbbmgnfpeogaa.FlowM
open Go.Proofs.Ytfjbbmgnfpeogaa.FlowTheory

def frF (es : List E) (i : Nat) : Int := (es.getD i (0, 0, 0)).1
def toF (es : List E) (i : Nat) : Int := (es.getD i (0, 0, 0)).2.1
def capF (es : List E) (i : Nat) : Int := (es.getD i (0, 0, 0)).2.2
def flF (fl : List Int) (i : Nat) : Int := fl.getD i 0

structure Ok (nodes : Nat) (es : List E) : Prop where
  ends : Ends es.length nodes (frF es) (toF es)
  cap : ∀ i, i < es.length → 0 ≤ capF es i ∧ capF es i ≤ 1000000

theorem other_eq (es : List E) (s : Step) : other es s = if s.back = true then toF es s.edge else frF es s.edge := rfl

/-- What an offer is. -/
theorem offer_some {es : List E} {fl : List Int} {u : Int} {i : Nat} {s : Step} (h : offer es fl u i = some s) :
    i < es.length ∧ s.edge = i ∧ other es s = u ∧ u ≠ s.to ∧ 0 < s.room ∧
    ((s.back = false ∧ frF es i = u ∧ toF es i = s.to ∧ s.room = capF es i - flF fl i) ∨ (s.back = true ∧ toF es i = u ∧ frF es i = s.to ∧ s.room = flF fl i)) := by
  unfold offer at h
  cases he : es[i]? with
  | none => rw [he] at h; cases h
  | some e =>
    rw [he] at h
    have hi : i < es.length := by rcases Nat.lt_or_ge i es.length with h | h; exact h; rw [List.getElem?_eq_none h] at he; cases he
    have hd : es.getD i (0, 0, 0) = e := by rw [List.getD_eq_getElem?_getD, he]; rfl
    have h1 : frF es i = e.1 := by rw [frF, hd]
    have h2 : toF es i = e.2.1 := by rw [toF, hd]
    have h3 : capF es i = e.2.2 := by rw [capF, hd]
    simp only at h
    by_cases c0 : e.1 = e.2.1
    · rw [if_pos c0] at h; cases h
    · rw [if_neg c0] at h
      by_cases c1 : e.1 = u ∧ fl.getD i 0 < e.2.2
      · rw [if_pos c1] at h; cases h
        refine ⟨hi, rfl, ?_, ?_, ?_, .inl ⟨rfl, ?_, ?_, ?_⟩⟩
        · rw [other_eq]; simp; rw [h1]; exact c1.1
        · show u ≠ e.2.1; rw [← c1.1]; exact c0
        · show 0 < e.2.2 - fl.getD i 0; omega
        · rw [h1]; exact c1.1
        · exact h2
        · show _ = capF es i - flF fl i; rw [h3]; rfl
      · rw [if_neg c1] at h
        by_cases c2 : e.2.1 = u ∧ 0 < fl.getD i 0
        · rw [if_pos c2] at h; cases h
          refine ⟨hi, rfl, ?_, ?_, c2.2, .inr ⟨rfl, ?_, ?_, rfl⟩⟩
          · rw [other_eq]; simp; rw [h2]; exact c2.1
          · show u ≠ e.1; rw [← c2.1]; exact fun x => c0 x.symm
          · rw [h2]; exact c2.1
          · exact h1
        · rw [if_neg c2] at h; cases h

theorem offer_none {es : List E} {fl : List Int} {u : Int} {i : Nat} (hi : i < es.length) (h : offer es fl u i = none) :
    frF es i = toF es i ∨ ((frF es i = u → capF es i ≤ flF fl i) ∧ (toF es i = u → ¬ (frF es i = u ∧ flF fl i < capF es i) → flF fl i ≤ 0)) := by
  unfold offer at h
  rw [List.getElem?_eq_getElem hi] at h
  have hd : es.getD i (0, 0, 0) = es[i] := by rw [List.getD_eq_getElem?_getD, List.getElem?_eq_getElem hi]; rfl
  have h1 : frF es i = es[i].1 := by rw [frF, hd]
  have h2 : toF es i = es[i].2.1 := by rw [toF, hd]
  have h3 : capF es i = es[i].2.2 := by rw [capF, hd]
  simp only at h
  by_cases c0 : es[i].1 = es[i].2.1
  · left; rw [h1, h2]; exact c0
  · rw [if_neg c0] at h
    by_cases c1 : es[i].1 = u ∧ fl.getD i 0 < es[i].2.2
    · rw [if_pos c1] at h; cases h
    · rw [if_neg c1] at h
      by_cases c2 : es[i].2.1 = u ∧ 0 < fl.getD i 0
      · rw [if_pos c2] at h; cases h
      · right
        rw [h1, h2, h3]
        unfold flF
        constructor
        · intro e; rcases Int.lt_or_le (fl.getD i 0) es[i].2.2 with h | h
          · exact absurd ⟨e, h⟩ c1
          · exact h
        · intro e _; rcases Int.lt_or_le 0 (fl.getD i 0) with h | h
          · exact absurd ⟨e, h⟩ c2
          · exact h

/-! ### The search -/

theorem sees_set {l : List Bool} {a : Int} (h0 : 0 ≤ a) (h1 : a < l.length) (v : Int) (hv : 0 ≤ v) :
    sees (l.set a.toNat true) v = if v = a then true else sees l v := by
  unfold sees
  by_cases e : v = a
  · subst e; rw [if_pos rfl]; have h2 : v.toNat < l.length := by omega
    simp [List.getD_eq_getElem?_getD, h2]
  · rw [if_neg e]
    have : a.toNat ≠ v.toNat := by omega
    simp [List.getD_eq_getElem?_getD, this]

theorem count_set : ∀ (l : List Bool) (a : Nat), a < l.length → l.getD a false = false → (l.set a true).count false + 1 = l.count false
  | [], _, h, _ => by simp at h
  | b :: l, 0, _, hb => by simp at hb; subst hb; simp
  | b :: l, a + 1, h, hb => by
    have := count_set l a (by simpa using h) (by simpa using hb)
    cases b <;> simp <;> omega

structure Inv (nodes : Nat) (es : List E) (fl : List Int) (source : Int) (st : St) : Prop where
  src0 : 0 ≤ source
  len : st.seen.length = nodes
  src : sees st.seen source = true
  step : ∀ (j : Nat) (v : Int) (s : Step), st.by_[j]? = some (v, s) → s.to = v ∧ v ≠ source ∧ sees st.seen v = true ∧ offer es fl (other es s) s.edge = some s ∧
    (other es s = source ∨ ∃ (j' : Nat) (s' : Step), j' < j ∧ st.by_[j']? = some (other es s, s'))
  one : ∀ (j j' : Nat) (v : Int) (s s' : Step), st.by_[j]? = some (v, s) → st.by_[j']? = some (v, s') → j = j'
  all : ∀ v : Int, 0 ≤ v → v < nodes → sees st.seen v = true → v = source ∨ ∃ (j : Nat) (s : Step), st.by_[j]? = some (v, s)
  inq : ∀ v ∈ st.q, 0 ≤ v ∧ v < nodes ∧ sees st.seen v = true

/-- All that v offers is seen. -/
def Closed (es : List E) (fl : List Int) (seen : List Bool) (v : Int) : Prop := ∀ i s, offer es fl v i = some s → sees seen s.to = true

theorem offer_range {nodes : Nat} {es : List E} (ok : Ok nodes es) {fl : List Int} {u : Int} {i : Nat} {s : Step} (h : offer es fl u i = some s) : 0 ≤ s.to ∧ s.to < nodes := by
  obtain ⟨hi, _, _, _, _, h | h⟩ := offer_some h
  · have := ok.ends i hi; rw [← h.2.2.1]; omega
  · have := ok.ends i hi; rw [← h.2.2.1]; omega

theorem meet_inv {nodes : Nat} {es : List E} (ok : Ok nodes es) {fl : List Int} {source sink n : Int} {st : St} (hI : Inv nodes es fl source st) (hn0 : 0 ≤ n) (hn1 : n < nodes)
    (hn : sees st.seen n = true) {i : Nat} {s : Step} (hs : offer es fl n i = some s) :
    Inv nodes es fl source (meet sink st s).1 ∧ (∀ v : Int, 0 ≤ v → sees st.seen v = true → sees (meet sink st s).1.seen v = true) ∧ sees (meet sink st s).1.seen s.to = true ∧
    ((meet sink st s).2 = true → s.to = sink) ∧
    (meet sink st s).1.seen.count false + (meet sink st s).1.q.length = st.seen.count false + st.q.length ∧
    (∀ v : Int, 0 ≤ v → sees (meet sink st s).1.seen v = true → sees st.seen v = true ∨ v ∈ (meet sink st s).1.q) ∧ (∀ v ∈ st.q, v ∈ (meet sink st s).1.q) ∧
    ((meet sink st s).2 = false → sees st.seen sink = false → 0 ≤ sink → sees (meet sink st s).1.seen sink = false) := by
  obtain ⟨r0, r1⟩ := offer_range ok hs
  have hso := offer_some hs
  unfold meet
  by_cases c : sees st.seen s.to = true
  · simp only [c, if_true]
    exact ⟨hI, fun v _ h => h, trivial, (fun h => by cases h), trivial, fun v _ h => .inl h, fun v h => h, fun _ h _ => h⟩
  · simp only [c, if_false, Bool.false_eq_true]
    have hlen := hI.len
    have hset : ∀ v, 0 ≤ v → sees (st.seen.set s.to.toNat true) v = if v = s.to then true else sees st.seen v := fun v hv => sees_set r0 (by omega) v hv
    have hmono : ∀ v, 0 ≤ v → sees st.seen v = true → sees (st.seen.set s.to.toNat true) v = true := fun v hv h => by rw [hset v hv]; split <;> simp [h]
    have hnotsrc : s.to ≠ source := fun e => c (by rw [e]; exact hI.src)
    have hsrc0 : ∀ v, sees st.seen v = true → v ≠ s.to := fun v h e => c (by rw [← e]; exact h)
    have hnew : ∀ (j : Nat) (v : Int) (t : Step), (st.by_ ++ [(s.to, s)])[j]? = some (v, t) → (j < st.by_.length ∧ st.by_[j]? = some (v, t)) ∨ (j = st.by_.length ∧ v = s.to ∧ t = s) := by
      intro j v t h
      rw [List.getElem?_append] at h
      by_cases hj : j < st.by_.length
      · rw [if_pos hj] at h; exact .inl ⟨hj, h⟩
      · rw [if_neg hj] at h
        by_cases hj' : j = st.by_.length
        · subst hj'; simp at h; exact .inr ⟨rfl, h.1.symm, h.2.symm⟩
        · rw [List.getElem?_eq_none (by simp; omega)] at h; cases h
    have hold : ∀ (j : Nat) (p : Int × Step), st.by_[j]? = some p → (st.by_ ++ [(s.to, s)])[j]? = some p := by
      intro j p h
      have hj : j < st.by_.length := by rcases Nat.lt_or_ge j st.by_.length with h' | h'; exact h'; rw [List.getElem?_eq_none h'] at h; cases h
      rw [List.getElem?_append, if_pos hj]; exact h
    have hlt : ∀ (j : Nat) (p : Int × Step), st.by_[j]? = some p → j < st.by_.length := by
      intro j p h
      rcases Nat.lt_or_ge j st.by_.length with h' | h'; exact h'; rw [List.getElem?_eq_none h'] at h; cases h
    have rng : ∀ u i t, offer es fl u i = some t → 0 ≤ t.to := fun u i t h => (offer_range ok h).1
    refine ⟨⟨hI.src0, by simp [hlen], ?_, ?_, ?_, ?_, ?_⟩, hmono, ?_, fun h => by simpa using h, ?_, ?_, ?_, ?_⟩
    · exact hmono _ hI.src0 hI.src
    · intro j v t h
      rcases hnew j v t h with ⟨hj, h⟩ | ⟨hj, rfl, rfl⟩
      · obtain ⟨a, b, d, e, f⟩ := hI.step j v t h
        refine ⟨a, b, hmono v (by rw [← a]; exact rng _ _ _ e) d, e, ?_⟩
        rcases f with f | ⟨j', s', hj', f⟩
        · exact .inl f
        · exact .inr ⟨j', s', hj', hold _ _ f⟩
      · refine ⟨rfl, hnotsrc, by rw [hset _ r0, if_pos rfl], ?_, ?_⟩
        · rw [hso.2.2.1, hso.2.1]; exact hs
        · rw [hso.2.2.1]
          rcases hI.all n hn0 hn1 hn with e | ⟨j', s', e⟩
          · exact .inl e
          · exact .inr ⟨j', s', by rw [hj]; exact hlt _ _ e, hold _ _ e⟩
    · intro j j' v t t' h h'
      rcases hnew j v t h with ⟨hj, h⟩ | ⟨hj, e1, e2⟩
      · rcases hnew j' v t' h' with ⟨hj', h'⟩ | ⟨hj', e1', e2'⟩
        · exact hI.one j j' v t t' h h'
        · exact absurd e1' (hsrc0 v (hI.step j v t h).2.2.1)
      · rcases hnew j' v t' h' with ⟨hj', h'⟩ | ⟨hj', e1', e2'⟩
        · exact absurd e1 (hsrc0 v (hI.step j' v t' h').2.2.1)
        · omega
    · intro v h0 h1 hv
      rw [hset v h0] at hv
      by_cases e : v = s.to
      · subst e
        exact .inr ⟨st.by_.length, s, by rw [List.getElem?_append, if_neg (by omega)]; simp⟩
      · rw [if_neg e] at hv
        rcases hI.all v h0 h1 hv with h | ⟨j, t, h⟩
        · exact .inl h
        · exact .inr ⟨j, t, hold _ _ h⟩
    · intro v hv
      rcases List.mem_append.1 hv with h | h
      · obtain ⟨a, b, d⟩ := hI.inq v h
        exact ⟨a, b, hmono v a d⟩
      · simp at h; subst h
        exact ⟨r0, r1, by rw [hset _ r0, if_pos rfl]⟩
    · rw [hset _ r0, if_pos rfl]
    · have h2 := count_set st.seen s.to.toNat (by omega) (by unfold sees at c; simpa using c)
      simp; omega
    · intro v h0 hv
      rw [hset v h0] at hv
      by_cases e : v = s.to
      · right; simp [e]
      · rw [if_neg e] at hv; exact .inl hv
    · intro v h; simp [h]
    · intro hf hs0 h0
      rw [hset _ h0]
      have : ¬ s.to = sink := by simpa using hf
      rw [if_neg (fun e => this e.symm)]; exact hs0

theorem scan_inv {nodes : Nat} {es : List E} (ok : Ok nodes es) {fl : List Int} {source sink n : Int} (hn0 : 0 ≤ n) (hn1 : n < nodes) (hk : 0 ≤ sink) :
    ∀ (d i : Nat) (st : St), i + d = es.length → Inv nodes es fl source st → sees st.seen n = true → sees st.seen sink = false →
    (∀ (j : Nat) (s : Step), j < i → offer es fl n j = some s → sees st.seen s.to = true) →
    (∀ v : Int, 0 ≤ v → v < nodes → sees st.seen v = true → v = n ∨ v ∈ st.q ∨ Closed es fl st.seen v) →
    let r := scan es fl n sink d i st
    Inv nodes es fl source r.1 ∧ r.1.seen.count false + r.1.q.length = st.seen.count false + st.q.length ∧
    (r.2 = true → sees r.1.seen sink = true) ∧
    (r.2 = false → sees r.1.seen sink = false ∧ ∀ v : Int, 0 ≤ v → v < nodes → sees r.1.seen v = true → v ∈ r.1.q ∨ Closed es fl r.1.seen v) := by
  intro d
  induction d with
  | zero =>
    intro i st hid hI hn hsk hpart hcl
    simp only [scan]
    refine ⟨hI, trivial, (fun h => by cases h), fun _ => ⟨hsk, fun v h0 h1 hv => ?_⟩⟩
    rcases hcl v h0 h1 hv with h | h | h
    · right
      subst h
      intro j s hj
      exact hpart j s (by have := (offer_some hj).1; omega) hj
    · exact .inl h
    · exact .inr h
  | succ d ih =>
    intro i st hid hI hn hsk hpart hcl
    simp only [scan]
    cases ho : offer es fl n i with
    | none =>
      simp only
      refine ih (i + 1) st (by omega) hI hn hsk ?_ hcl
      intro j s hj h
      by_cases e : j = i
      · subst e; rw [ho] at h; cases h
      · exact hpart j s (by omega) h
    | some s =>
      simp only
      obtain ⟨m1, m2, m3, m4, m5, m6, m7, m8⟩ := meet_inv (sink := sink) ok hI hn0 hn1 hn ho
      by_cases hf : (meet sink st s).2 = true
      · rw [if_pos hf]
        refine ⟨m1, m5, fun _ => ?_, fun h => by cases h⟩
        rw [m4 hf] at m3; exact m3
      · rw [if_neg hf]
        have hcl' : ∀ v, Closed es fl st.seen v → Closed es fl (meet sink st s).1.seen v := fun v h i t ht => m2 _ (offer_range ok ht).1 (h i t ht)
        have h := ih (i + 1) (meet sink st s).1 (by omega) m1 (m2 n hn0 hn) (m8 (by simpa using hf) hsk hk) ?_ ?_
        · rw [m5] at h; exact h
        · intro j t hj h
          by_cases e : j = i
          · subst e; rw [ho] at h; cases h; exact m3
          · exact m2 _ (offer_range ok h).1 (hpart j t (by omega) h)
        · intro v h0 h1 hv
          rcases m6 v h0 hv with h | h
          · rcases hcl v h0 h1 h with h | h | h
            · exact .inl h
            · exact .inr (.inl (m7 v h))
            · exact .inr (.inr (hcl' v h))
          · exact .inr (.inl h)

theorem bfs_inv {nodes : Nat} {es : List E} (ok : Ok nodes es) {fl : List Int} {source sink : Int} (hk : 0 ≤ sink) :
    ∀ (k : Nat) (st : St), st.seen.count false + st.q.length < k → Inv nodes es fl source st → sees st.seen sink = false →
    (∀ v : Int, 0 ≤ v → v < nodes → sees st.seen v = true → v ∈ st.q ∨ Closed es fl st.seen v) →
    ∃ st', bfs es fl sink k st = some st' ∧ Inv nodes es fl source st' ∧
      (sees st'.seen sink = false → ∀ v : Int, 0 ≤ v → v < nodes → sees st'.seen v = true → Closed es fl st'.seen v) := by
  intro k
  induction k with
  | zero => intro st h; omega
  | succ k ih =>
    intro st hc hI hsk hcl
    simp only [bfs]
    cases hq : st.q with
    | nil =>
      refine ⟨st, rfl, hI, fun _ v h0 h1 hv => ?_⟩
      rcases hcl v h0 h1 hv with h | h
      · rw [hq] at h; cases h
      · exact h
    | cons n q =>
      simp only
      have hnq := hI.inq n (by rw [hq]; simp)
      have hI' : Inv nodes es fl source { st with q := q } := ⟨hI.src0, hI.len, hI.src, hI.step, hI.one, hI.all, fun v hv => hI.inq v (by rw [hq]; simp [hv])⟩
      have h := scan_inv ok (sink := sink) hnq.1 hnq.2.1 hk es.length 0 { st with q := q } (by omega) hI' hnq.2.2 hsk (fun j s hj => by omega) (fun v h0 h1 hv => by
        rcases hcl v h0 h1 hv with h | h
        · rw [hq] at h; rcases List.mem_cons.1 h with h | h
          · exact .inl h
          · exact .inr (.inl h)
        · exact .inr (.inr h))
      obtain ⟨a, b, c, d⟩ := h
      by_cases hf : (scan es fl n sink es.length 0 { st with q := q }).2 = true
      · rw [if_pos hf]
        refine ⟨_, rfl, a, fun hs => ?_⟩
        rw [c hf] at hs; cases hs
      · rw [if_neg hf]
        obtain ⟨d1, d2⟩ := d (by simpa using hf)
        refine ih _ ?_ a d1 d2
        rw [b]; rw [hq] at hc; simp at hc ⊢; omega

end Go.Proofs.Ytfjbbmgnfpeogaa.FlowM
