import Derived.Test.YtfjbbmgnfpeogaaThFlowPush
/-! What holds in one round of Most. -/
namespace Go.Proofs.Ytfjbbmgnfpeogaa.FlowM
open Go.Proofs.Ytfjbbmgnfpeogaa.FlowTheory

theorem find_mem {l : List (Int × Step)} {v : Int} {s : Step} (h : find l v = some s) : ∃ j : Nat, l[j]? = some (v, s) := by
  unfold find at h
  cases hf : l.find? (fun p => p.1 == v) with
  | none => rw [hf] at h; cases h
  | some p =>
    rw [hf] at h
    obtain ⟨u, t⟩ := p
    have hu : u = v := by simpa using List.find?_some hf
    subst hu
    cases h
    exact List.getElem?_of_mem (List.mem_of_find?_eq_some hf)

theorem sumN_const_le {n : Nat} {f : Nat → Int} (c : Int) (h : ∀ i, i < n → f i ≤ c) : sumN n f ≤ n * c := by
  induction n with
  | zero => simp [sumN]
  | succ n ih =>
    have h1 := ih (fun i hi => h i (by omega))
    have h2 := h n (by omega)
    simp only [sumN]
    have : ((n + 1 : Nat) : Int) * c = n * c + c := by
      rw [show ((n + 1 : Nat) : Int) = (n : Int) + 1 by omega, Int.add_mul, Int.one_mul]
    omega

theorem capSum_le {nodes : Nat} {es : List E} (ok : Ok nodes es) (h : es.length ≤ 512) : capSum es ≤ 512000000 := by
  have h1 := sumN_const_le (n := es.length) (f := capF es) 1000000 (fun i hi => (ok.cap i hi).2)
  unfold capSum
  omega

structure Round (nodes : Nat) (es : List E) (source sink : Int) (fl : List Int) (st : St) : Prop where
  seen : st.seen.length = nodes
  go : sees st.seen sink = true → ∃ p, way es st.by_ source (nodes + 1) sink = some p ∧ 0 < roomOf p ∧ (∀ n s, find st.by_ n = some s → s.edge < es.length) ∧
    (∀ q s r, p = q ++ s :: r → s.edge < es.length ∧ 0 ≤ (q.foldl (bump (roomOf p)) fl).getD s.edge 0 ∧ (q.foldl (bump (roomOf p)) fl).getD s.edge 0 ≤ 1000000) ∧
    (p.foldl (bump (roomOf p)) fl).length = es.length ∧
    IsFlow es.length nodes (frF es) (toF es) (capF es) source sink (flF (p.foldl (bump (roomOf p)) fl)) ∧
    net es.length (frF es) (toF es) (flF (p.foldl (bump (roomOf p)) fl)) source = net es.length (frF es) (toF es) (flF fl) source + roomOf p

theorem round_ok {nodes : Nat} {es : List E} (ok : Ok nodes es) {source sink : Int} (s0 : 0 ≤ source) (s1 : source < nodes) (t0 : 0 ≤ sink) (t1 : sink < nodes) (hst : source ≠ sink)
    (fl : List Int) (hl : fl.length = es.length) (hf : IsFlow es.length nodes (frF es) (toF es) (capF es) source sink (flF fl)) :
    ∃ st, bfs es fl sink (nodes + 1) (start nodes source) = some st ∧ Round nodes es source sink fl st := by
  obtain ⟨st, e, hI, hc⟩ := search_ok ok (fl := fl) s0 s1 t0 hst
  refine ⟨st, e, hI.len, fun c => ?_⟩
  rcases hI.all sink t0 t1 c with h | ⟨j, s, h⟩
  · exact absurd h.symm hst
  · have hj : j < st.by_.length := by rcases Nat.lt_or_ge j st.by_.length with h' | h'; exact h'; rw [List.getElem?_eq_none h'] at h; cases h
    have hn := count_keys ok hI s1
    obtain ⟨p, hw, hp, hd, _⟩ := way_ok hI (nodes + 1) j sink s h (by omega)
    obtain ⟨g1, g2, g3⟩ := push_ok hl hp hd hst hf
    have hoff := path_offers hp
    refine ⟨p, hw, g2, fun n t ht => ?_, fun q t r hq => ?_, by rw [push_length]; exact hl, g1, g3⟩
    · obtain ⟨i, hi⟩ := find_mem ht
      exact (offer_some (hI.step i n t hi).2.2.2.1).1
    · have ht : t ∈ p := by rw [hq]; simp
      have hte := (offer_some (hoff t ht)).1
      have hmiss : ∀ u ∈ q, u.edge ≠ t.edge := by
        rw [hq, List.pairwise_append] at hd
        exact fun u hu => hd.2.2 u hu t (by simp)
      have hql : ∀ u ∈ q, u.edge < fl.length := fun u hu => by rw [hl]; exact (offer_some (hoff u (by rw [hq]; simp [hu]))).1
      have := push_miss (roomOf p) t.edge q fl hql hmiss
      unfold flF at this
      rw [this]
      have a := hf.lo _ hte
      have b := hf.hi _ hte
      have c := (ok.cap _ hte).2
      unfold flF at a b
      exact ⟨hte, a, by omega⟩
end Go.Proofs.Ytfjbbmgnfpeogaa.FlowM
