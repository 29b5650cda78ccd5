import Derived.Test.YtfjbbmgnfpeogaaThFlowSearch
/-! The way, the push, and the whole: plain proofs about FlowM. -/
namespace Go.Proofs.Ytfjbbmgnfpeogaa.FlowM
open Go.Proofs.Ytfjbbmgnfpeogaa.FlowTheory

theorem sumN_update {m a : Nat} (ha : a < m) {g g' : Nat → Int} (h : ∀ i, i < m → i ≠ a → g' i = g i) : sumN m g' = sumN m g + (g' a - g a) := by
  have h1 : sumN m g' = sumN m (fun i => g i + (if i = a then g' a - g a else 0)) := by
    refine sumN_congr fun i hi => ?_
    by_cases e : i = a
    · subst e; rw [if_pos rfl]; omega
    · rw [if_neg e, h i hi e]; omega
  rw [h1, sumN_add, sumN_single ha]

inductive Path (es : List E) (fl : List Int) (source : Int) : List Step → Int → Prop
  | nil : Path es fl source [] source
  | cons {s : Step} {p : List Step} : offer es fl (other es s) s.edge = some s → Path es fl source p (other es s) → Path es fl source (s :: p) s.to

theorem roomOf_le : ∀ (p : List Step) (r : Int), (p.foldl (fun r s => min r s.room) r) ≤ r ∧ ∀ s ∈ p, (p.foldl (fun r s => min r s.room) r) ≤ s.room
  | [], r => ⟨Int.le_refl _, fun _ h => by cases h⟩
  | t :: p, r => by
    obtain ⟨h1, h2⟩ := roomOf_le p (min r t.room)
    simp only [List.foldl_cons]
    refine ⟨by omega, fun s hs => ?_⟩
    rcases List.mem_cons.1 hs with rfl | hs
    · omega
    · exact h2 s hs

theorem roomOf_pos : ∀ (p : List Step) (r : Int), 0 < r → (∀ s ∈ p, 0 < s.room) → 0 < (p.foldl (fun r s => min r s.room) r)
  | [], _, h, _ => h
  | t :: p, r, h, hp => by
    simp only [List.foldl_cons]
    exact roomOf_pos p _ (by have := hp t (by simp); omega) (fun s hs => hp s (by simp [hs]))

theorem flF_bump (r : Int) (fl : List Int) (s : Step) (hs : s.edge < fl.length) (i : Nat) :
    flF (bump r fl s) i = if i = s.edge then (if s.back = true then flF fl i - r else flF fl i + r) else flF fl i := by
  unfold bump flF
  by_cases e : i = s.edge
  · subst e; rw [if_pos rfl]; simp [List.getD_eq_getElem?_getD, hs]
  · rw [if_neg e]
    have : s.edge ≠ i := fun x => e x.symm
    simp [List.getD_eq_getElem?_getD, this]

theorem bump_length (r : Int) (fl : List Int) (s : Step) : (bump r fl s).length = fl.length := by simp [bump]

theorem push_length (r : Int) : ∀ (p : List Step) (fl : List Int), (p.foldl (bump r) fl).length = fl.length
  | [], _ => rfl
  | s :: p, fl => by simp only [List.foldl_cons]; rw [push_length r p, bump_length]

theorem net_bump {es : List E} {fl0 fl : List Int} {u : Int} {i : Nat} {s : Step} (h : offer es fl0 u i = some s) (hl : fl.length = es.length) (r v : Int) :
    net es.length (frF es) (toF es) (flF (bump r fl s)) v = net es.length (frF es) (toF es) (flF fl) v + (if v = u then r else 0) - (if v = s.to then r else 0) := by
  obtain ⟨hi, he, ho, hne, _, hc⟩ := offer_some h
  subst he
  unfold net
  rw [sumN_update (g := fun i => (if frF es i = v then flF fl i else 0) - (if toF es i = v then flF fl i else 0)) hi]
  · have hb := flF_bump r fl s (by omega) s.edge
    rw [if_pos rfl] at hb
    rw [hb]
    rcases hc with ⟨b, e1, e2, _⟩ | ⟨b, e1, e2, _⟩
    · rw [b, e1, e2]
      by_cases c1 : u = v <;> by_cases c2 : s.to = v
      · exact absurd (c1.trans c2.symm) hne
      · have c3 : ¬ v = s.to := fun x => c2 x.symm
        simp [c1, c2, c3]; omega
      · have c3 : ¬ v = u := fun x => c1 x.symm
        simp [c1, c2, c3]; omega
      · have c3 : ¬ v = u := fun x => c1 x.symm
        have c4 : ¬ v = s.to := fun x => c2 x.symm
        simp [c1, c2, c3, c4]
    · rw [b, e1, e2]
      by_cases c1 : u = v <;> by_cases c2 : s.to = v
      · exact absurd (c1.trans c2.symm) hne
      · have c3 : ¬ v = s.to := fun x => c2 x.symm
        simp [c1, c2, c3]; omega
      · have c3 : ¬ v = u := fun x => c1 x.symm
        simp [c1, c2, c3]; omega
      · have c3 : ¬ v = u := fun x => c1 x.symm
        have c4 : ¬ v = s.to := fun x => c2 x.symm
        simp [c1, c2, c3, c4]
  · intro j _ hj
    rw [flF_bump r fl s (by omega), if_neg hj]

theorem net_push {es : List E} {fl0 : List Int} {source : Int} (r v : Int) {p : List Step} {n : Int} (hp : Path es fl0 source p n) :
    ∀ (fl : List Int), fl.length = es.length →
    net es.length (frF es) (toF es) (flF (p.foldl (bump r) fl)) v = net es.length (frF es) (toF es) (flF fl) v + (if v = source then r else 0) - (if v = n then r else 0) := by
  induction hp with
  | nil => intro fl _; simp only [List.foldl_nil]; omega
  | cons ho _ ih =>
    intro fl hl
    simp only [List.foldl_cons]
    rw [ih _ (by rw [bump_length]; exact hl), net_bump ho hl]
    omega

theorem push_miss (r : Int) (i : Nat) : ∀ (p : List Step) (fl : List Int), (∀ s ∈ p, s.edge < fl.length) → (∀ s ∈ p, s.edge ≠ i) → flF (p.foldl (bump r) fl) i = flF fl i
  | [], _, _, _ => rfl
  | s :: p, fl, h, hm => by
    simp only [List.foldl_cons]
    rw [push_miss r i p _ (fun t ht => by rw [bump_length]; exact h t (by simp [ht])) (fun t ht => hm t (by simp [ht])), flF_bump r fl s (h s (by simp)), if_neg (fun e => hm s (by simp) e.symm)]

theorem push_hit (r : Int) (s : Step) : ∀ (p : List Step) (fl : List Int), (∀ s ∈ p, s.edge < fl.length) → p.Pairwise (fun s t => s.edge ≠ t.edge) → s ∈ p →
    flF (p.foldl (bump r) fl) s.edge = if s.back = true then flF fl s.edge - r else flF fl s.edge + r
  | [], _, _, _, hs => by cases hs
  | t :: p, fl, h, hn, hs => by
    simp only [List.foldl_cons]
    have hlen : ∀ x ∈ p, x.edge < (bump r fl t).length := fun x hx => by rw [bump_length]; exact h x (by simp [hx])
    rcases List.mem_cons.1 hs with rfl | hs
    · rw [push_miss r _ p _ hlen (fun x hx => fun e => (List.pairwise_cons.1 hn).1 x hx e.symm), flF_bump r fl s (h s (by simp)), if_pos rfl]
    · have hx := flF_bump r fl t (h t (by simp)) s.edge
      rw [if_neg (fun e => (List.pairwise_cons.1 hn).1 s hs e.symm)] at hx
      rw [push_hit r s p _ hlen (List.pairwise_cons.1 hn).2 hs, hx]

theorem path_offers {es : List E} {fl : List Int} {source : Int} {p : List Step} {n : Int} (hp : Path es fl source p n) : ∀ s ∈ p, offer es fl (other es s) s.edge = some s := by
  induction hp with
  | nil => intro s h; cases h
  | cons ho _ ih => intro s h; rcases List.mem_cons.1 h with rfl | h; exact ho; exact ih s h

/-- A push keeps a flow, and makes it greater. -/
theorem push_ok {nodes : Nat} {es : List E} {fl : List Int} {source sink : Int} {p : List Step} (hl : fl.length = es.length) (hp : Path es fl source p sink)
    (hd : p.Pairwise (fun s t => s.edge ≠ t.edge)) (hst : source ≠ sink) (hf : IsFlow es.length nodes (frF es) (toF es) (capF es) source sink (flF fl)) :
    IsFlow es.length nodes (frF es) (toF es) (capF es) source sink (flF (p.foldl (bump (roomOf p)) fl)) ∧ 0 < roomOf p ∧
    net es.length (frF es) (toF es) (flF (p.foldl (bump (roomOf p)) fl)) source = net es.length (frF es) (toF es) (flF fl) source + roomOf p := by
  have hoff := path_offers hp
  have hedge : ∀ s ∈ p, s.edge < fl.length := fun s hs => by rw [hl]; exact (offer_some (hoff s hs)).1
  have hr0 : 0 < roomOf p := roomOf_pos p _ (by omega) (fun s hs => (offer_some (hoff s hs)).2.2.2.2.1)
  have hrle : ∀ s ∈ p, roomOf p ≤ s.room := (roomOf_le p 1000000).2
  have hb : ∀ i, i < es.length → 0 ≤ flF (p.foldl (bump (roomOf p)) fl) i ∧ flF (p.foldl (bump (roomOf p)) fl) i ≤ capF es i := by
    intro i hi
    have h0 := hf.lo i hi
    have h1 := hf.hi i hi
    by_cases c : ∃ s ∈ p, s.edge = i
    · obtain ⟨s, hs, rfl⟩ := c
      rw [push_hit _ s p fl hedge hd hs]
      have hle := hrle s hs
      obtain ⟨_, _, _, _, _, ⟨b, _, _, e⟩ | ⟨b, _, _, e⟩⟩ := offer_some (hoff s hs)
      · rw [if_neg (by rw [b]; decide)]; omega
      · rw [if_pos b]; omega
    · rw [push_miss _ i p fl hedge (fun s hs e => c ⟨s, hs, e⟩)]; exact ⟨h0, h1⟩
  refine ⟨⟨fun i hi => (hb i hi).1, fun i hi => (hb i hi).2, fun v v0 v1 vs vt => ?_⟩, hr0, ?_⟩
  · rw [net_push _ v hp fl hl, if_neg vs, if_neg vt, hf.keep v v0 v1 vs vt]; rfl
  · rw [net_push _ source hp fl hl, if_pos rfl, if_neg hst]; omega

/-! ### The way -/

theorem find_some {l : List (Int × Step)} (one : ∀ (j j' : Nat) (v : Int) (s s' : Step), l[j]? = some (v, s) → l[j']? = some (v, s') → j = j') {j : Nat} {v : Int} {s : Step}
    (h : l[j]? = some (v, s)) : find l v = some s := by
  unfold find
  have hm : (v, s) ∈ l := List.mem_of_getElem? h
  cases hf : l.find? (fun p => p.1 == v) with
  | none => exact absurd (List.find?_eq_none.1 hf (v, s) hm) (by simp)
  | some p =>
    obtain ⟨u, t⟩ := p
    have hu : u = v := by simpa using List.find?_some hf
    subst hu
    obtain ⟨j', hj'⟩ := List.getElem?_of_mem (List.mem_of_find?_eq_some hf)
    have := one j j' u s t h hj'
    subst this
    rw [h] at hj'; cases hj'; rfl

theorem way_ok {nodes : Nat} {es : List E} {fl : List Int} {source : Int} {st : St} (hI : Inv nodes es fl source st) :
    ∀ (k j : Nat) (n : Int) (s : Step), st.by_[j]? = some (n, s) → j + 1 < k →
    ∃ p, way es st.by_ source k n = some p ∧ Path es fl source p n ∧ p.Pairwise (fun s t => s.edge ≠ t.edge) ∧ ∀ t ∈ p, ∃ j', j' ≤ j ∧ st.by_[j']? = some (t.to, t) := by
  intro k
  induction k with
  | zero => intro j n s _ h; omega
  | succ k ih =>
    intro j n s hs hj
    obtain ⟨h1, h2, h3, h4, h5⟩ := hI.step j n s hs
    have hfind := find_some hI.one hs
    subst h1
    simp only [way]
    rw [if_neg h2, hfind]
    simp only
    rcases h5 with h5 | ⟨j', s', hj', h5⟩
    · obtain ⟨k, rfl⟩ : ∃ m, k = m + 1 := ⟨k - 1, by omega⟩
      refine ⟨[s], by rw [h5]; simp [way], ?_, by simp, fun t ht => ?_⟩
      · refine .cons h4 ?_
        rw [h5]; exact .nil
      · simp at ht; subst ht; exact ⟨j, Nat.le_refl _, hs⟩
    · obtain ⟨p, e, hp, hd, hm⟩ := ih j' _ s' h5 (by omega)
      refine ⟨s :: p, by rw [e]; rfl, .cons h4 hp, List.pairwise_cons.2 ⟨fun t ht he => ?_, hd⟩, fun t ht => ?_⟩
      · obtain ⟨jt, hjt, ht'⟩ := hm t ht
        obtain ⟨_, _, _, t4, t5⟩ := hI.step jt t.to t ht'
        have hne : s.to ≠ t.to := fun e' => by
          rw [← e'] at ht'
          have := hI.one j jt s.to s t hs ht'
          omega
        obtain ⟨_, _, so, _, _, sc⟩ := offer_some h4
        obtain ⟨_, _, to, _, _, tc⟩ := offer_some t4
        rw [← he] at tc
        rcases sc with ⟨_, s1, s2, _⟩ | ⟨_, s1, s2, _⟩ <;> rcases tc with ⟨_, t1, t2, _⟩ | ⟨_, t1, t2, _⟩
        · exact hne (s2.symm.trans t2)
        · -- s goes forward over the edge, t backward: t leads from where s leads to
          have hto : other es t = s.to := t1.symm.trans s2
          rcases t5 with t5 | ⟨jo, so', hjo, t5⟩
          · exact h2 (hto.symm.trans t5)
          · rw [hto] at t5
            have := hI.one j jo s.to s so' hs t5
            omega
        · have hto : other es t = s.to := t1.symm.trans s2
          rcases t5 with t5 | ⟨jo, so', hjo, t5⟩
          · exact h2 (hto.symm.trans t5)
          · rw [hto] at t5
            have := hI.one j jo s.to s so' hs t5
            omega
        · exact hne (s2.symm.trans t2)
      · rcases List.mem_cons.1 ht with rfl | ht
        · exact ⟨j, Nat.le_refl _, hs⟩
        · obtain ⟨jt, hjt, ht'⟩ := hm t ht
          exact ⟨jt, by omega, ht'⟩

theorem count_keys {nodes : Nat} {es : List E} (ok : Ok nodes es) {fl : List Int} {source : Int} {st : St} (hI : Inv nodes es fl source st) (hs : source < nodes) : st.by_.length < nodes := by
  -- the keys are pairwise different nodes, none of them the source
  have hb : ∀ (j : Nat) (v : Int) (s : Step), st.by_[j]? = some (v, s) → 0 ≤ v ∧ v < nodes ∧ v ≠ source := fun j v s h => by
    obtain ⟨a, b, _, d, _⟩ := hI.step j v s h
    have := offer_range ok d
    rw [a] at this
    exact ⟨this.1, this.2, b⟩
  have key : ∀ (n : Nat) (l : List Int), (∀ v ∈ l, 0 ≤ v ∧ v < (n : Int)) → l.Nodup → l.length ≤ n := by
    intro n
    induction n with
    | zero => intro l h _; cases l with | nil => simp | cons a l => have := h a (by simp); omega
    | succ n ih =>
      intro l h hn
      have h1 := ih (l.filter (fun v => v ≠ (n : Int))) (fun v hv => by
        simp only [List.mem_filter, decide_eq_true_eq, ne_eq] at hv
        have := h v hv.1
        omega) (hn.filter _)
      have h2 : l.length ≤ (l.filter (fun v => v ≠ (n : Int))).length + 1 := by
        have hc : l.count (n : Int) ≤ 1 := List.nodup_iff_count.1 hn _
        have h3 := List.length_eq_countP_add_countP (fun v => decide (v ≠ (n : Int))) (l := l)
        rw [← List.countP_eq_length_filter]
        have h4 : l.countP (fun a => ¬ (decide (a ≠ (n : Int))) = true) = l.count (n : Int) := by
          rw [List.count]
          congr 1
          funext a
          by_cases e : a = (n : Int) <;> simp [e]
        omega
      omega
  have hlist : (source :: st.by_.map (·.1)).length ≤ nodes := by
    refine key nodes _ (fun v hv => ?_) ?_
    · rcases List.mem_cons.1 hv with rfl | hv
      · exact ⟨hI.src0, hs⟩
      · obtain ⟨p, hp, rfl⟩ := List.mem_map.1 hv
        obtain ⟨j, hj⟩ := List.getElem?_of_mem hp
        obtain ⟨v, s⟩ := p
        have := hb j v s hj
        exact ⟨this.1, this.2.1⟩
    · refine List.nodup_cons.2 ⟨fun hv => ?_, ?_⟩
      · obtain ⟨p, hp, e⟩ := List.mem_map.1 hv
        obtain ⟨j, hj⟩ := List.getElem?_of_mem hp
        obtain ⟨v, s⟩ := p
        exact (hb j v s hj).2.2 e
      · rw [List.Nodup, List.pairwise_iff_getElem]
        intro i j hi hj hij e
        simp only [List.length_map] at hi hj
        simp only [List.getElem_map] at e
        have h1 : st.by_[i]? = some ((st.by_[i]).1, (st.by_[i]).2) := List.getElem?_eq_getElem hi
        have h2 : st.by_[j]? = some ((st.by_[i]).1, (st.by_[j]).2) := by rw [e]; exact List.getElem?_eq_getElem hj
        have := hI.one i j _ _ _ h1 h2
        omega
  simp at hlist
  omega

/-! ### The whole -/

theorem start_inv {nodes : Nat} {es : List E} {fl : List Int} {source : Int} (s0 : 0 ≤ source) (s1 : source < nodes) : Inv nodes es fl source (start nodes source) := by
  have hs : ∀ v : Int, 0 ≤ v → sees (start nodes source).seen v = if v = source then true else sees (List.replicate nodes false) v := fun v hv => sees_set s0 (by simpa using s1) v hv
  have hr : ∀ v : Int, sees (List.replicate nodes false) v = false := fun v => by
    unfold sees
    rw [List.getD_eq_getElem?_getD, List.getElem?_replicate]
    split <;> rfl
  refine ⟨s0, by simp [start], by rw [hs _ s0, if_pos rfl], ?_, ?_, ?_, ?_⟩
  · intro j v s h; simp [start] at h
  · intro j j' v s s' h; simp [start] at h
  · intro v h0 _ hv
    rw [hs v h0, hr] at hv
    by_cases e : v = source
    · exact .inl e
    · rw [if_neg e] at hv; cases hv
  · intro v hv
    simp [start] at hv
    subst hv
    exact ⟨s0, s1, by rw [hs _ s0, if_pos rfl]⟩

theorem search_ok {nodes : Nat} {es : List E} (ok : Ok nodes es) {fl : List Int} {source sink : Int} (s0 : 0 ≤ source) (s1 : source < nodes) (t0 : 0 ≤ sink) (hst : source ≠ sink) :
    ∃ st, bfs es fl sink (nodes + 1) (start nodes source) = some st ∧ Inv nodes es fl source st ∧
      (sees st.seen sink = false → ∀ v : Int, 0 ≤ v → v < nodes → sees st.seen v = true → Closed es fl st.seen v) := by
  have hI := start_inv (es := es) (fl := fl) s0 s1
  have hr : ∀ v : Int, sees (List.replicate nodes false) v = false := fun v => by
    unfold sees
    rw [List.getD_eq_getElem?_getD, List.getElem?_replicate]
    split <;> rfl
  refine bfs_inv ok t0 (nodes + 1) _ ?_ hI ?_ ?_
  · have := count_set (List.replicate nodes false) source.toNat (by simp; omega) (hr source)
    simp [start] at this ⊢
    omega
  · have := sees_set (l := List.replicate nodes false) s0 (by simpa using s1) sink t0
    show sees (List.set _ _ _) sink = false
    rw [this, if_neg (fun e => hst e.symm), hr]
  · intro v h0 _ hv
    have := sees_set (l := List.replicate nodes false) s0 (by simpa using s1) v h0
    rw [show sees (start nodes source).seen v = _ from this, hr] at hv
    by_cases e : v = source
    · left; simp [start, e]
    · rw [if_neg e] at hv; cases hv

/-- Seen nodes whose offers are all seen: the cut is full. -/
theorem closed_full {nodes : Nat} {es : List E} (ok : Ok nodes es) {fl : List Int} {source sink : Int} {S : List Bool}
    (hf : IsFlow es.length nodes (frF es) (toF es) (capF es) source sink (flF fl)) (s0 : 0 ≤ source) (s1 : source < nodes)
    (hs : IsCut source sink (sees S)) (hc : ∀ v : Int, 0 ≤ v → v < nodes → sees S v = true → Closed es fl S v) :
    net es.length (frF es) (toF es) (flF fl) source = capOf es.length (frF es) (toF es) (capF es) (sees S) := by
  refine full ok.ends hf hs s0 s1 (fun i hi a b => ?_) (fun i hi a b => ?_)
  · obtain ⟨e0, e1, e2, e3⟩ := ok.ends i hi
    cases ho : offer es fl (frF es i) i with
    | none =>
      rcases offer_none hi ho with h | h
      · rw [h] at a; rw [a] at b; cases b
      · have := h.1 rfl
        have := hf.hi i hi
        omega
    | some s =>
      have h1 := hc _ e0 e1 a i s ho
      obtain ⟨_, _, _, hne, _, h | h⟩ := offer_some ho
      · rw [← h.2.2.1, b] at h1; cases h1
      · exact absurd h.2.2.1 hne
  · obtain ⟨e0, e1, e2, e3⟩ := ok.ends i hi
    cases ho : offer es fl (toF es i) i with
    | none =>
      rcases offer_none hi ho with h | h
      · rw [← h] at a; rw [a] at b; cases b
      · have := h.2 rfl (fun x => by rw [x.1] at b; rw [a] at b; cases b)
        have := hf.lo i hi
        omega
    | some s =>
      have h1 := hc _ e2 e3 a i s ho
      obtain ⟨_, _, _, hne, _, h | h⟩ := offer_some ho
      · exact absurd h.2.2.1 hne
      · rw [← h.2.2.1, b] at h1; cases h1

def capSum (es : List E) : Int := sumN es.length (capF es)

theorem amount_le {nodes : Nat} {es : List E} (ok : Ok nodes es) {f : Nat → Int} {source sink : Int} (s0 : 0 ≤ source) (s1 : source < nodes) (hst : source ≠ sink)
    (hf : IsFlow es.length nodes (frF es) (toF es) (capF es) source sink f) : net es.length (frF es) (toF es) f source ≤ capSum es := by
  have h := weak ok.ends hf (S := fun v => decide (v = source)) ⟨by simp, by simp; exact fun e => hst e.symm⟩ s0 s1
  refine Int.le_trans h (sumN_le fun i hi => ?_)
  have := (ok.cap i hi).1
  split <;> omega

/-- A result that proves itself. -/
structure Good (nodes : Nat) (es : List E) (source sink n : Int) (fl : List Int) (S : List Bool) : Prop where
  flen : fl.length = es.length
  slen : S.length = nodes
  flow : IsFlow es.length nodes (frF es) (toF es) (capF es) source sink (flF fl)
  cut : IsCut source sink (sees S)
  amount : net es.length (frF es) (toF es) (flF fl) source = n
  cap : capOf es.length (frF es) (toF es) (capF es) (sees S) = n

theorem most_ok {nodes : Nat} {es : List E} (ok : Ok nodes es) {source sink : Int} (s0 : 0 ≤ source) (s1 : source < nodes) (t0 : 0 ≤ sink) (t1 : sink < nodes) (hst : source ≠ sink) :
    ∀ (k : Nat) (fl : List Int) (a : Int), fl.length = es.length → IsFlow es.length nodes (frF es) (toF es) (capF es) source sink (flF fl) →
    net es.length (frF es) (toF es) (flF fl) source = a → capSum es - a < k → ∃ n f S, most nodes es source sink k fl a = some (n, f, S) ∧ Good nodes es source sink n f S := by
  intro k
  induction k with
  | zero =>
    intro fl a _ hf ha hk
    have := amount_le ok s0 s1 hst hf
    omega
  | succ k ih =>
    intro fl a hl hf ha hk
    obtain ⟨st, e, hI, hc⟩ := search_ok ok (fl := fl) s0 s1 t0 hst
    simp only [most]
    rw [e]
    simp only
    by_cases c : sees st.seen sink = true
    · rw [if_pos c]
      rcases hI.all sink t0 t1 c with h | ⟨j, s, h⟩
      · exact absurd h.symm hst
      · have hj : j < st.by_.length := by rcases Nat.lt_or_ge j st.by_.length with h' | h'; exact h'; rw [List.getElem?_eq_none h'] at h; cases h
        have hn := count_keys ok hI s1
        obtain ⟨p, hw, hp, hd, _⟩ := way_ok hI (nodes + 1) j sink s h (by omega)
        rw [hw]
        simp only
        obtain ⟨g1, g2, g3⟩ := push_ok hl hp hd hst hf
        refine ih _ _ (by rw [push_length]; exact hl) g1 (by rw [g3, ha]) (by omega)
    · rw [if_neg c]
      have c' : sees st.seen sink = false := by simpa using c
      refine ⟨a, fl, st.seen, rfl, hl, hI.len, hf, ⟨hI.src, c'⟩, ha, ?_⟩
      rw [← closed_full ok hf s0 s1 ⟨hI.src, c'⟩ (hc c')]; exact ha

theorem zero_flow {nodes : Nat} {es : List E} (ok : Ok nodes es) (source sink : Int) :
    IsFlow es.length nodes (frF es) (toF es) (capF es) source sink (flF (List.replicate es.length 0)) ∧ net es.length (frF es) (toF es) (flF (List.replicate es.length 0)) source = 0 := by
  have hz : ∀ i, flF (List.replicate es.length 0) i = 0 := fun i => by
    unfold flF
    rw [List.getD_eq_getElem?_getD, List.getElem?_replicate]
    split <;> rfl
  have hn : ∀ v, net es.length (frF es) (toF es) (flF (List.replicate es.length 0)) v = 0 := fun v => sumN_zero fun i _ => by simp [hz]
  exact ⟨⟨fun i _ => by rw [hz]; exact Int.le_refl _, fun i hi => by rw [hz]; exact (ok.cap i hi).1, fun v _ _ _ _ => hn v⟩, hn _⟩

def fuel (es : List E) : Nat := (capSum es).toNat + 1

theorem whole {nodes : Nat} {es : List E} (ok : Ok nodes es) {source sink : Int} (s0 : 0 ≤ source) (s1 : source < nodes) (t0 : 0 ≤ sink) (t1 : sink < nodes) (hst : source ≠ sink) :
    ∃ n f S, most nodes es source sink (fuel es) (List.replicate es.length 0) 0 = some (n, f, S) ∧ Good nodes es source sink n f S := by
  obtain ⟨z1, z2⟩ := zero_flow ok source sink
  exact most_ok ok s0 s1 t0 t1 hst _ _ 0 (by simp) z1 z2 (by unfold fuel; omega)

end Go.Proofs.Ytfjbbmgnfpeogaa.FlowM
