import Derived.Test.YtioglahnliajlaaFlowSteps
set_option linter.unusedVariables false
set_option linter.unusedSimpArgs false
/-! The memory of the search, and what one step that is met does to it. -/
namespace Go.Proofs.Ytioglahnliajlaa.Pr
open Go.RowKit Go.Proofs.YtioglahnliajlaaW.PrintWords Go.Proofs.YtioglahnliajlaaW.PrintLast Go.Proofs.YtioglahnliajlaaW.PrintMore

def metAll (sink : Int) : List FlowM.Step → FlowM.St → FlowM.St × Bool
  | [], st => (st, false)
  | s :: l, st => if (FlowM.meet sink st s).2 = true then ((FlowM.meet sink st s).1, true) else metAll sink l (FlowM.meet sink st s).1

theorem metAll_snoc {sink : Int} : ∀ (l : List FlowM.Step) (s : FlowM.Step) (st : FlowM.St), (metAll sink l st).2 = false → metAll sink (l ++ [s]) st = FlowM.meet sink (metAll sink l st).1 s
  | [], s, st, _ => by
    simp only [List.nil_append, metAll]
    by_cases c : (FlowM.meet sink st s).2 = true
    · rw [if_pos c]; exact Prod.ext rfl c.symm
    · rw [if_neg c]; exact Prod.ext rfl (by simpa using c)
  | t :: l, s, st, h => by
    simp only [List.cons_append, metAll] at h ⊢
    by_cases c : (FlowM.meet sink st t).2 = true
    · rw [if_pos c] at h; cases h
    · rw [if_neg c] at h ⊢; rw [if_neg c]
      exact metAll_snoc l s _ h

theorem metAll_prefix {sink : Int} : ∀ (l r : List FlowM.Step) (st : FlowM.St), (metAll sink l st).2 = true → metAll sink (l ++ r) st = metAll sink l st
  | [], _, _, h => by cases h
  | t :: l, r, st, h => by
    simp only [List.cons_append, metAll] at h ⊢
    by_cases c : (FlowM.meet sink st t).2 = true
    · rw [if_pos c, if_pos c]
    · rw [if_neg c] at h ⊢; rw [if_neg c]
      exact metAll_prefix l r _ h

theorem scan_metAll (es : List FlowM.E) (fl : List Int) (n sink : Int) : ∀ (d i : Nat) (st : FlowM.St), FlowM.scan es fl n sink d i st = metAll sink ((List.range' i d).filterMap (FlowM.offer es fl n)) st
  | 0, _, st => rfl
  | d + 1, i, st => by
    simp only [FlowM.scan, List.range'_succ, List.filterMap_cons]
    cases h : FlowM.offer es fl n i with
    | none => simp only; exact scan_metAll es fl n sink d (i + 1) st
    | some s => simp only [metAll]; rw [scan_metAll es fl n sink d (i + 1)]

theorem scan_offers (es : List FlowM.E) (fl : List Int) (n sink : Int) (st : FlowM.St) : FlowM.scan es fl n sink es.length 0 st = metAll sink (offersTo es fl n es.length) st := by
  rw [scan_metAll, offersTo, List.range_eq_range']

/-- The search's memory. -/
structure SMem (nodes : Nat) (W : World) (bk g1 bs gm bb bq cap1 : Nat) (ok : Nat → Prop) (sink : Int) (st : FlowM.St) : Prop where
  order : bk < g1 ∧ g1 < bs ∧ bs < gm ∧ gm < bb ∧ bb < bq
  k : W.heap[bk]? = some (.cells #[.int .i64 sink] 3 (0, 0))
  s : W.heap[bs]? = some (.cells #[.slice (some ⟨g1, 0, none⟩) nodes cap1] 54 (0, 0))
  b : W.heap[bb]? = some (.cells #[.map (some gm)] 69 (0, 0))
  len : st.seen.length = nodes
  r : Kd.R Kd.bool 4 W (bk + 1) (fun _ => True) (.slice (some ⟨g1, 0, none⟩) nodes cap1) st.seen
  m : MapIs W gm (byL st.by_)
  q : ∃ v, W.heap[bq]? = some (.cells #[v] 79 (0, 0)) ∧ Kd.Q (Kd.int .i64) 3 W (bq + 1) ok v st.q
  keys : ∀ p ∈ st.by_, FlowM.sees st.seen p.1 = true ∧ 0 ≤ p.1
  room : st.q.length + st.seen.count false ≤ nodes

theorem SMem.lt {nodes : Nat} {W : World} {bk g1 bs gm bb bq cap1 : Nat} {ok : Nat → Prop} {sink : Int} {st : FlowM.St} (h : SMem nodes W bk g1 bs gm bb bq cap1 ok sink st) : bq < W.heap.size := by
  obtain ⟨v, hq, _⟩ := h.q; exact blk_lt hq

/-- It lies on where its blocks lie on. -/
theorem SMem.keep {nodes : Nat} {W W' : World} {bk g1 bs gm bb bq cap1 : Nat} {ok : Nat → Prop} {sink : Int} {st : FlowM.St} (h : SMem nodes W bk g1 bs gm bb bq cap1 ok sink st)
    (hk : ∀ k o, W.heap[k]? = some o → o.isCells = true ∨ k = gm → W'.heap[k]? = some o) : SMem nodes W' bk g1 bs gm bb bq cap1 ok sink st := by
  obtain ⟨es, clock, m1, m2⟩ := h.m
  obtain ⟨v, q1, q2⟩ := h.q
  refine ⟨h.order, hk _ _ h.k (.inl rfl), hk _ _ h.s (.inl rfl), hk _ _ h.b (.inl rfl), h.len, ?_, ⟨es, clock, hk _ _ m1 (.inr rfl), m2⟩, ⟨v, hk _ _ q1 (.inl rfl), ?_⟩, h.keys, h.room⟩
  · refine Kd.R_mono (Kd.R_move (Kd.R_bound h.r) (fun k hb => ?_)) (fun _ hk => hk.1)
    obtain ⟨_, _, _, q, _, cells, hc⟩ := hb
    rw [hc]; exact hk _ _ hc (.inl rfl)
  · refine Kd.Q_mono (Kd.Q_move (Kd.Q_bound q2) (fun k hb => ?_)) (fun _ hk => hk.1)
    obtain ⟨_, _, _, q, _, cells, hc⟩ := hb
    rw [hc]; exact hk _ _ hc (.inl rfl)

theorem SMem.below {nodes : Nat} {W W' : World} {bk g1 bs gm bb bq cap1 : Nat} {ok : Nat → Prop} {sink : Int} {st : FlowM.St} (h : SMem nodes W bk g1 bs gm bb bq cap1 ok sink st)
    (hb : Below W.heap.size W W') : SMem nodes W' bk g1 bs gm bb bq cap1 ok sink st := h.keep (fun _ _ ho _ => blk_below ho hb)

theorem SMem.mono {nodes : Nat} {W : World} {bk g1 bs gm bb bq cap1 : Nat} {ok ok' : Nat → Prop} {sink : Int} {st : FlowM.St} (h : SMem nodes W bk g1 bs gm bb bq cap1 ok sink st)
    (hm : ∀ k, k < W.heap.size → ok k → ok' k) : SMem nodes W bk g1 bs gm bb bq cap1 ok' sink st := by
  obtain ⟨v, q1, q2⟩ := h.q
  exact ⟨h.order, h.k, h.s, h.b, h.len, h.r, h.m, ⟨v, q1, Kd.Q_mono (Kd.Q_bound q2) (fun k hk => hm k hk.2.2.1 hk.1)⟩, h.keys, h.room⟩

theorem SMem.own {nodes : Nat} {bk g1 bs gm bb bq cap1 : Nat} {ok : Nat → Prop} {sink : Int} {B : Nat} (hB : bq < B) :
    OwnFrom B (fun (st : FlowM.St) W => SMem nodes W bk g1 bs gm bb bq cap1 ok sink st) := by
  intro st W W' row h hg hr
  refine h.keep (fun k o ho hc => (hg.block k (blk_lt ho) (fun e => ?_)).trans ho)
  obtain ⟨h1, o', ho', hc'⟩ := hr k e.symm
  rw [ho] at ho'
  cases ho'
  rcases hc with hc | hc
  · rw [hc'] at hc; cases hc
  · have := h.order; omega

/-- A step that is met, and was seen before: nothing turns. -/
theorem meet_seen {sink : Int} {st : FlowM.St} {s : FlowM.Step} (h : FlowM.sees st.seen s.to = true) : FlowM.meet sink st s = (st, false) := by
  unfold FlowM.meet; rw [if_pos h]
theorem meet_new {sink : Int} {st : FlowM.St} {s : FlowM.Step} (h : FlowM.sees st.seen s.to = false) :
    FlowM.meet sink st s = ({ seen := st.seen.set s.to.toNat true, by_ := st.by_ ++ [(s.to, s)], q := st.q ++ [s.to] }, decide (s.to = sink)) := by
  unfold FlowM.meet; rw [if_neg (by rw [h]; decide)]

theorem count_set' : ∀ (l : List Bool) (a : Nat), a < l.length → l.getD a false = false → (l.set a true).count false + 1 = l.count false
  | [], _, h, _ => by simp at h
  | b :: l, 0, _, hb => by simp at hb; subst hb; simp
  | b :: l, a + 1, h, hb => by
    have := count_set' l a (by simpa using h) (by simpa using hb)
    cases b <;> simp <;> omega

theorem sees_set' {l : List Bool} {a v : Int} (h0 : 0 ≤ a) (h1 : a < l.length) (hv : 0 ≤ v) (h : FlowM.sees l v = true ∨ v = a) : FlowM.sees (l.set a.toNat true) v = true := by
  unfold FlowM.sees at h ⊢
  by_cases e : v = a
  · subst e
    have h2 : v.toNat < l.length := by omega
    simp [List.getD_eq_getElem?_getD, h2]
  · have : a.toNat ≠ v.toNat := by omega
    rcases h with h | h
    · simpa [List.getD_eq_getElem?_getD, this] using h
    · exact absurd h e

theorem putObj_far {W : World} {r : Nat} {o : Obj} {k : Nat} (h : k ≠ r) : (W.putObj r o).heap[k]? = W.heap[k]? := World.putObj_heap_other h

/-- A new step is met: what the three stores leave. -/
theorem SMem.met {nodes : Nat} {W : World} {bk g1 bs gm bb bq cap1 : Nat} {ok : Nat → Prop} {sink : Int} {st : FlowM.St} (h : SMem nodes W bk g1 bs gm bb bq cap1 ok sink st) (hn : nodes ≤ 64)
    (s : FlowM.Step) (h0 : 0 ≤ s.to) (h1 : s.to < nodes) (hns : FlowM.sees st.seen s.to = false) (o : Obj)
    (hm2 : MapIs ((W.setCell ⟨g1, s.to.toNat, none⟩ (.bool true)).putObj gm o) gm (byL st.by_ ++ [(s.to, valS s)])) :
    ∃ v, ((W.setCell ⟨g1, s.to.toNat, none⟩ (.bool true)).putObj gm o).heap[bq]? = some (.cells #[v] 79 (0, 0)) ∧
      Kd.Q (Kd.int .i64) 3 ((W.setCell ⟨g1, s.to.toNat, none⟩ (.bool true)).putObj gm o) (bq + 1) ok v st.q ∧ st.q.length < 1000000 ∧ bq + 1 ≤ ((W.setCell ⟨g1, s.to.toNat, none⟩ (.bool true)).putObj gm o).heap.size ∧
      Kept W ((W.setCell ⟨g1, s.to.toNat, none⟩ (.bool true)).putObj gm o) (fun k => k = g1 ∨ k = gm) ∧ Below (bk + 1) W ((W.setCell ⟨g1, s.to.toNat, none⟩ (.bool true)).putObj gm o) ∧
      (∀ k, some k = v.ownBlock → bq + 1 ≤ k ∧ ok k ∧ k < W.heap.size) ∧
      ∀ W3 v', W3.heap[bq]? = some (.cells #[v'] 79 (0, 0)) → Kd.Q (Kd.int .i64) 3 W3 (bq + 1) ok v' (st.q ++ [s.to]) →
        Kept ((W.setCell ⟨g1, s.to.toNat, none⟩ (.bool true)).putObj gm o) W3 (fun k => k = bq ∨ some k = v.ownBlock) →
        SMem nodes W3 bk g1 bs gm bb bq cap1 ok sink { seen := st.seen.set s.to.toNat true, by_ := st.by_ ++ [(s.to, s)], q := st.q ++ [s.to] } := by
  obtain ⟨o1, o2, o3, o4, o5⟩ := h.order
  obtain ⟨v, q1, q2⟩ := h.q
  have hlt := blk_lt q1
  have hlen := h.len
  generalize hW1 : W.setCell ⟨g1, s.to.toNat, none⟩ (.bool true) = W1 at *
  have f1 : ∀ k, k ≠ g1 → W1.heap[k]? = W.heap[k]? := fun k hk => by rw [← hW1]; exact Below.heap_setCell W _ _ k hk
  have s1 : W1.heap.size = W.heap.size := by rw [← hW1]; simp [World.setCell]
  have hR1 := Kd.R_putg (n := nodes) h.r s.to true
  rw [hW1] at hR1
  generalize hW2 : W1.putObj gm o = W2 at *
  have f2 : ∀ k, k ≠ gm → W2.heap[k]? = W1.heap[k]? := fun k hk => by rw [← hW2]; exact putObj_far hk
  have s2 : W2.heap.size = W.heap.size := by rw [← hW2, ← s1]; simp [World.putObj]
  have f : ∀ k, k ≠ g1 → k ≠ gm → W2.heap[k]? = W.heap[k]? := fun k a b => (f2 k b).trans (f1 k a)
  have hvk : ∀ k, some k = v.ownBlock → bq + 1 ≤ k ∧ ok k ∧ k < W.heap.size := fun k e => ⟨Kd.Q_base q2 k e.symm, Kd.Q_ok q2 k e.symm, Kd.Q_lt q2 k e.symm⟩
  have q2' : Kd.Q (Kd.int .i64) 3 W2 (bq + 1) ok v st.q := Kd.Q_mono (Kd.Q_move (Kd.Q_bound q2) (fun k hk => f k (by omega) (by omega))) (fun _ hk => hk.1)
  have hR2 : Kd.R Kd.bool 4 W2 (bk + 1) (fun _ => True) (.slice (some ⟨g1, 0, none⟩) nodes cap1) (st.seen.set s.to.toNat true) := by
    refine Kd.R_mono (Kd.R_move (Kd.R_tight rfl hR1.1) (fun k hk => f2 k (fun e => ?_))) (fun _ _ => trivial)
    have : k = g1 := by simpa [Value.ownBlock] using hk
    omega
  have hroom := h.room
  have hc := count_set' st.seen s.to.toNat (by omega) (by unfold FlowM.sees at hns; simpa using hns)
  refine ⟨v, (f bq (by omega) (by omega)).trans q1, q2', by omega, by omega, ⟨by omega, fun k _ hk => f k (fun e => hk (.inl e)) (fun e => hk (.inr e))⟩, ?_, hvk, ?_⟩
  · refine ⟨by rw [← hW2, ← hW1]; rfl, by rw [← hW2, ← hW1]; rfl, by rw [← hW2, ← hW1]; rfl, by omega, fun k hk => f k (by omega) (by omega)⟩
  · intro W3 v' h3 h4 h5
    have g : ∀ k, k < W.heap.size → k ≠ bq → (bq + 1 ≤ k → False) → W3.heap[k]? = W2.heap[k]? := fun k hk a b => h5.2 k (by omega) (fun e => by
      rcases e with e | e
      · exact a e
      · exact b (hvk k e).1)
    have gg : ∀ k, k < W.heap.size → k < bq → k ≠ g1 → k ≠ gm → W3.heap[k]? = W.heap[k]? := fun k a b c d => (g k a (by omega) (by omega)).trans (f k c d)
    obtain ⟨es0, clock, m1, m2⟩ := hm2
    refine ⟨h.order, (gg bk (by omega) (by omega) (by omega) (by omega)).trans h.k, (gg bs (by omega) (by omega) (by omega) (by omega)).trans h.s, (gg bb (by omega) (by omega) (by omega) (by omega)).trans h.b,
      by simp [hlen], ?_, ⟨es0, clock, (g gm (by omega) (by omega) (by omega)).trans m1, by simpa [byL] using m2⟩, ⟨v', h3, h4⟩, ?_, ?_⟩
    · refine Kd.R_mono (Kd.R_move (Kd.R_tight rfl hR2) (fun k hk => ?_)) (fun _ _ => trivial)
      have : k = g1 := by simpa [Value.ownBlock] using hk
      exact g k (by omega) (by omega) (by omega)
    · intro p hp
      rcases List.mem_append.1 hp with hp | hp
      · obtain ⟨a, b⟩ := h.keys p hp
        exact ⟨sees_set' h0 (by omega) b (.inl a), b⟩
      · simp at hp; subst hp
        exact ⟨sees_set' h0 (by omega) h0 (.inr rfl), h0⟩
    · simp; omega

theorem take_some {nodes : Nat} {W : World} {bk g1 bs gm bb bq cap1 : Nat} {ok : Nat → Prop} {sink : Int} {st : FlowM.St} (h : SMem nodes W bk g1 bs gm bb bq cap1 ok sink st) (hn : nodes ≤ 64) (hok : ∀ k, ok k → k ≠ bq)
    (n : Int) (q' : List Int) (hq : st.q = n :: q') :
    Calls Try.prog 47 #[.pointer (some ⟨bq, 0, none⟩)] W fun e W' => e = .returned (.tuple #[.int .i64 n, .bool true]) ∧ SMem nodes W' bk g1 bs gm bb bq cap1 ok sink { st with q := q' } ∧ Kept W W' (fun k => k = bq) ∧ Below (bk + 1) W W' := by
  obtain ⟨v, h1, h2⟩ := h.q
  have hroom := h.room
  rw [hq] at h2
  have ho := h.order
  refine (q_take W bq (bq + 1) ok v n q' h1 hok h2 (by rw [hq] at hroom; simp at hroom; omega)).mono ?_
  rintro e W' ⟨rfl, v', h3, h4, h5, h6⟩
  have hb := h6 (bk + 1) (by omega)
  refine ⟨rfl, ?_, h5, hb⟩
  have f : ∀ k, k < W.heap.size → k ≠ bq → W'.heap[k]? = W.heap[k]? := fun k hk hne => h5.2 k hk hne
  obtain ⟨es, clock, m1, m2⟩ := h.m
  refine ⟨ho, (f _ (blk_lt h.k) (by omega)).trans h.k, (f _ (blk_lt h.s) (by omega)).trans h.s, (f _ (blk_lt h.b) (by omega)).trans h.b, h.len, ?_, ⟨es, clock, (f _ (blk_lt m1) (by omega)).trans m1, m2⟩, ⟨v', h3, h4⟩, h.keys, ?_⟩
  · refine Kd.R_mono (Kd.R_step (Kd.R_tight rfl h.r) (fun k hk hl => ?_)) (fun _ _ => trivial)
    have hk1 : k = g1 := by simpa [Value.ownBlock] using hk
    exact f k hl (by omega)
  · rw [hq] at hroom; simp at hroom ⊢; omega

theorem take_none {nodes : Nat} {W : World} {bk g1 bs gm bb bq cap1 : Nat} {ok : Nat → Prop} {sink : Int} {st : FlowM.St} (h : SMem nodes W bk g1 bs gm bb bq cap1 ok sink st) (hq : st.q = []) :
    Calls Try.prog 47 #[.pointer (some ⟨bq, 0, none⟩)] W fun e W' => e = .returned (.tuple #[.int .i64 0, .bool false]) ∧ W = W' := by
  obtain ⟨v, h1, h2⟩ := h.q
  rw [hq] at h2
  exact q_take_none W bq (bq + 1) ok v h1 h2
end Go.Proofs.Ytioglahnliajlaa.Pr
