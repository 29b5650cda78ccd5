import Derived.Test.YtioglahnliajlaaSchedX
import Derived.Test.YtioglahnliajlaaGTh
set_option linter.unusedVariables false
set_option linter.unusedSimpArgs false
/-! Schedule's graph is the theory's. -/
namespace Go.Proofs.Ytioglahnliajlaa.Pr
open Go.RowKit Go.Proofs.YtioglahnliajlaaW.PrintWords Go.Proofs.YtioglahnliajlaaW.PrintLast Go.Proofs.YtioglahnliajlaaW.PrintMore
open Go.Proofs.Ytioglahnliajlaa.PlanTheory

def toJb (j : S38) : Jb := ⟨j.f0, j.f1, j.f2, j.f3⟩
theorem jb_of (jobs : List S38) (i : Nat) (h : i < jobs.length) : jb (jobs.map toJb) i = toJb (rd_T38 jobs (i : Int)) := by
  simp [jb, rd_T38, List.getD_eq_getElem?_getD, h]
theorem sp_of (sup : List Int) (s : Nat) : sp sup s = rd sup (s : Int) := by simp [sp, rd]

theorem ok2_of {jobs : List S38} {sup : List Int} (hv : validOk jobs sup) : Ok2 (jobs.map toJb) sup := by
  obtain ⟨⟨h1, h2⟩, h3, h4⟩ := hv
  refine ⟨by simpa using h1, h2, fun s hs => ?_, fun i hi => ?_⟩
  · rw [sp_of]
    exact h3 _ (rd_memI sup s hs)
  · rw [List.length_map] at hi
    rw [jb_of jobs i hi]
    obtain ⟨⟨a, b⟩, c, d, e, _⟩ := h4 _ (rd_memJ jobs i hi)
    exact ⟨a, b, c, d.1, d.2, e.1, e.2⟩

theorem slots_eq (J i : Nat) (j : S38) (n : Nat) : (slotE J i j (slotList j.f0 n)).map eOf = slotEdges J i (toJb j) n := by
  simp only [slotE, slotList, slotEdges, List.map_map]
  refine List.map_congr_left fun d _ => ?_
  simp [eOf, toJb]

theorem jobs_eq (jobs : List S38) : ∀ i, i ≤ jobs.length → (jobsE jobs.length jobs i).map eOf = jobsFrom jobs.length 0 ((jobs.map toJb).take i) := by
  intro i
  induction i with
  | zero => intro _; simp [jobsE, jobsFrom]
  | succ i ih =>
    intro hi
    rw [jobsFrom_take _ _ _ (by rw [List.length_map]; omega), ← ih (by omega), jb_of jobs i (by omega)]
    simp only [jobsE, List.map_append, slots_eq, jobEdges, List.append_assoc]
    simp [eOf, toJb]

theorem es_edges (jobs : List S38) (sup : List Int) : esOf (esAll jobs sup) = edges (jobs.map toJb) sup := by
  have h := jobs_eq jobs jobs.length (Nat.le_refl _)
  rw [List.take_of_length_le (by simp)] at h
  unfold esOf esAll edges
  rw [List.map_append, h, List.length_map]
  congr 1
  simp only [supE, supEdges, List.map_map]
  refine List.map_congr_left fun s _ => ?_
  simp [eOf, sinkOf, sp_of]

theorem wantE_eq (jobs : List S38) : ∀ i, i ≤ jobs.length → wantE jobs i = FlowTheory.sumN i (fun k => (jb (jobs.map toJb) k).en) := by
  intro i
  induction i with
  | zero => intro _; rfl
  | succ i ih =>
    intro hi
    simp only [wantE, FlowTheory.sumN]
    rw [ih (by omega), jb_of jobs i (by omega)]
    rfl
theorem want_eq (jobs : List S38) : wantE jobs jobs.length = wanted (jobs.map toJb) := by
  rw [wantE_eq jobs _ (Nat.le_refl _)]
  unfold wanted
  rw [List.length_map]

theorem mem_es {jobs : List S38} {sup : List Int} {e : S49} (h : e ∈ esAll jobs sup) : (e.f0, e.f1, e.f2) ∈ edges (jobs.map toJb) sup := by
  rw [← es_edges]
  exact List.mem_map_of_mem (f := eOf) h

theorem es_len {jobs : List S38} {sup : List Int} (hv : validOk jobs sup) : (esAll jobs sup).length ≤ 324 := by
  have := edges_length (ok2_of hv)
  rw [← es_edges] at this
  simpa [esOf] using this

theorem ends_all {jobs : List S38} {sup : List Int} (hv : validOk jobs sup) : endsOk (sinkOf jobs sup + 1) (esAll jobs sup) 0 (sinkOf jobs sup) := by
  have h1 := hv.1.1
  have h2 := hv.1.2
  have ok := ok2_of hv
  unfold sinkOf
  refine ⟨⟨⟨by omega, by omega, by have := es_len hv; omega⟩, fun e he => ?_⟩, ⟨by omega, by omega⟩, ⟨by omega, by omega⟩, by omega⟩
  have hm := mem_es he
  have hjl : (jobs.map toJb).length = jobs.length := by simp
  rcases edge_cls ok hm with ⟨i, hi, h⟩ | ⟨i, s, hi, hs, _, h⟩ | ⟨s, hs, h⟩
  · have hj := ok.job i hi
    rw [hjl] at hi
    simp only [Prod.mk.injEq] at h
    obtain ⟨e1, e2, e3⟩ := h
    obtain ⟨_, _, _, a, b, _⟩ := hj
    exact ⟨by omega, by omega, by omega, by omega⟩
  · have hj := ok.job i hi
    rw [hjl] at hi h
    simp only [Prod.mk.injEq] at h
    obtain ⟨e1, e2, e3⟩ := h
    obtain ⟨_, _, _, _, _, a, b⟩ := hj
    exact ⟨by omega, by omega, by omega, by omega⟩
  · have hj := ok.supply s hs
    rw [hjl] at h
    simp only [Prod.mk.injEq] at h
    obtain ⟨e1, e2, e3⟩ := h
    exact ⟨by omega, by omega, by omega, by omega⟩

theorem es_in {jobs : List S38} {sup : List Int} (hv : validOk jobs sup) : ∀ i : Nat, i < (esAll jobs sup).length → (rd_T49 (esAll jobs sup) (i : Int)).f0 ≠ 0 → (rd_T49 (esAll jobs sup) (i : Int)).f1 ≠ sinkOf jobs sup →
    1 ≤ (rd_T49 (esAll jobs sup) (i : Int)).f0 ∧ (rd_T49 (esAll jobs sup) (i : Int)).f0 ≤ jobs.length ∧ 1 + (jobs.length : Int) ≤ (rd_T49 (esAll jobs sup) (i : Int)).f1 ∧ (rd_T49 (esAll jobs sup) (i : Int)).f1 ≤ jobs.length + sup.length := by
  intro i hi h0 h1
  have hm := mem_es (rd_mem _ i hi)
  have hjl : (jobs.map toJb).length = jobs.length := by simp
  unfold sinkOf at h1
  rcases edge_cls (ok2_of hv) hm with ⟨k, hk, h⟩ | ⟨k, s, hk, hs, _, h⟩ | ⟨s, hs, h⟩
  · simp only [Prod.mk.injEq] at h
    exact absurd h.1 h0
  · rw [hjl] at hk h
    simp only [Prod.mk.injEq] at h
    omega
  · rw [hjl] at h
    simp only [Prod.mk.injEq] at h
    exact absurd h.2.1 h1

/-- What Most says of the graph of valid jobs. -/
theorem sched_good {jobs : List S38} {sup : List Int} (hv : validOk jobs sup) : ∃ a fl S, flow_Most.f (sinkOf jobs sup + 1) (esAll jobs sup) 0 (sinkOf jobs sup) = some (a, fl, S, 0) ∧ fl.length = (esAll jobs sup).length ∧ S.length = jobs.length + sup.length + 2 ∧
    FlowM.Good (nodesOf (jobs.map toJb) sup) (edges (jobs.map toJb) sup) 0 (1 + ((jobs.map toJb).length : Int) + (sup.length : Int)) a fl S := by
  obtain ⟨a, fl, S, h, g⟩ := most_good (ends_all hv)
  rw [es_edges] at g
  have hn : (sinkOf jobs sup + 1).toNat = nodesOf (jobs.map toJb) sup := by
    unfold sinkOf nodesOf
    rw [List.length_map]
    omega
  rw [hn] at g
  refine ⟨a, fl, S, h, ?_, ?_, ?_⟩
  · rw [g.flen, ← es_edges]
    simp [esOf]
  · rw [g.slen]
    simp [nodesOf]
  · rw [List.length_map]
    exact g
end Go.Proofs.Ytioglahnliajlaa.Pr
