import Derived.Test.YtioglahnliajlaaSchedW
import Derived.Test.YtioglahnliajlaaGSchA
set_option linter.unusedVariables false
set_option linter.unusedSimpArgs false
/-! Schedule's contract. -/
namespace Go.Proofs.Ytioglahnliajlaa.Pr
open Go.RowKit Go.Proofs.YtioglahnliajlaaW.PrintWords Go.Proofs.YtioglahnliajlaaW.PrintLast Go.Proofs.YtioglahnliajlaaW.PrintMore
attribute [local go_sem] Oper.semAt_some

def sinkOf (jobs : List S38) (sup : List Int) : Int := 1 + (jobs.length : Int) + (sup.length : Int)
def esAll (jobs : List S38) (sup : List Int) : List S49 := jobsE jobs.length jobs jobs.length ++ supE jobs.length (sinkOf jobs sup) sup sup.length

/-- Schedule, as a plain function. -/
def plan_Schedule.f (jobs : List S38) (sup : List Int) : Option (List (List Int) × List Int × List Int × Int) :=
  if validOk jobs sup then (flow_Most.f (sinkOf jobs sup + 1) (esAll jobs sup) 0 (sinkOf jobs sup)).bind fun r =>
    if r.1 < wantE jobs jobs.length then some ([], placesFrom 0 ((r.2.2.1.take (1 + jobs.length)).drop 1), placesFrom 0 ((r.2.2.1.take (1 + jobs.length + sup.length)).drop (1 + jobs.length)), 10)
    else some ((List.range jobs.length).map (matOf jobs.length sup.length (sinkOf jobs sup) (esAll jobs sup) r.2.1 (esAll jobs sup).length), [], [], 0)
  else some ([], [], [], 1)

theorem leave_marks2 {n : Nat} {P : Program} {fn : Func} {tmps : Array Value} {R : Ending → World → Prop} {v : Value} :
    ∀ (l : List Nat) (lo : Nat) (w : World), Marks l lo w → (∀ w', (∀ k, k ∉ l → w'.heap[k]? = w.heap[k]?) → w'.heap.size = w.heap.size → w'.os = w.os → w'.tape = w.tape → w'.output = w.output → (results fn tmps).run P w' = .ok v w' ∧ R (.returned v) w') →
    LeavesInM Fence.wide n P fn tmps R (l.map mark) .returning w
  | [], _, w, _, h => by
    obtain ⟨h1, h2⟩ := h w (fun _ _ => rfl) rfl rfl rfl rfl
    exact ⟨_, h1, h2⟩
  | D :: l, lo, w, hm, h => by
    obtain ⟨hd, hl⟩ := List.nodup_cons.1 hm.nd
    have hD := (hm.at_ D (by simp)).1
    refine ⟨by simp, .inl ⟨D, _, rfl, run_takeDeferred hD, ?_⟩⟩
    refine leave_marks2 (v := v) l lo _ ⟨hl, fun E hE => ?_⟩ (fun w' h1 h2 h3 h4 h5 => ?_)
    · have := hm.at_ E (by simp [hE])
      exact ⟨(putObj_far (fun e => hd (by rw [← e]; exact hE))).trans this.1, this.2⟩
    · refine h w' (fun k hk => ?_) (h2.trans (by simp [World.putObj])) h3 h4 h5
      have hk1 : k ≠ D := fun e => hk (by simp [e])
      have hk2 : k ∉ l := fun e => hk (by simp [e])
      exact (h1 k hk2).trans (putObj_far hk1)

theorem results_tct {P : Program} {fn : Func} {p u v : Tmp} {ty : TypeId} (h : fn.results = #[.tmp u, .cell p ty, .tmp v]) (tmps : Array Value) (w : World) (g : Nat) (t : TypeId) (cs : Array Value) (fr : Nat × Nat) (d : TypeDesc)
    (hp : tmps[p]? = some (.pointer (some ⟨g, 0, none⟩))) (hg : w.heap[g]? = some (.cells cs t fr))
    (hu : P.underlying ty = some d) (hd : (match d with | .struct _ | .array _ _ => true | _ => false) = true) (hi : (P.info? ty).map (·.size) = some cs.size) {x y : Value} (hx : tmps[u]? = some x) (hy : tmps[v]? = some y) :
    (results fn tmps).run P w = .ok (.tuple #[x, .agg cs, y]) w := by
  simp [results, h, hp, hx, hy, asAddr, run_loadVar_row w g t ty cs fr d hg hu hd hi]

theorem cutinfo : (Try.prog.info? 26).map (·.size) = some 2 := by kernel_rfl

theorem rows_S {W : World} {base g J S : Nat} {f : Nat → List Int} (h : RowsAt W g J S J f) (hb : base ≤ g) (hJ : J ≤ 1000) (hS : S ≤ 1000) (hf : ∀ j, (f j).length = S) :
    Kd.S (Kd.slice 3 (Kd.int .i64)) 23 W base (fun _ => True) (.slice (some ⟨g, 0, none⟩) J J) ((List.range J).map f) := by
  refine ⟨fun k => k - (g + 1), fun _ _ => trivial, (outCells g S J J).toList, ?_, ?_, ?_⟩
  · have hsz : (Kd.tag (fun k => k - (g + 1)) (Kd.slice 3 (Kd.int .i64))).sz = 1 := rfl
    rw [hsz]
    refine ⟨by simp [outCells], .inr ⟨g, J, outCells g S J J, by simp, hb, h.out, by simp, by simp [maxLen]; omega, by simp [outCells], ?_⟩⟩
    rw [List.take_of_length_le]
    simp [outCells]
  · have hsz : (Kd.tag (fun k => k - (g + 1)) (Kd.slice 3 (Kd.int .i64))).sz = 1 := rfl
    rw [hsz]
    simp [outCells]
  · intro j p hj
    rw [List.getElem?_zipIdx, Nat.zero_add] at hj
    obtain ⟨x, hx, rfl⟩ := Option.map_eq_some_iff.1 hj
    have hjJ : j < J := by
      rcases Nat.lt_or_ge j J with h' | h'
      · exact h'
      · rw [List.getElem?_eq_none (by simpa using h')] at hx; cases hx
    have hxe : x = f j := by
      rw [List.getElem?_map, List.getElem?_range hjJ] at hx
      exact (Option.some.inj hx).symm
    subst hxe
    have hc : ((outCells g S J J).toList.drop (j * 1)).take 1 = [.slice (some ⟨g + 1 + j, 0, none⟩) S S] := by
      rw [Nat.mul_one, List.drop_eq_getElem_cons (by simpa [outCells] using hjJ)]
      simp [outCells, hjJ]
    show (Kd.tag _ _).M W base _ (f j, j) _
    rw [show (Kd.tag (fun k => k - (g + 1)) (Kd.slice 3 (Kd.int .i64))).sz = 1 from rfl, hc]
    refine ⟨_, rfl, fun k hk => ?_, (intCells (f j)).toList, ?_, ?_⟩
    · have : k = g + 1 + j := by simpa [Value.ownBlock] using hk.symm
      subst this
      refine ⟨⟨trivial, fun e => ?_⟩, by show g + 1 + j - (g + 1) = j; omega⟩
      simp [Value.ownBlock] at e
      omega
    · refine ⟨by simp [intCells, Kd.int, Kd.scalar], .inr ⟨g + 1 + j, S, intCells (f j), by rw [hf j], by omega, h.rows j hjJ, by rw [hf j]; exact Nat.le_refl _, by simp [maxLen]; omega, by simp [intCells, Kd.int, Kd.scalar, hf j], ?_⟩⟩
      rw [List.take_of_length_le]
      simp [intCells, Kd.int, Kd.scalar]
    · refine ⟨by simp [intCells, Kd.int, Kd.scalar], fun i q hq => ?_⟩
      have hi : i < (f j).length := (List.getElem?_eq_some_iff.1 hq).1
      have hqe : (f j)[i] = q := (List.getElem?_eq_some_iff.1 hq).2
      show _ = [Value.int .i64 q]
      rw [show (Kd.int .i64).sz = 1 from rfl, Nat.mul_one, List.drop_eq_getElem_cons (by simpa [intCells] using hi)]
      simp [intCells, hqe]
end Go.Proofs.Ytioglahnliajlaa.Pr
