import Derived.Test.YtfjbbmgnfpeogaaPr0
import Derived.MapKept
import Derived.Maps.OwnSet
import Derived.RangeFuncRecord
/-! Maps with whole numbers for keys, whatever the elements are: what a look-up gives, what a new key lays. -/
namespace Go.Proofs.Ytfjbbmgnfpeogaa.Pr
open Go.RowKit Go.Proofs.YtfjbbmgnfpeogaaW.PrintWords Go.Proofs.YtfjbbmgnfpeogaaW.PrintLast Go.Proofs.YtfjbbmgnfpeogaaW.PrintMore

/-- The block of a map whose entries came in this order. -/
def MapIs (W : World) (b : Nat) (l : List (Int × Value)) : Prop :=
  ∃ es clock, W.heap[b]? = some (.map es clock) ∧ es.toList.map (fun e => (e.key, e.val)) = l.map (fun p => (Value.int .i64 p.1, p.2))

theorem find_hit {kk : IntKind} {v : Int} {x : Value} : ∀ (l : List (Int × Value)) (es : List MapEntry) (i : Nat), es.map (fun e => (e.key, e.val)) = l.map (fun p => (Value.int .i64 p.1, p.2)) →
    (l.find? (fun p => p.1 == v)).map (·.2) = some x → ∃ j, Instr.findNow (.int kk) (.int .i64 v) es i = some (some (j, x))
  | [], _, _, _, h => by simp at h
  | p :: l, [], _, he, _ => by simp at he
  | p :: l, e :: es, i, he, h => by
    simp only [List.map_cons, List.cons.injEq, Prod.mk.injEq] at he
    obtain ⟨⟨h1, h2⟩, h3⟩ := he
    simp only [Instr.findNow, h1, Instr.sameNow, if_true]
    by_cases c : v = p.1
    · subst c
      simp at h
      exact ⟨i, by simp [h2, h]⟩
    · have c1 : (v == p.1) = false := by simpa using c
      have c2 : (p.1 == v) = false := by simpa using fun x => c x.symm
      rw [c1]
      simp only [List.find?_cons, c2] at h
      exact find_hit l es (i + 1) h3 h

theorem find_miss {kk : IntKind} {v : Int} : ∀ (l : List (Int × Value)) (es : List MapEntry) (i : Nat), es.map (fun e => (e.key, e.val)) = l.map (fun p => (Value.int .i64 p.1, p.2)) →
    (∀ p ∈ l, p.1 ≠ v) → Instr.findNow (.int kk) (.int .i64 v) es i = some none
  | [], [], _, _, _ => rfl
  | [], e :: es, _, he, _ => by simp at he
  | p :: l, [], _, he, _ => by simp at he
  | p :: l, e :: es, i, he, h => by
    simp only [List.map_cons, List.cons.injEq, Prod.mk.injEq] at he
    obtain ⟨⟨h1, h2⟩, h3⟩ := he
    have c1 : (v == p.1) = false := by simpa using fun x => h p (by simp) x.symm
    simp only [Instr.findNow, h1, Instr.sameNow, if_true, c1]
    exact find_miss l es (i + 1) h3 (fun q hq => h q (by simp [hq]))

section
variable {P : Program} {W : World} {b : Nat} {t k e : TypeId} {kk : IntKind}
theorem run_lookup_hit (ht : P.underlying t = some (.map k e)) (hk : P.underlying k = some (.int .i64)) {l : List (Int × Value)} (hm : MapIs W b l) {v : Int} {x : Value}
    (h : (l.find? (fun p => p.1 == v)).map (·.2) = some x) : (Instr.lookup t (.map (some b)) (.int .i64 v) false).run P W = .ok x W := by
  obtain ⟨es, clock, hb, he⟩ := hm
  obtain ⟨j, hj⟩ := find_hit (kk := .i64) l es.toList 0 he h
  unfold Instr.lookup
  simp only [Sem.run_bind, run_underlying ht, Result.andThen]
  simp [Go.MapKept.run_getObj_map hb, Result.andThen, Go.MapKept.run_checkKey hk (k := .int .i64 v) (by simp [Go.MapKept.IsKey]), Go.MapKept.run_findKey hk hj]

theorem run_update_new (ht : P.underlying t = some (.map k e)) (hk : P.underlying k = some (.int .i64)) {l : List (Int × Value)} (hm : MapIs W b l) {v : Int} (x : Value)
    (h : ∀ p ∈ l, p.1 ≠ v) : ∃ o, (Instr.mapUpdate t (.map (some b)) (.int .i64 v) x).run P W = .ok () (W.putObj b o) ∧ MapIs (W.putObj b o) b (l ++ [(v, x)]) := by
  obtain ⟨es, clock, hb, he⟩ := hm
  have hj := find_miss (kk := .i64) l es.toList 0 he h
  refine ⟨.map (es.push { key := .int .i64 v, val := x, born := clock }) (clock + 1), ?_, ?_⟩
  · unfold Instr.mapUpdate
    simp only [Sem.run_bind, run_underlying ht, Result.andThen]
    simp [Go.MapKept.run_getObj_map hb, Result.andThen, Go.MapKept.run_checkKey hk (k := .int .i64 v) (by simp [Go.MapKept.IsKey]), Go.MapKept.run_findKey hk hj, Go.MapKept.run_setObj_map _ hb, World.putObj]
  · refine ⟨_, _, World.putObj_heap_same (Array.getElem?_eq_some_iff.1 hb).1, ?_⟩
    simp [he]

variable {ops : Array Oper} {rest : List Oper} {o : Oper} {a : Act} {Q : Exit → Act → World → Prop}
theorem wpList_lookup_hit (hg : o.guard = none) (m x : Operand) (hop : o.op = Op.lookup t m x false) (ht : P.underlying t = some (.map k e)) (hk : P.underlying k = some (.int .i64))
    {l : List (Int × Value)} (hm : a.eval m = .map (some b)) (hM : MapIs W b l) {v : Int} {y : Value} (hx : a.eval x = .int .i64 v)
    (h : (l.find? (fun p => p.1 == v)).map (·.2) = some y) (hK : wpList P ops Q rest (a.put o.dst y) W) : wpList P ops Q (o :: rest) a W := by
  refine wpList_plain hg fun K' hK' => ?_
  have hrun := run_lookup_hit ht hk hM h
  unfold Oper.wp
  simp [execOp, hop, hm, hx, hrun, Result.andThen]
  exact hK' _ _ hK
end
end Go.Proofs.Ytfjbbmgnfpeogaa.Pr
