import Derived.Test.YthoimnockinfbaaShOwn
import Derived.Shelf.Spec.SlicesInsert
set_option linter.unusedVariables false
set_option linter.unusedSimpArgs false
/-! slices.Insert of one number where there is room. -/
namespace Go.Proofs.Ythoimnockinfbaa.Pr
open Go.RowKit Go.Proofs.YthoimnockinfbaaW.PrintWords Go.Proofs.YthoimnockinfbaaW.PrintLast Go.Proofs.YthoimnockinfbaaW.PrintMore
attribute [local go_sem] Oper.semAt_some

theorem flat_ints (l : List Int) : l.flatMap inCells = l.map (fun x => Value.int .i64 x) := by
  induction l with
  | nil => rfl
  | cons x l ih => rw [List.flatMap_cons, ih]; rfl

set_option maxHeartbeats 4000000 in
theorem ins_end (w0 W : World) (g cap gv : Nat) (xs : List Int) (x : Int) (hr : Roomy (Kd.int .i64) inCells 3 w0 W g cap xs) (hroom : xs.length + 1 ≤ cap) (hcap : cap ≤ 1000000)
    (hgv : W.heap[gv]? = some (.cells #[.int .i64 x] 3 (0, 0))) :
    Calls Try.prog 27 #[.slice (some ⟨g, 0, none⟩) xs.length cap, .int .i64 (xs.length : Int), .slice (some ⟨gv, 0, none⟩) 1 1] W fun e w' =>
      e = .returned (.slice (some ⟨g, 0, none⟩) (xs.length + 1) cap) ∧ Roomy (Kd.int .i64) inCells 3 w0 w' g cap (xs ++ [x]) ∧ W.grownBy w' (some g) := by
  obtain ⟨⟨rest, hg, hl⟩, hlow, hfit⟩ := hr
  rw [flat_ints] at hg
  have hl' : rest.length = cap - xs.length := by rw [hl]; show (cap - xs.length) * 1 = _; omega
  have hsz : ((xs.map (fun x => Value.int .i64 x) ++ rest).toArray).size = cap := by simp [hl']; omega
  have hap : ∀ ty, (Builtin.append_ #[23, 23] ty #[.slice (some ⟨g, 0, none⟩) xs.length cap, .slice (some ⟨gv, 0, none⟩) 1 1]).run Try.prog W = .ok (.slice (some ⟨g, 0, none⟩) (xs.length + 1) cap) (W.setRow g ((xs ++ [x]).flatMap inCells ++ rest.drop 1).toArray) := fun ty => by
    rw [run_append_wide (P := Try.prog) W 23 ty 3 1 Try.underlying23 (by kernel_rfl) g xs.length cap _ hg ⟨gv, 0, none⟩ 1 1 [.int .i64 x] rfl (cells_of_blk (cs := [.int .i64 x]) hgv 0) (by simp [Value.oneCell']) hroom (by rw [hsz]; simpa using hroom)]
    congr 3
    rw [flat_ints]
    simp [List.take_append, List.drop_append]
  have hfin : Aside0 (Roomy (Kd.int .i64) inCells 3 w0 (W.setRow g ((xs ++ [x]).flatMap inCells ++ rest.drop 1).toArray) g cap (xs ++ [x]) ∧ W.grownBy (W.setRow g ((xs ++ [x]).flatMap inCells ++ rest.drop 1).toArray) (some g)) :=
    ⟨⟨⟨rest.drop 1, setRow_heap W g _ _ _ _ hg, by simp [hl', show (Kd.int .i64).sz = 1 from rfl]; omega⟩, hlow, by simpa using hroom⟩, grown_setRow W g _⟩
  generalize W.setRow g ((xs ++ [x]).flatMap inCells ++ rest.drop 1).toArray = W1 at hap hfin
  have hap' := Aside0.mk hap
  clear hap hg hsz hl hl' hgv hlow
  have m0 : ((1 : Nat) : Int) = 1 := rfl
  go_enter Try.func27, Try.ntmps27
  go_wp2_with (at_builtin; refine wpList_append_runI _ rfl _ _ 23 23 rfl _ _ rfl rfl (hap'.out _) ?_)
  go_ret
  exact ⟨rfl, hfin.out⟩

theorem shift_list (xs : List Int) (rest : List Value) (k : Nat) (hk : k < xs.length) (hr : 0 < rest.length) (x : Int) :
    ((((xs.map (fun x => Value.int .i64 x) ++ rest).take (k + 1) ++ (xs.map (fun x => Value.int .i64 x)).drop k ++ (xs.map (fun x => Value.int .i64 x) ++ rest).drop (k + 1 + (xs.length - k))).take k) ++ [Value.int .i64 x] ++
      (((xs.map (fun x => Value.int .i64 x) ++ rest).take (k + 1) ++ (xs.map (fun x => Value.int .i64 x)).drop k ++ (xs.map (fun x => Value.int .i64 x) ++ rest).drop (k + 1 + (xs.length - k))).drop (k + 1))) =
      (xs.take k ++ x :: xs.drop k).map (fun x => Value.int .i64 x) ++ rest.drop 1 := by
  generalize hcs : xs.map (fun x => Value.int .i64 x) = cs
  have hl : cs.length = xs.length := by rw [← hcs]; simp
  have e1 : (cs ++ rest).take (k + 1) = cs.take (k + 1) := by rw [List.take_append_of_le_length (by omega)]
  have e2 : (cs ++ rest).drop (k + 1 + (xs.length - k)) = rest.drop 1 := by
    rw [show k + 1 + (xs.length - k) = cs.length + 1 by omega, ← List.drop_drop, List.drop_left]
  rw [e1, e2]
  have l1 : (cs.take (k + 1)).length = k + 1 := by simp; omega
  have e3 : (cs.take (k + 1) ++ cs.drop k ++ rest.drop 1).take k = cs.take k := by
    rw [List.append_assoc, List.take_append_of_le_length (by omega), List.take_take]; congr 1; omega
  have e4 : (cs.take (k + 1) ++ cs.drop k ++ rest.drop 1).drop (k + 1) = cs.drop k ++ rest.drop 1 := by
    rw [List.append_assoc, List.drop_append_of_le_length (by omega), List.drop_of_length_le (by omega), List.nil_append]
  rw [e3, e4, List.map_append, List.map_cons, List.map_take, List.map_drop, hcs]
  simp

set_option maxHeartbeats 4000000 in
set_option maxRecDepth 100000 in
theorem ins_mid (w0 W : World) (g cap gv k : Nat) (xs : List Int) (x : Int) (hr : Roomy (Kd.int .i64) inCells 3 w0 W g cap xs) (hroom : xs.length + 1 ≤ cap) (hcap : cap ≤ 1000000) (hk : k < xs.length)
    (hgv : W.heap[gv]? = some (.cells #[.int .i64 x] 3 (0, 0))) (hne : gv ≠ g) :
    Calls Try.prog 27 #[.slice (some ⟨g, 0, none⟩) xs.length cap, .int .i64 (k : Int), .slice (some ⟨gv, 0, none⟩) 1 1] W fun e w' =>
      e = .returned (.slice (some ⟨g, 0, none⟩) (xs.length + 1) cap) ∧ Roomy (Kd.int .i64) inCells 3 w0 w' g cap (xs.take k ++ x :: xs.drop k) ∧ W.grownBy w' (some g) := by
  obtain ⟨⟨rest, hg, hl⟩, hlow, hfit⟩ := hr
  rw [flat_ints] at hg
  have hl' : rest.length = cap - xs.length := by rw [hl]; show (cap - xs.length) * 1 = _; omega
  have hsz : ((xs.map (fun x => Value.int .i64 x) ++ rest).toArray).size = cap := by simp [hl']; omega
  have hov : ∀ W' : World, W'.heap = W.heap → ∀ lb cb, (callFunc 43 #[.slice (some ⟨gv, 0, none⟩) 1 1, .slice (some ⟨g, k + 1, none⟩) lb cb]).run Try.prog W' = .ok (.value (.bool false)) W' := fun W' hW lb cb => by
    have hgv' : W'.heap[gv]? = some (.cells #[.int .i64 x] 3 (0, 0)) := by rw [hW]; exact hgv
    have hg' : W'.heap[g]? = some (.cells (xs.map (fun x => Value.int .i64 x) ++ rest).toArray 3 (0, 0)) := by rw [hW]; exact hg
    rw [run_callFunc_extern Try.func43 (by kernel_rfl) (by kernel_rfl) (by kernel_rfl) (e := Extern.SlicesOverlaps.overlaps #[23, 23] #[4]) (by kernel_rfl),
      Lib.run_overlaps_apart W' 23 4 3 Try.underlying23 1 (fun w => by kernel_rfl) ⟨gv, 0, none⟩ ⟨g, k + 1, none⟩ 1 1 lb cb hne 3 3 1 cap (by simp [World.shape?, hgv']) (by simp [World.shape?, hg']; rw [← hsz]; simp) (by omega) (by simp [World.frozen?, hgv']) (by simp [World.frozen?, hgv'])]
    rfl
  have hgD : W.drew.heap[g]? = some (.cells (xs.map (fun x => Value.int .i64 x) ++ rest).toArray 3 (0, 0)) := hg
  have hdl : (((xs.map (fun x => Value.int .i64 x)).drop k)).length = xs.length - k := by simp
  have hcp1 : ∀ ty dc sc, (Builtin.copy_ #[23, 23] ty #[.slice (some ⟨g, k + 1, none⟩) (xs.length - k) dc, .slice (some ⟨g, k, none⟩) (xs.length + 1 - k) sc]).run Try.prog W.drew =
      .ok (goInt ((xs.length - k : Nat) : Int)) (W.drew.setRow g ((xs.map (fun x => Value.int .i64 x) ++ rest).take (k + 1) ++ (xs.map (fun x => Value.int .i64 x)).drop k ++ (xs.map (fun x => Value.int .i64 x) ++ rest).drop (k + 1 + (xs.length - k))).toArray) := fun ty dc sc => by
    have hm : Nat.min (xs.length + 1 - k) (xs.length - k) = xs.length - k := by simp only [Nat.min_def]; split <;> omega
    rw [run_copy_wide (P := Try.prog) W.drew 23 23 ty 3 1 g (k + 1) (xs.length - k) dc ⟨g, k, none⟩ (xs.length + 1 - k) sc _ 3 ((xs.map (fun x => Value.int .i64 x)).drop k) Try.underlying23 (by kernel_rfl) hgD (by rw [hdl, hm]; omega)
      (fun j v hj => cells_of_blk hgD k j v (by rw [List.drop_append_of_le_length (by simp; omega), List.getElem?_append_left (by have := (List.getElem?_eq_some_iff.1 hj).1; simpa using this)]; exact hj)) (by rw [hsz, hdl]; omega) (fun v hv => by have := List.mem_of_mem_drop hv; simp at this; obtain ⟨y, _, rfl⟩ := this; rfl), hm, hdl]
  obtain ⟨L1, hL1⟩ : ∃ L1, L1 = (xs.map (fun x => Value.int .i64 x) ++ rest).take (k + 1) ++ (xs.map (fun x => Value.int .i64 x)).drop k ++ (xs.map (fun x => Value.int .i64 x) ++ rest).drop (k + 1 + (xs.length - k)) := ⟨_, rfl⟩
  rw [← hL1] at hcp1
  have hsh := shift_list xs rest k hk (by omega) x
  rw [← hL1] at hsh
  have hL1l : L1.length = cap := by rw [hL1]; simp [hl']; omega
  have hg1 : (W.drew.setRow g L1.toArray).heap[g]? = some (.cells L1.toArray 3 (0, 0)) := setRow_heap _ g _ _ _ _ hgD
  have hgv1 : (W.drew.setRow g L1.toArray).heap[gv]? = some (.cells #[.int .i64 x] 3 (0, 0)) := (setRow_other _ g gv _ hne).trans hgv
  have hgr1 : W.grownBy (W.drew.setRow g L1.toArray) (some g) := ⟨rfl, rfl, rfl, by simp, fun j _ hj => setRow_other W.drew g j _ (fun e => hj (by rw [e]))⟩
  generalize W.drew.setRow g L1.toArray = W1 at hcp1 hg1 hgv1 hgr1
  have hcp2 : ∀ ty dc, (Builtin.copy_ #[23, 23] ty #[.slice (some ⟨g, k, none⟩) (xs.length + 1 - k) dc, .slice (some ⟨gv, 0, none⟩) 1 1]).run Try.prog W1 =
      .ok (goInt 1) (W1.setRow g ((xs.take k ++ x :: xs.drop k).map (fun x => Value.int .i64 x) ++ rest.drop 1).toArray) := fun ty dc => by
    have hm : Nat.min 1 (xs.length + 1 - k) = 1 := by simp only [Nat.min_def]; split <;> omega
    rw [run_copy_wide (P := Try.prog) W1 23 23 ty 3 1 g k (xs.length + 1 - k) dc ⟨gv, 0, none⟩ 1 1 _ 3 [.int .i64 x] Try.underlying23 (by kernel_rfl) hg1 (by rw [hm]; rfl) (cells_of_blk (cs := [.int .i64 x]) hgv1 0) (by simp [hL1l]; omega) (by simp [Value.oneCell']), hm]
    congr 3
  have hfin : Aside0 (Roomy (Kd.int .i64) inCells 3 w0 (W1.setRow g ((xs.take k ++ x :: xs.drop k).map (fun x => Value.int .i64 x) ++ rest.drop 1).toArray) g cap (xs.take k ++ x :: xs.drop k) ∧ W.grownBy (W1.setRow g ((xs.take k ++ x :: xs.drop k).map (fun x => Value.int .i64 x) ++ rest.drop 1).toArray) (some g)) := by
    have e1 : (xs.take k ++ x :: xs.drop k).length = xs.length + 1 := by simp; omega
    refine ⟨⟨⟨rest.drop 1, by rw [setRow_heap W1 g _ _ _ _ hg1, flat_ints], ?_⟩, hlow, by rw [e1]; exact hroom⟩, ?_⟩
    · rw [e1, List.length_drop, hl']; show _ = (cap - (xs.length + 1)) * 1; omega
    · refine ⟨hgr1.os, hgr1.tape, hgr1.output, by simpa using hgr1.size, fun j hj hne => ?_⟩
      rw [setRow_other W1 g j _ (fun e => hne (by rw [e]))]
      exact hgr1.block j hj hne
  generalize W1.setRow g ((xs.take k ++ x :: xs.drop k).map (fun x => Value.int .i64 x) ++ rest.drop 1).toArray = W2 at hcp2 hfin
  have hov' := hov W rfl
  have hcp1' := Aside0.mk hcp1
  have hcp2' := Aside0.mk hcp2
  clear hcp1 hcp2 hov hgD hdl hsh hL1l hg1 hgv1 hgr1 hg hl hl' hgv hsz hlow hL1
  have mixed : Try.prog.follows .mixedOrders = true := by kernel_rfl
  have hb0 : ¬ ((k : Int) = (xs.length : Int)) := by omega
  have hw1 : IntKind.i64.wrap ((k : Int) + 1) = (k : Int) + 1 := by rw [IntKind.wrap_i64]; omega
  have hb1 : (0 : Int) ≤ (k : Int) + 1 := by omega
  have htn : ((k : Int) + 1).toNat = k + 1 := by omega
  have hb2 : ¬ (cap = k + 1) := by omega
  have hb4 : ¬ (cap = k) := by omega
  have hb3 : (k : Int) ≤ (xs.length : Int) + 1 := by omega
  have hb5 : (k : Int) + 1 ≤ (xs.length : Int) + 1 := by omega
  have hb6 : (xs.length : Int) + 1 ≤ (cap : Int) := by omega
  have hb7 : ¬ ((cap : Int) < (xs.length : Int) + 1) := by omega
  go_enter Try.func27, Try.ntmps27
  go_wp2_with (simp only [hov'])
  go_region_law_o (refine step_copy_runI rfl (.tmp 73) (.tmp 76) 23 23 rfl (.slice (some ⟨g, k + 1, none⟩) (xs.length - k) (cap - (k + 1))) (.slice (some ⟨g, k, none⟩) (xs.length + 1 - k) (cap - k)) (by simp [Act.eval, Act.put]) (by simp [Act.eval, Act.put]) (hcp1'.out 3 (cap - (k + 1)) (cap - k)) ?_)
  have hc2 := hcp2'.out 3 (cap - k)
  go_wp2
  go_ret
  exact ⟨rfl, hfin.out⟩
end Go.Proofs.Ythoimnockinfbaa.Pr
