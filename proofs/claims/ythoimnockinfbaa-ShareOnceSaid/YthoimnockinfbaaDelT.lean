import Derived.Test.YthoimnockinfbaaShOwn
import Derived.Shelf.Spec.SlicesInsert
import Derived.Deep.RegionLaw
set_option linter.unusedVariables false
set_option linter.unusedSimpArgs false
/-! slices.Delete of one transfer. -/
namespace Go.Proofs.Ythoimnockinfbaa.Pr
open Go.RowKit Go.Proofs.YthoimnockinfbaaW.PrintWords Go.Proofs.YthoimnockinfbaaW.PrintLast Go.Proofs.YthoimnockinfbaaW.PrintMore
attribute [local go_sem] Oper.semAt_some

set_option maxHeartbeats 4000000 in
set_option maxRecDepth 100000 in
theorem del_calls (w0 W : World) (g cap k : Nat) (xs : List S27) (hr : Roomy k27 trCells 27 w0 W g cap xs) (hroom : xs.length + 1 ≤ cap) (hcap : cap ≤ 1000000) (hk : k < xs.length) :
    Calls Try.prog 32 #[.slice (some ⟨g, 0, none⟩) xs.length cap, .int .i64 (k : Int), .int .i64 ((k : Int) + 1)] W fun e w' =>
      e = .returned (.slice (some ⟨g, 0, none⟩) (xs.length - 1) cap) ∧ Roomy k27 trCells 27 w0 w' g cap (xs.eraseIdx k) ∧ W.grownBy w' (some g) := by
  obtain ⟨⟨rest, hg, hl⟩, hlow, hfit⟩ := hr
  have hl' : rest.length = (cap - xs.length) * 2 := hl
  have hfl := flat_length trCells_len xs
  have hsz2 : (k27).sz = 2 := rfl
  rw [hsz2] at hfl
  have hsz : ((xs.flatMap trCells ++ rest).toArray).size = cap * 2 := by simp [← List.length_flatMap, hfl, hl']; omega
  have hgD : W.drew.heap[g]? = some (.cells (xs.flatMap trCells ++ rest).toArray 27 (0, 0)) := hg
  have hsplit : xs.flatMap trCells = (xs.take k).flatMap trCells ++ (trCells xs[k] ++ (xs.drop (k + 1)).flatMap trCells) := by
    rw [← List.flatMap_cons, ← List.drop_eq_getElem_cons hk, ← List.flatMap_append, List.take_append_drop]
  have h1 : ((xs.take k).flatMap trCells).length = k * 2 := by rw [flat_length trCells_len, hsz2]; simp; omega
  have h3 : ((xs.drop (k + 1)).flatMap trCells).length = (xs.length - (k + 1)) * 2 := by rw [flat_length trCells_len, hsz2]; simp
  have hdrop : (xs.flatMap trCells ++ rest).drop ((k + 1) * 2) = (xs.drop (k + 1)).flatMap trCells ++ rest := by
    rw [hsplit, List.append_assoc, List.append_assoc, ← List.append_assoc, List.drop_append_of_le_length (by rw [List.length_append, h1]; show _ ≤ _ + 2; omega), List.drop_of_length_le (by rw [List.length_append, h1]; show _ + 2 ≤ _; omega), List.nil_append]
  have htake : (xs.flatMap trCells ++ rest).take (k * 2) = (xs.take k).flatMap trCells := by
    rw [hsplit, List.append_assoc, List.take_append_of_le_length (by omega), List.take_of_length_le (by omega)]
  have hap : ∀ ty, (Builtin.append_ #[22, 22] ty #[.slice (some ⟨g, 0, none⟩) k cap, .slice (some ⟨g, (k + 1) * 2, none⟩) (xs.length - (k + 1)) (cap - (k + 1))]).run Try.prog W.drew =
      .ok (.slice (some ⟨g, 0, none⟩) (k + (xs.length - (k + 1))) cap) (W.drew.setRow g ((xs.take k).flatMap trCells ++ (xs.drop (k + 1)).flatMap trCells ++ (xs.flatMap trCells ++ rest).drop (k * 2 + (xs.length - (k + 1)) * 2)).toArray) := fun ty => by
    rw [run_append_wide (P := Try.prog) W.drew 22 ty 27 2 Try.underlying22 (by kernel_rfl) g k cap _ hgD ⟨g, (k + 1) * 2, none⟩ (xs.length - (k + 1)) (cap - (k + 1)) ((xs.drop (k + 1)).flatMap trCells) h3
      (fun j v hj => cells_of_blk hgD ((k + 1) * 2) j v (by rw [hdrop, List.getElem?_append_left (List.getElem?_eq_some_iff.1 hj).1]; exact hj)) (fun v hv => by obtain ⟨x, _, hx⟩ := List.mem_flatMap.1 hv; exact trCells_one x v hx) (by omega) (by rw [hsz, h3]; omega), h3]
    congr 4
    rw [show (xs.flatMap trCells ++ rest).toArray.toList = xs.flatMap trCells ++ rest from rfl, htake]
  have he : (xs.take k).flatMap trCells ++ (xs.drop (k + 1)).flatMap trCells = (xs.eraseIdx k).flatMap trCells := by
    rw [← List.flatMap_append, List.eraseIdx_eq_take_drop_succ]
  have hel : (xs.eraseIdx k).length = xs.length - 1 := by rw [List.length_eraseIdx]; simp [hk]
  have hefl : ((xs.eraseIdx k).flatMap trCells).length = (xs.length - 1) * 2 := by rw [flat_length trCells_len, hel, hsz2]
  obtain ⟨m, hm⟩ : ∃ m, xs.length = m + 1 := ⟨xs.length - 1, by omega⟩
  rw [show k + (xs.length - (k + 1)) = m by omega, he, show k * 2 + (xs.length - (k + 1)) * 2 = m * 2 by omega] at hap
  rw [hm] at hap hefl hel hl' hroom hfit hk ⊢
  simp only [Nat.add_sub_cancel] at hel hefl hap ⊢
  rw [show m + 1 - (k + 1) = m - k by omega] at hap
  obtain ⟨tl, htl⟩ : ∃ tl, tl = (xs.flatMap trCells ++ rest).drop (m * 2) := ⟨_, rfl⟩
  have htll : tl.length = (cap - m) * 2 := by rw [htl, List.length_drop, List.length_append, hfl, hl', hm]; omega
  rw [← htl] at hap
  have hg1 : (W.drew.setRow g ((xs.eraseIdx k).flatMap trCells ++ tl).toArray).heap[g]? = some (.cells ((xs.eraseIdx k).flatMap trCells ++ tl).toArray 27 (0, 0)) := setRow_heap _ g _ _ _ _ hgD
  have hgr1 : W.grownBy (W.drew.setRow g ((xs.eraseIdx k).flatMap trCells ++ tl).toArray) (some g) := ⟨rfl, rfl, rfl, by simp, fun j _ hj => setRow_other W.drew g j _ (fun e => hj (by rw [e]))⟩
  generalize W.drew.setRow g ((xs.eraseIdx k).flatMap trCells ++ tl).toArray = W1 at hap hg1 hgr1
  have hzc : (Builtin.zeroCells #[Value.int .i64 0, Value.int .i64 0] 1).toList = [.int .i64 0, .int .i64 0] := by kernel_rfl
  have hzc' : (Builtin.zeroCells (Value.agg #[Value.int .i64 0, Value.int .i64 0]).cells 1).toList = [.int .i64 0, .int .i64 0] := hzc
  have hcl : ∀ ty, (Builtin.clear_ #[22] ty #[.slice (some ⟨g, m * 2, none⟩) 1 (cap - m)]).run Try.prog W1 = .ok (.tuple #[]) (W1.setRow g ((xs.eraseIdx k).flatMap trCells ++ ([Value.int .i64 0, Value.int .i64 0] ++ ((xs.eraseIdx k).flatMap trCells ++ tl).drop (m * 2 + 2))).toArray) := fun ty => by
    rw [run_clear_one (P := Try.prog) W1 22 27 ty (.agg #[.int .i64 0, .int .i64 0]) Try.underlying22 Try.zeroValue27 (by simp [Value.cells, Value.oneCell']) g (m * 2) (cap - m) _ 27 hg1 (by simp [Builtin.zeroCells, Value.cells, ← List.length_flatMap, hefl, htll]; omega)]
    congr 3
    rw [show ((xs.eraseIdx k).flatMap trCells ++ tl).toArray.toList = (xs.eraseIdx k).flatMap trCells ++ tl from rfl, List.take_append_of_le_length (by omega), List.take_of_length_le (by omega), List.append_assoc, hzc']
    rfl
  have hfin : Aside0 (Roomy k27 trCells 27 w0 (W1.setRow g ((xs.eraseIdx k).flatMap trCells ++ ([Value.int .i64 0, Value.int .i64 0] ++ ((xs.eraseIdx k).flatMap trCells ++ tl).drop (m * 2 + 2))).toArray) g cap (xs.eraseIdx k) ∧
      W.grownBy (W1.setRow g ((xs.eraseIdx k).flatMap trCells ++ ([Value.int .i64 0, Value.int .i64 0] ++ ((xs.eraseIdx k).flatMap trCells ++ tl).drop (m * 2 + 2))).toArray) (some g)) := by
    refine ⟨⟨⟨_, setRow_heap W1 g _ _ _ _ hg1, ?_⟩, hlow, by rw [hel]; omega⟩, ?_⟩
    · rw [hel, hsz2, List.length_append, List.length_drop, List.length_append, hefl, htll]
      show 2 + _ = _
      omega
    · refine ⟨hgr1.os, hgr1.tape, hgr1.output, by simpa using hgr1.size, fun j hj hne => ?_⟩
      rw [setRow_other W1 g j _ (fun e => hne (by rw [e]))]
      exact hgr1.block j hj hne
  generalize W1.setRow g ((xs.eraseIdx k).flatMap trCells ++ ([Value.int .i64 0, Value.int .i64 0] ++ ((xs.eraseIdx k).flatMap trCells ++ tl).drop (m * 2 + 2))).toArray = W2 at hcl hfin
  have hap' := Aside0.mk hap
  have hcl' := Aside0.mk hcl
  have mixed : Try.prog.follows .mixedOrders = true := by kernel_rfl
  clear hap hcl hg1 hgr1 htl htll hel hefl he hdrop htake h1 h3 hsplit hgD hsz hsz2 hfl hl hl' hg hm hlow
  have hic : k ≤ cap := by omega
  have hk0 : (0 : Int) ≤ (k : Int) + 1 := by omega
  have hjc : k + 1 ≤ cap := by omega
  have hkm : k + 1 ≤ m + 1 := by omega
  have hkm2 : k ≤ m := by omega
  have hmc : m ≤ cap := by omega
  have hb1 : ¬ (cap = k + 1) := by omega
  have hb2 : ¬ (cap = m) := by omega
  have hb3 : ¬ ((k : Int) = (k : Int) + 1) := by omega
  have hb4 : IntKind.i64.wrap ((k : Int) + 1) = (k : Int) + 1 := by rw [IntKind.wrap_i64]; omega
  have htn : ((k : Int) + 1).toNat = k + 1 := by omega
  go_enter Try.func32, Try.ntmps32
  go_wp2_with fail
  go_region_law_o (refine step_append_runI rfl (.tmp 22) (.tmp 25) 22 22 rfl (.slice (some ⟨g, 0, none⟩) k cap) (.slice (some ⟨g, (k + 1) * 2, none⟩) (m - k) (cap - (k + 1))) (by simp [Act.eval, Act.put]) (by simp [Act.eval, Act.put]) (hap'.out 22) ?_)
  have hc2 := hcl'.out 0
  go_wp2
  go_ret
  exact ⟨rfl, hfin.out⟩
end Go.Proofs.Ythoimnockinfbaa.Pr
