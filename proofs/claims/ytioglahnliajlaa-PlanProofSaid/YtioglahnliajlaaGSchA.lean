import Derived.Test.YtioglahnliajlaaPr2
import Derived.Test.YtioglahnliajlaaPr4
import Derived.Test.YtioglahnliajlaaPr0
import Derived.Test.YtioglahnliajlaaGBits
import Derived.RangeFuncNested
import Derived.RangeFuncBound
import Derived.RangeFuncCalls
import Derived.RangeFuncLeaves
import Derived.Shelf.Abstract
import Derived.Shelf.RegionOpen
import Derived.OwnWalkIn
import Derived.TacticsInMore
import Derived.LoopNIn
import Derived.LoopIn
import Derived.Sort.QuietIn
set_option linter.unusedVariables false
set_option linter.unusedSimpArgs false

/-! What the program takes for jobs and a supply. -/
namespace Go.Proofs.Ytioglahnliajlaa.Pr
open Go.RowKit Go.Proofs.YtioglahnliajlaaW.PrintWords Go.Proofs.YtioglahnliajlaaW.PrintLast Go.Proofs.YtioglahnliajlaaW.PrintMore

def jobOk (n : Nat) (j : S38) : Prop := (0 ≤ j.f0 ∧ j.f0 ≤ j.f1) ∧ j.f1 ≤ n ∧ (0 ≤ j.f2 ∧ j.f2 ≤ 1000) ∧ (0 ≤ j.f3 ∧ j.f3 ≤ 1000) ∧ (1 ≤ j.f4 ∧ j.f4 ≤ 9)
instance (n : Nat) (j : S38) : Decidable (jobOk n j) := by unfold jobOk; infer_instance
def unitOk (x : Int) : Prop := 0 ≤ x ∧ x ≤ 1000
instance (x : Int) : Decidable (unitOk x) := by unfold unitOk; infer_instance
def validOk (jobs : List S38) (sup : List Int) : Prop := (jobs.length ≤ 12 ∧ sup.length ≤ 24) ∧ (∀ x ∈ sup, unitOk x) ∧ ∀ j ∈ jobs, jobOk sup.length j
instance (jobs : List S38) (sup : List Int) : Decidable (validOk jobs sup) := by unfold validOk; infer_instance

theorem in_f (n a b : Int) : plan_in.f n a b = some (decide (a ≤ n ∧ n ≤ b)) := by
  unfold plan_in.f
  by_cases h : n ≥ a
  · rw [if_pos h]; congr 1; simp; omega
  · rw [if_neg h]; congr 1; simp; omega

theorem rd_dropI (l : List Int) (i : Nat) (h : i < l.length) : l.drop i = rd l (i : Int) :: l.drop (i + 1) := by
  rw [List.drop_eq_getElem_cons h]
  simp [rd, List.getD_eq_getElem?_getD, h]
theorem rd_dropJ (l : List S38) (i : Nat) (h : i < l.length) : l.drop i = rd_T38 l (i : Int) :: l.drop (i + 1) := by
  rw [List.drop_eq_getElem_cons h]
  simp [rd_T38, List.getD_eq_getElem?_getD, h]
theorem rd_memJ (l : List S38) (i : Nat) (h : i < l.length) : rd_T38 l (i : Int) ∈ l := by
  unfold rd_T38
  simp [List.getD_eq_getElem?_getD, h]
theorem rd_memI (l : List Int) (i : Nat) (h : i < l.length) : rd l (i : Int) ∈ l := by
  unfold rd
  simp [List.getD_eq_getElem?_getD, h]

theorem valid_l1 (sup : List Int) (jobs : List S38) (hj : jobs.length ≤ 12) (hs : sup.length ≤ 24) : ∀ (d i k : Nat), i + d = jobs.length → d + 1 ≤ k →
    plan_Valid.l1 k sup jobs (jobs.length : Int) (i : Int) = some (decide (∀ j ∈ jobs.drop i, jobOk sup.length j)) := by
  intro d
  induction d with
  | zero =>
    intro i k hi hk
    obtain ⟨k, rfl⟩ : ∃ m, k = m + 1 := ⟨k - 1, by omega⟩
    simp only [plan_Valid.l1]
    rw [if_neg (by omega), List.drop_of_length_le (by omega)]
    simp
  | succ d ih =>
    intro i k hi hk
    obtain ⟨k, rfl⟩ : ∃ m, k = m + 1 := ⟨k - 1, by omega⟩
    simp only [plan_Valid.l1, in_f, Option.bind_some]
    rw [if_pos (by omega), if_pos (by omega), if_pos (by omega), rd_dropJ jobs i (by omega)]
    have hw : wrap64 ((i : Int) + 1) = ((i + 1 : Nat) : Int) := by unfold wrap64; omega
    rw [hw]
    have h := ih (i + 1) k (by omega) (by omega)
    generalize hx : rd_T38 jobs (i : Int) = x at *
    have no : ¬ jobOk sup.length x → ∀ inst : Decidable (∀ j, j ∈ (x :: jobs.drop (i + 1)) → jobOk sup.length j), (some false : Option Bool) = some (@decide _ inst) := fun hn inst => by
      congr 1; symm; rw [decide_eq_false_iff_not]; intro hh; exact hn (hh x (by simp))
    by_cases c1 : 0 ≤ x.f0 ∧ x.f0 ≤ x.f1
    · rw [if_pos (by simpa using c1)]
      by_cases c2 : x.f1 > (sup.length : Int)
      · rw [if_pos c2]; exact no (fun hh => by have := hh.2.1; omega) _
      · rw [if_neg c2]
        by_cases c3 : 0 ≤ x.f2 ∧ x.f2 ≤ 1000
        · rw [if_pos (by simpa using c3)]
          by_cases c4 : 0 ≤ x.f3 ∧ x.f3 ≤ 1000
          · rw [if_pos (by simpa using c4)]
            by_cases c5 : 1 ≤ x.f4 ∧ x.f4 ≤ 9
            · rw [if_pos (by simpa using c5), h]
              have : jobOk sup.length x := ⟨c1, by omega, c3, c4, c5⟩
              congr 1; simp [this]
            · rw [if_neg (by simpa using c5)]; exact no (fun hh => c5 hh.2.2.2.2) _
          · rw [if_neg (by simpa using c4)]; exact no (fun hh => c4 hh.2.2.2.1) _
        · rw [if_neg (by simpa using c3)]; exact no (fun hh => c3 hh.2.2.1) _
    · rw [if_neg (by simpa using c1)]; exact no (fun hh => c1 hh.1) _

theorem valid_l0 (sup : List Int) (jobs : List S38) (hj : jobs.length ≤ 12) (hs : sup.length ≤ 24) : ∀ (d i k : Nat), i + d = sup.length → d + 20 ≤ k →
    plan_Valid.l0 k jobs sup sup (sup.length : Int) (i : Int) = some (decide ((∀ x ∈ sup.drop i, unitOk x) ∧ ∀ j ∈ jobs, jobOk sup.length j)) := by
  intro d
  induction d with
  | zero =>
    intro i k hi hk
    obtain ⟨k, rfl⟩ : ∃ m, k = m + 1 := ⟨k - 1, by omega⟩
    simp only [plan_Valid.l0]
    have h := valid_l1 sup jobs hj hs jobs.length 0 k (by omega) (by omega)
    rw [if_neg (by omega), List.drop_of_length_le (by omega)]
    rw [List.drop_zero] at h
    rw [show (0 : Int) = ((0 : Nat) : Int) from rfl, h]
    simp
  | succ d ih =>
    intro i k hi hk
    obtain ⟨k, rfl⟩ : ∃ m, k = m + 1 := ⟨k - 1, by omega⟩
    simp only [plan_Valid.l0, in_f, Option.bind_some]
    rw [if_pos (by omega), if_pos (by omega), if_pos (by omega), rd_dropI sup i (by omega)]
    have hw : wrap64 ((i : Int) + 1) = ((i + 1 : Nat) : Int) := by unfold wrap64; omega
    rw [hw]
    have h := ih (i + 1) k (by omega) (by omega)
    generalize hx : rd sup (i : Int) = x at *
    by_cases c1 : 0 ≤ x ∧ x ≤ 1000
    · rw [if_pos (by simpa using c1), h]
      have : unitOk x := c1
      congr 1; simp [this]
    · rw [if_neg (by simpa using c1)]
      congr 1; symm; rw [decide_eq_false_iff_not]; intro hh; exact c1 (hh.1 x (by simp))

theorem valid_pf (jobs : List S38) (sup : List Int) (k : Nat) (hk : 100 ≤ k) : plan_Valid.f k jobs sup = some (decide (validOk jobs sup)) := by
  obtain ⟨k, rfl⟩ : ∃ m, k = m + 1 := ⟨k - 1, by omega⟩
  unfold plan_Valid.f
  by_cases c1 : (jobs.length : Int) > 12
  · rw [if_pos c1]; simp only [plan_Valid.j0, if_true]
    congr 1; symm; rw [decide_eq_false_iff_not]; intro h; have := h.1.1; omega
  · rw [if_neg c1]
    simp only [plan_Valid.j0]
    by_cases c2 : (sup.length : Int) > 24
    · rw [if_pos (by simpa using c2)]
      congr 1; symm; rw [decide_eq_false_iff_not]; intro h; have := h.1.2; omega
    · rw [if_neg (by simpa using c2)]
      have h := valid_l0 sup jobs (by omega) (by omega) sup.length 0 k (by omega) (by omega)
      rw [List.drop_zero] at h
      rw [show (0 : Int) = ((0 : Nat) : Int) from rfl, h]
      congr 1
      have : jobs.length ≤ 12 ∧ sup.length ≤ 24 := by omega
      simp [validOk, this]
end Go.Proofs.Ytioglahnliajlaa.Pr

/-! Schedule's closures and its iterator. -/
namespace Go.Proofs.Ytioglahnliajlaa.Pr
open Go.RowKit Go.Proofs.YtioglahnliajlaaW.PrintWords Go.Proofs.YtioglahnliajlaaW.PrintLast Go.Proofs.YtioglahnliajlaaW.PrintMore
attribute [local go_sem] Oper.semAt_some

theorem s1_calls (W : World) (i : Int) (h0 : 0 ≤ i) (h1 : i ≤ 1000) : Calls Try.prog 22 #[.int .i64 i] W fun e W' => e = .returned (.int .i64 (1 + i)) ∧ W = W' := by
  go_enter Try.func22, Try.ntmps22
  go_wp2
  go_ret
  exact ⟨rfl, rfl⟩

theorem s2_calls (W : World) (b2 : Nat) (A : Option Addr) (c J : Nat) (s : Int) (h0 : 0 ≤ s) (h1 : s ≤ 1000) (hJ : J ≤ 1000) (hb : W.heap[b2]? = some (.cells #[.slice A J c] 22 (0, 0))) :
    Calls Try.prog 23 #[.int .i64 s, .pointer (some ⟨b2, 0, none⟩)] W fun e W' => e = .returned (.int .i64 (1 + (J : Int) + s)) ∧ W = W' := by
  have hc := blk_cell hb 0
  simp at hc
  clear hb
  go_enter Try.func23, Try.ntmps23
  go_wp2
  go_ret
  exact ⟨rfl, rfl⟩

theorem edge_info : (Try.prog.info? 49).map (fun i => (i.zero, i.size, i.bytes)) = some (some (.agg #[(.int .i64 0), (.int .i64 0), (.int .i64 0)]), 3, 24) := by kernel_rfl

theorem s3_calls (W : World) (bg base : Nat) (nodes : Int) (v : Value) (es : List S49) (x y z : Int) (hg : W.heap[bg]? = some (.cells #[.int .i64 nodes, v] 47 (0, 0)))
    (HR : Kd.R k49 49 W base (fun _ => True) v es) (hbase : base ≤ W.heap.size) (hl : es.length < 1000000) :
    Calls Try.prog 24 #[.int .i64 x, .int .i64 y, .int .i64 z, .pointer (some ⟨bg, 0, none⟩)] W fun e W' => e = .returned (.tuple #[]) ∧
      ∃ v', W'.heap[bg]? = some (.cells #[.int .i64 nodes, v'] 47 (0, 0)) ∧ Kd.R k49 49 W' base (fun _ => True) v' (es ++ [⟨x, y, z⟩]) ∧
        Kept W W' (fun k => k = bg ∨ some k = v.ownBlock) ∧ ∀ B, B ≤ bg → B ≤ base → Below B W W' := by
  obtain ⟨A, c, rfl, hlc, _⟩ := Kd.R_reads HR
  have hc := blk_cell hg 1
  have hf := blk_frozen hg 1
  have hlt : bg < W.heap.size := blk_lt hg
  have hne := Kd.R_ne HR hg (by decide)
  simp at hc hf
  have HR' := Aside0.mk HR
  have HN := Aside0.mk hne
  have HB := Aside0.mk hg
  clear hg HR hne
  go_enter Try.func24, Try.ntmps24
  go_wp2_with (at_builtin; go_loud (refine Kd.R_append (w0 := W) k49 base rfl _ _ 45 49 (.agg #[(.int .i64 0), (.int .i64 0), (.int .i64 0)]) 24 rfl Try.underlying45 edge_info rfl (by decide) (by decide) (.slice A es.length c) es ⟨x, y, z⟩ [.int .i64 x, .int .i64 y, .int .i64 z] (fun _ => True) (fun _ => False) rfl rfl (k49_mkM W base _ ⟨x, y, z⟩) (fun k h => h.elim) (fun _ _ => trivial) HR'.out (Below.refl _ _) hbase (by omega) ?_; intro v1 w1 hq1 hb1 hg1 hat1; obtain ⟨A1, c1, rfl, hlc1, _⟩ := Kd.R_reads hq1; have hB1 := Aside0.mk ((hg1.block bg hlt HN.out).trans HB.out); have hc1 : w1.cell? ⟨bg, 1, none⟩ = some (.slice A es.length c) := (by simp [World.cell?, hB1.out]); have hf1 : w1.frozen? ⟨bg, 1, none⟩ = false := (by simp [World.frozen?, hB1.out]); have hq1' := Aside0.mk hq1; clear hq1))
  go_end0
  have h2 := blk_set hB1.out 1 (.slice A1 (es ++ [(⟨x, y, z⟩ : S49)]).length c1)
  rw [show es.length + 1 = (es ++ [(⟨x, y, z⟩ : S49)]).length from by simp]
  refine ⟨rfl, _, h2, ?_, ?_, fun B h3 h4 => ?_⟩
  · exact Kd.R_set hq1'.out hB1.out (by decide) 1 _
  · refine Kept.setCell ?_ (.inl (.inl rfl)) _
    exact (Kept.of_grown hg1 (Kept.refl _ _) (fun k h => .inl (.inr h.symm)))
  · exact (hb1.mono h4).setCell h3 _

/-- A job's cells. -/
def jobCells (j : S38) : Array Value := #[.int .i64 j.f0, .int .i64 j.f1, .int .i64 j.f2, .int .i64 j.f3, .int .i64 j.f4]

theorem slots_calls (W : World) (j : S38) : Calls Try.prog 25 #[.agg (jobCells j)] W fun e W' =>
    e = .returned (.func (.func 37) #[] #[.pointer (some ⟨W.heap.size, 0, none⟩)]) ∧ W.alloc (.cells (jobCells j) 38) = W' := by
  unfold jobCells
  go_enter Try.func25, Try.ntmps25
  go_wp2
  go_ret
  exact ⟨rfl, rfl⟩

/-- The slots of a job from its first on. -/
def slotList (f : Int) (n : Nat) : List Int := (List.range n).map (fun d : Nat => f + (d : Int))
theorem slotList_succ (f : Int) (n : Nat) : slotList f (n + 1) = slotList f n ++ [f + (n : Int)] := by simp [slotList, List.range_succ]
theorem slotList_length (f : Int) (n : Nat) : (slotList f n).length = n := by simp [slotList]
theorem slotList_pre (f : Int) (n d : Nat) : slotList f n <+: slotList f (n + d) := by
  induction d with
  | zero => exact List.prefix_refl _
  | succ d ih => rw [← Nat.add_assoc, slotList_succ]; exact ih.trans (List.prefix_append _ _)

/-- What a round keeps: one block. -/
def KeepsB (b : Nat) (W W' : World) : Prop := W.heap.size ≤ W'.heap.size ∧ W'.heap[b]? = W.heap[b]?
theorem KeepsB.trans {b : Nat} {A B C : World} (h : KeepsB b A B) (k : KeepsB b B C) : KeepsB b A C := ⟨Nat.le_trans h.1 k.1, k.2.trans h.2⟩
theorem KeepsB.below {b : Nat} {A B : World} (hb : b < A.heap.size) (h : Below A.heap.size A B) : KeepsB b A B := ⟨h.size, h.block b hb⟩

abbrev Slot (f : Int) (n : Nat) := { s : Int // f ≤ s ∧ s < f + n }

set_option maxRecDepth 100000 in
set_option maxHeartbeats 2000000 in
theorem slots1_stops (m : Nat) (bj : Nat) (j : S38) (n : Nat) (h0 : 0 ≤ j.f0) (hn : j.f1 = j.f0 + n) (hle : j.f1 ≤ 1000) (w : World) (hM : w.heap[bj]? = some (.cells (jobCells j) 38 (0, 0))) :
    SeqStopsK Fence.wide m Try.prog 37 #[.pointer (some ⟨bj, 0, none⟩)] (fun x : Slot j.f0 n => #[.int .i64 x.1]) (KeepsB bj)
      (fun xs => xs.map (·.1) = slotList j.f0 n) (fun xs => xs.map (·.1) <+: slotList j.f0 n) (n + 1) w := by
  intro l J Jx W hW hJ hJx hY hj0
  have hM1 : W.heap[bj]? = some (.cells (jobCells j) 38 (0, 0)) := blk_below hM hW
  have hbl := blk_lt hM1
  have p0 := blk_cell hM1 0
  have p1 := blk_cell hM1 1
  simp [jobCells] at p0 p1
  have hM' := Aside0.mk hM1
  have hY' := Aside0.mk hY
  have hJ' := Aside0.mk hJ
  clear hM1 hY hJ hM hJx
  refine callsIn_of_wp Try.func37 rfl trivial ?_ rfl
  simp only [Try.ntmps37, List.size_toArray, List.length_cons, List.length_nil, Nat.reduceAdd, Nat.reduceSub, Array.replicate_succ, Array.replicate_zero, List.push_toArray, List.append_toArray, List.nil_append, List.cons_append]
  gi_wp2
  gi_loopw [3] (fun t wr => ∃ (i : Nat) (pre : List (Slot j.f0 n)), t = .int .i64 (j.f0 + (i : Int)) ∧ i ≤ n ∧ pre.map (·.1) = slotList j.f0 i ∧ J pre wr ∧ KeepsB bj W wr)
    (fun t _ => (j.f1 - intOf t).toNat)
  case atStart => exact ⟨0, [], by simp, by omega, rfl, hj0, Nat.le_refl _, rfl⟩
  case round =>
    obtain ⟨i, pre, rfl, hi, hpre, hj, hk⟩ := hrel
    have hpre' := Aside0.mk hpre
    have hk' := Aside0.mk hk
    have hMr := hk.2.trans hM'.out
    have q1 := blk_cell hMr 1
    have q1l := blk_lt hMr
    simp [jobCells] at q1
    clear hpre hk hMr
    by_cases hlt : i < n
    · have hlt' : j.f0 + (i : Int) < j.f1 := by omega
      have yields : Aside0 (YieldAt Fence.wide (m - 1) Try.prog l #[.int .i64 (j.f0 + (i : Int))] wr fun e W' =>
          (e = .returned (.bool true) ∧ J (pre ++ [⟨j.f0 + (i : Int), by omega⟩]) W' ∧ KeepsB bj W W') ∨
          (e = .returned (.bool false) ∧ ∃ q : List (Slot j.f0 n), q.map (·.1) <+: slotList j.f0 n ∧ Jx q W')) := ⟨by
        have hplen : pre.length < n + 1 := by
          have h1 : pre.length = (slotList j.f0 i).length := by rw [← hpre'.out, List.length_map]
          rw [slotList_length] at h1
          omega
        obtain ⟨fn, tmps, assign, body, hy, hR⟩ := hY'.out pre ⟨j.f0 + (i : Int), by omega⟩ wr hj hplen
        refine ⟨fn, tmps, assign, body, hy, hR.mono ?_⟩
        rintro e W3 (⟨rfl, hJ3, hk3⟩ | ⟨rfl, hJx3⟩)
        · exact .inl ⟨rfl, hJ3, hk'.out.trans hk3⟩
        · refine .inr ⟨rfl, _, ?_, hJx3⟩
          have := slotList_pre j.f0 (i + 1) (n - (i + 1))
          rw [show i + 1 + (n - (i + 1)) = n by omega, slotList_succ] at this
          simpa [hpre'.out] using this⟩
      gi_wp2
      obtain ⟨fn, tmps, assign, body, hy, hR⟩ := yields.out
      rw [hy]
      refine ⟨(fun h => by cases h), hR.mono ?_⟩
      rintro e W3 (⟨rfl, hJ3, hk3⟩ | ⟨rfl, q, hq, hJx3⟩)
      · have hJ3' := Aside0.mk hJ3
        have hk3' := Aside0.mk hk3
        clear hJ3 hk3 hR hy
        gi_wp2
        refine ⟨⟨i + 1, _, ?_, hlt, ?_, hJ3'.out, hk3'.out⟩, by simp [intOf]; omega⟩
        · congr 1; omega
        · rw [List.map_append, hpre'.out, slotList_succ]; rfl
      · have hq' := Aside0.mk hq
        have hJ3' := Aside0.mk hJx3
        clear hq hJx3 hR hy
        gi_wp2
        refine bodyPost_ret (results_none rfl _ _ _) rfl ?_
        exact ⟨⟨_, rfl⟩, .inr ⟨q, hq'.out, hJ3'.out⟩⟩
    · have hge : i = n := by omega
      have hge' := Aside0.mk hge
      have hlt' : ¬ (j.f0 + (i : Int) < j.f1) := by omega
      clear hge
      gi_wp2
      go_end0
      exact ⟨⟨_, rfl⟩, .inl ⟨pre, (by have h_ := hpre'.out; rw [hge'.out] at h_; simpa using h_), hj⟩⟩
end Go.Proofs.Ytioglahnliajlaa.Pr
