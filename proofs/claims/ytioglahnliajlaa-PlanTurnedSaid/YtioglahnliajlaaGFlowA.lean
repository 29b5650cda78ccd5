import Derived.Test.YtioglahnliajlaaPr1
import Derived.Test.YtioglahnliajlaaPr2
import Derived.Test.YtioglahnliajlaaPr0
import Derived.MapKept
import Derived.Maps.OwnSet
import Derived.RangeFuncRecord
import Derived.Test.YtioglahnliajlaaGTh
import Derived.LoopTactic
set_option linter.unusedVariables false
set_option linter.unusedSimpArgs false

/-! The queue of the search: put and take. -/
namespace Go.Proofs.Ytioglahnliajlaa.Pr
open Go.RowKit Go.Proofs.YtioglahnliajlaaW.PrintWords Go.Proofs.YtioglahnliajlaaW.PrintLast Go.Proofs.YtioglahnliajlaaW.PrintMore

theorem q_put (W : World) (bq base : Nat) (ok : Nat → Prop) (v : Value) (xs : List Int) (x : Int) (hq : W.heap[bq]? = some (.cells #[v] 79 (0, 0)))
    (hok : ∀ k, ok k → k ≠ bq) (hfresh : ∀ k, W.heap.size ≤ k → ok k)
    (HQ : Kd.Q (Kd.int .i64) 3 W base ok v xs) (hbase : base ≤ W.heap.size) (hl : xs.length < 1000000) :
    Calls Try.prog 46 #[.pointer (some ⟨bq, 0, none⟩), .int .i64 x] W fun e W' => e = .returned (.tuple #[]) ∧
      ∃ v', W'.heap[bq]? = some (.cells #[v'] 79 (0, 0)) ∧ Kd.Q (Kd.int .i64) 3 W' base ok v' (xs ++ [x]) ∧
        Kept W W' (fun k => k = bq ∨ some k = v.ownBlock) ∧ ∀ B, B ≤ bq → B ≤ base → Below B W W' := by
  obtain ⟨A, c, rfl, hlc⟩ := Kd.Q_slice HQ
  have hc : W.cell? ⟨bq, 0, none⟩ = some (.slice A xs.length c) := by simp [World.cell?, hq]
  have hf : W.frozen? ⟨bq, 0, none⟩ = false := by simp [World.frozen?, hq]
  have hqlt : bq < W.heap.size := blk_lt hq
  have HQ' := Aside0.mk HQ
  have HN := Aside0.mk (Kd.Q_away HQ (g := bq) hok)
  have hok' := Aside0.mk hok
  have hfresh' := Aside0.mk hfresh
  have HB := Aside0.mk hq
  clear hq HQ hok hfresh
  go_enter Try.func46, Try.ntmps46
  go_wp2_with (at_builtin; go_loud (refine Kd.Q_append (w0 := W) (Kd.int .i64) base rfl _ _ 23 3 (.int .i64 0) 8 rfl Try.underlying23 info3 rfl (by decide) (by decide) (.slice A xs.length c) xs x [.int .i64 x] ok (fun k => False) rfl rfl rfl (fun k h => h.elim) hfresh'.out HQ'.out (Below.refl _ _) hbase (by omega) ?_; intro v1 w1 hq1 hb1 hg1 hat1; obtain ⟨A1, c1, rfl, hlc1⟩ := Kd.Q_slice hq1; have hB1 := Aside0.mk ((hg1.block bq hqlt HN.out).trans HB.out); have hc1 : w1.cell? ⟨bq, 0, none⟩ = some (.slice A xs.length c) := (by simp [World.cell?, hB1.out]); have hf1 : w1.frozen? ⟨bq, 0, none⟩ = false := (by simp [World.frozen?, hB1.out])))
  go_end0
  have h2 := blk_set hB1.out 0 (.slice A1 (xs ++ [x]).length c1)
  rw [show xs.length + 1 = (xs ++ [x]).length from by simp]
  refine ⟨rfl, _, h2, Kd.Q_far hq1 hok'.out _, ?_, fun B h3 h4 => ?_⟩
  · refine Kept.setCell ?_ (.inl (.inl rfl)) _
    exact (Kept.of_grown hg1 (Kept.refl _ _) (fun k h => .inl (.inr h.symm)))
  · exact (hb1.mono h4).setCell h3 _

/-- What is taken from a queue. -/
theorem q_take (W : World) (bq base : Nat) (ok : Nat → Prop) (v : Value) (x : Int) (xs : List Int) (hq : W.heap[bq]? = some (.cells #[v] 79 (0, 0)))
    (hok : ∀ k, ok k → k ≠ bq) (HQ : Kd.Q (Kd.int .i64) 3 W base ok v (x :: xs)) (hl : xs.length < 1000000) :
    Calls Try.prog 47 #[.pointer (some ⟨bq, 0, none⟩)] W fun e W' => e = .returned (.tuple #[.int .i64 x, .bool true]) ∧
      ∃ v', W'.heap[bq]? = some (.cells #[v'] 79 (0, 0)) ∧ Kd.Q (Kd.int .i64) 3 W' base ok v' xs ∧
        Kept W W' (fun k => k = bq) ∧ ∀ B, B ≤ bq → Below B W W' := by
  obtain ⟨A, c, rfl, hlc⟩ := Kd.Q_slice HQ
  obtain ⟨ad, c0, rfl, _, hK, hcc⟩ := Kd.C_get (Kd.Q_reads' HQ).2.2 (0 : Int) 0 (by omega) (by simp)
  obtain rfl : c0 = [.int .i64 x] := hK
  have hx : W.cell? ad = some (.int .i64 x) := by have := hcc 0 _ rfl; simpa [Addr.add] using this
  have hc : W.cell? ⟨bq, 0, none⟩ = some (.slice (some ad) (x :: xs).length c) := by simp [World.cell?, hq]
  have hf : W.frozen? ⟨bq, 0, none⟩ = false := by simp [World.frozen?, hq]
  have HQ' := Aside0.mk HQ
  have HB := Aside0.mk hq
  have hok' := Aside0.mk hok
  have hlc' : 1 ≤ c := by simp at hlc; omega
  rw [List.length_cons] at hc
  clear hq HQ hcc hlc hok
  go_enter Try.func47, Try.ntmps47
  go_wp2
  all_goals
    go_ret2
    refine ⟨rfl, _, blk_set HB.out 0 _, ?_, Kept.setCell (p := ⟨bq, 0, none⟩) (Kept.refl W (fun k => k = bq)) (.inl rfl) _, fun B h3 => (Below.refl B W).setCell (p := ⟨bq, 0, none⟩) h3 _⟩
    have h := Kd.Q_far (Kd.Q_drop (k := 1) HQ'.out (by simp)) (p := ⟨bq, 0, none⟩) hok'.out
  · rename_i hc1
    have h1 := h (.slice (some ad) xs.length 0)
    subst hc1
    simpa using h1
  · rename_i hc1
    have h1 := h (.slice (some ⟨ad.block, ad.off + 1, none⟩) xs.length (c - 1))
    rw [if_neg hc1] at h1
    simpa [Addr.add, show (Kd.int .i64).sz = 1 from rfl] using h1

theorem q_take_none (W : World) (bq base : Nat) (ok : Nat → Prop) (v : Value) (hq : W.heap[bq]? = some (.cells #[v] 79 (0, 0)))
    (HQ : Kd.Q (Kd.int .i64) 3 W base ok v []) :
    Calls Try.prog 47 #[.pointer (some ⟨bq, 0, none⟩)] W fun e W' => e = .returned (.tuple #[.int .i64 0, .bool false]) ∧ W = W' := by
  obtain ⟨A, c, rfl, hlc⟩ := Kd.Q_slice HQ
  have hc : W.cell? ⟨bq, 0, none⟩ = some (.slice A 0 c) := by simp [World.cell?, hq]
  clear hq HQ
  go_enter Try.func47, Try.ntmps47
  go_wp2
  go_ret2
  exact ⟨rfl, rfl⟩
end Go.Proofs.Ytioglahnliajlaa.Pr

/-! What the search reads of a graph: a work's memory; the node from which a step leads. -/
namespace Go.Proofs.Ytioglahnliajlaa.Pr
open Go.RowKit Go.Proofs.YtioglahnliajlaaW.PrintWords Go.Proofs.YtioglahnliajlaaW.PrintLast Go.Proofs.YtioglahnliajlaaW.PrintMore

/-- A work in memory, its graph. -/
structure Graph0 (W : World) (bw : Nat) (nodes : Int) (A : Option Addr) (c : Nat) (es : List S49) (vf : Value) : Prop where
  blk : W.heap[bw]? = some (.cells #[.int .i64 nodes, .slice A es.length c, vf] 68 (0, 0))
  row : Kd.C k49 W A es.length es

theorem Graph0.cells {W : World} {bw : Nat} {nodes : Int} {A : Option Addr} {c : Nat} {es : List S49} {vf : Value} (h : Graph0 W bw nodes A c es vf) :
    W.cell? ⟨bw, 0, none⟩ = some (.int .i64 nodes) ∧ W.cell? ⟨bw, 1, none⟩ = some (.slice A es.length c) ∧ W.cell? ⟨bw, 2, none⟩ = some vf ∧ bw < W.heap.size :=
  ⟨by simp [World.cell?, h.blk], by simp [World.cell?, h.blk], by simp [World.cell?, h.blk], blk_lt h.blk⟩

theorem cell_blk {W W1 : World} {a : Addr} {v : Value} (h : W.cell? a = some v) (hs : a.block < W.heap.size → W1.heap[a.block]? = W.heap[a.block]?) : W1.cell? a = some v := by
  have := hs (World.block_lt_of_cell? W a h)
  unfold World.cell? at h ⊢
  rw [this]; exact h

theorem C_same {W W1 : World} {A : Option Addr} {n : Nat} {es : List S49} (h : Kd.C k49 W A n es)
    (hs : 0 < n → ∀ ad, A = some ad → ad.block < W.heap.size → W1.heap[ad.block]? = W.heap[ad.block]?) : Kd.C k49 W1 A n es := by
  refine ⟨h.1, h.2.1, fun hn => ?_⟩
  obtain ⟨ad, e, hc⟩ := h.2.2 hn
  refine ⟨ad, e, fun j p hj => ?_⟩
  obtain ⟨c, hl, hK, hcc⟩ := hc j p hj
  refine ⟨c, hl, by rw [k49_open hK]; exact k49_mk W1 p, fun i u hi => cell_blk (hcc i u hi) ?_⟩
  have e1 : ∀ k, (ad.add k).block = ad.block := fun k => by unfold Addr.add; split <;> rfl
  rw [e1]; exact hs hn ad e

def stepV (edge : Int) (back : Bool) (tw room : Int) : Value := .agg #[.int .i64 edge, .bool back, .int .i64 tw, .int .i64 room]

theorem other_calls (W : World) (bw : Nat) (nodes : Int) (A : Option Addr) (c : Nat) (es : List S49) (vf : Value) (h : Graph0 W bw nodes A c es vf)
    (edge : Int) (back : Bool) (tw room : Int) (h0 : 0 ≤ edge) (h1 : edge < es.length) :
    Calls Try.prog 50 #[.pointer (some ⟨bw, 0, none⟩), .agg #[.int .i64 edge, .bool back, .int .i64 tw, .int .i64 room]] W fun e W' =>
      e = .returned (.int .i64 (if back = true then (rd_T49 es edge).f1 else (rd_T49 es edge).f0)) ∧ Below W.heap.size W W' := by
  obtain ⟨c0, c1, _, hb⟩ := h.cells
  obtain ⟨ad, rfl, e0, e1, _⟩ := at_T49 h.row edge h0 h1
  obtain ⟨k, rfl⟩ := Int.eq_ofNat_of_zero_le h0
  simp only [Int.toNat_natCast] at e0 e1
  have hk : k < es.length := by omega
  have had := World.block_lt_of_cell? W _ e0
  have had1 := World.block_lt_of_cell? W _ e1
  generalize hx0 : (rd_T49 es (k : Int)).f0 = x0 at *
  generalize hx1 : (rd_T49 es (k : Int)).f1 = x1 at *
  clear hx0 hx1 h
  cases back
  · go_enter Try.func50, Try.ntmps50
    go_wp2
    go_quiet (fail)
    go_wp2
    go_ret
    exact ⟨rfl, pw_below_drewN (below_alloc (Below.refl _ _) _) _⟩
  · go_enter Try.func50, Try.ntmps50
    go_wp2
    go_quiet (fail)
    go_wp2
    go_ret
    exact ⟨rfl, pw_below_drewN (below_alloc (Below.refl _ _) _) _⟩
end Go.Proofs.Ytioglahnliajlaa.Pr

/-! What is done at each step of a way: the room, and the flow. -/
namespace Go.Proofs.Ytioglahnliajlaa.Pr
open Go.RowKit Go.Proofs.YtioglahnliajlaaW.PrintWords Go.Proofs.YtioglahnliajlaaW.PrintLast Go.Proofs.YtioglahnliajlaaW.PrintMore
attribute [local go_sem] max2_int min2_int max_two min_two

/-- Nothing but the heap has changed. -/
def Silent (W W' : World) : Prop := W'.os = W.os ∧ W'.tape = W.tape ∧ W'.output = W.output
theorem Silent.refl (W : World) : Silent W W := ⟨rfl, rfl, rfl⟩
theorem Silent.trans {W W1 W2 : World} (h : Silent W W1) (k : Silent W1 W2) : Silent W W2 := ⟨k.1.trans h.1, k.2.1.trans h.2.1, k.2.2.trans h.2.2⟩
theorem Silent.below {W W1 W2 : World} {n : Nat} (h : Silent W W1) (k : Below n W1 W2) : Silent W W2 := h.trans ⟨k.os, k.tape, k.output⟩
theorem below_silent {W W' : World} {S : Nat → Prop} {n : Nat} (h : Kept W W' S) (k : Silent W W') (hn : n ≤ W.heap.size) (hS : ∀ k, S k → n ≤ k) : Below n W W' :=
  ⟨k.1, k.2.1, k.2.2, h.1, fun i hi => h.2 i (by omega) (fun hs => by have := hS i hs; omega)⟩

theorem visit_room (W : World) (br : Nat) (r : Int) (hr : W.heap[br]? = some (.cells #[.int .i64 r] 3 (0, 0))) (edge : Int) (back : Bool) (tw room : Int) :
    Calls Try.prog 51 #[.agg #[.int .i64 edge, .bool back, .int .i64 tw, .int .i64 room], .pointer (some ⟨br, 0, none⟩)] W fun e W' =>
      e = .returned (.tuple #[]) ∧ W'.heap[br]? = some (.cells #[.int .i64 (min r room)] 3 (0, 0)) ∧ Kept W W' (fun k => k = br) ∧ Silent W W' := by
  have hc := blk_cell hr 0
  have hf := blk_frozen hr 0
  have hlt := blk_lt hr
  simp at hc
  have HR := Aside0.mk hr
  clear hr
  have e : min r room = if room < r then room else r := by omega
  rw [e]; clear e
  by_cases c : room < r
  all_goals
    go_enter Try.func51, Try.ntmps51
    go_wp2
    go_end0
    refine ⟨rfl, ?_, Kept.alloc (Kept.setCell (p := ⟨br, 0, none⟩) (Kept.refl W (fun k => k = br)) (.inl rfl) _) _, ⟨rfl, rfl, rfl⟩⟩
    have h := blk_alloc (blk_set HR.out 0 (.int .i64 (if room < r then room else r))) (.cells #[.int .i64 edge, .bool back, .int .i64 tw, .int .i64 room] 87)
    first | (rw [if_pos c] at h; simpa using h) | (rw [if_neg (by omega)] at h; simpa using h)

theorem visit_flow (W : World) (bp bw br base : Nat) (A : Option Addr) (c : Nat) (es : List S49) (vf : Value) (fl : List Int) (nodes r : Int) (hw : Graph0 W bw nodes A c es vf)
    (hp : W.heap[bp]? = some (.cells #[.pointer (some ⟨bw, 0, none⟩)] 66 (0, 0))) (hr : W.heap[br]? = some (.cells #[.int .i64 r] 3 (0, 0)))
    (hf : Kd.R (Kd.int .i64) 3 W base (fun k => k ≠ br) vf fl)
    (edge : Int) (back : Bool) (tw room : Int) (h0 : 0 ≤ edge) (h1 : edge < fl.length) (hb : 0 ≤ rd fl edge ∧ rd fl edge ≤ 1000000) (hr0 : 0 ≤ r ∧ r ≤ 1000000) :
    Calls Try.prog 52 #[.agg #[.int .i64 edge, .bool back, .int .i64 tw, .int .i64 room], .pointer (some ⟨bp, 0, none⟩), .pointer (some ⟨br, 0, none⟩)] W fun e W' =>
      e = .returned (.tuple #[]) ∧ Kd.R (Kd.int .i64) 3 W' base (fun k => k ≠ br) vf (fl.set edge.toNat (if back = true then rd fl edge - r else rd fl edge + r)) ∧ Kept W W' (fun k => some k = vf.ownBlock) ∧ Silent W W' := by
  obtain ⟨c0, c1, c2, hblt⟩ := hw.cells
  have hcp := blk_cell hp 0
  have hcr := blk_cell hr 0
  simp at hcp hcr
  have hplt := blk_lt hp
  have hrlt := blk_lt hr
  obtain ⟨g, cap, rfl, hgb, hgl, _⟩ := Kd.R_form hf (by omega)
  obtain ⟨f0, ff⟩ := Kd.R_celln (0 : Int) hf edge h0 h1
  have hgr : g ≠ br := hf.1 g rfl
  obtain ⟨k, rfl⟩ := Int.eq_ofNat_of_zero_le h0
  simp only [Int.toNat_natCast] at f0 ff ⊢
  have hk : k < fl.length := by omega
  have hrd : rdOf 0 fl (k : Int) = rd fl (k : Int) := rfl
  rw [hrd] at f0
  generalize hx : rd fl (k : Int) = x at *
  have HF := Aside0.mk hf
  clear hf hw hp hr hx hrd
  cases back
  · go_enter Try.func52, Try.ntmps52
    go_wp2
    go_region
    go_wp2
    go_end0
    have h := Kd.R_putg (n := fl.length) HF.out (k : Int) (x + r)
    simp only [Int.toNat_natCast] at h
    exact ⟨rfl, Kd.R_alloc h.1 _, Kept.alloc (Kept.of_grown h.2 (Kept.refl W _) (fun j e => .inl e.symm)) _, ⟨h.2.os, h.2.tape, h.2.output⟩⟩
  · go_enter Try.func52, Try.ntmps52
    go_wp2
    go_region
    go_wp2
    go_end0
    have h := Kd.R_putg (n := fl.length) HF.out (k : Int) (x - r)
    simp only [Int.toNat_natCast] at h
    exact ⟨rfl, Kd.R_alloc h.1 _, Kept.alloc (Kept.of_grown h.2 (Kept.refl W _) (fun j e => .inl e.symm)) _, ⟨h.2.os, h.2.tape, h.2.output⟩⟩
end Go.Proofs.Ytioglahnliajlaa.Pr

/-! Maps with whole numbers for keys, whatever the elements are: what a look-up gives, what a new key lays. -/
namespace Go.Proofs.Ytioglahnliajlaa.Pr
open Go.RowKit Go.Proofs.YtioglahnliajlaaW.PrintWords Go.Proofs.YtioglahnliajlaaW.PrintLast Go.Proofs.YtioglahnliajlaaW.PrintMore

/-- The block of a map whose entries came in this order. -/
def MapIs (W : World) (b : Nat) (l : List (Int × Value)) : Prop :=
  ∃ es clock, W.heap[b]? = some (.map es clock) ∧ es.toList.map (fun e => (e.key, e.val)) = l.map (fun p => (Value.int .i64 p.1, p.2))

theorem find_hit {kk : IntKind} {v : Int} {x : Value} : ∀ (l : List (Int × Value)) (es : List MapEntry) (i : Nat), es.map (fun e => (e.key, e.val)) = l.map (fun p => (Value.int .i64 p.1, p.2)) →
    (l.find? (fun p => p.1 == v)).map (·.2) = some x → ∃ j, Instr.findNow (.int kk) (.int .i64 v) es i = some (some (j, x))
  | [], _, _, _, h => by simp at h
  | p :: l, [], _, he, _ => by simp at he
  | p :: l, e :: es, i, he, h => by
    simp only [List.map_cons, List.cons.injEq, Prod.mk.injEq] at he
    obtain ⟨⟨h1, h2⟩, h3⟩ := he
    simp only [Instr.findNow, h1, Instr.sameNow, if_true]
    by_cases c : v = p.1
    · subst c
      simp at h
      exact ⟨i, by simp [h2, h]⟩
    · have c1 : (v == p.1) = false := by simpa using c
      have c2 : (p.1 == v) = false := by simpa using fun x => c x.symm
      rw [c1]
      simp only [List.find?_cons, c2] at h
      exact find_hit l es (i + 1) h3 h

theorem find_miss {kk : IntKind} {v : Int} : ∀ (l : List (Int × Value)) (es : List MapEntry) (i : Nat), es.map (fun e => (e.key, e.val)) = l.map (fun p => (Value.int .i64 p.1, p.2)) →
    (∀ p ∈ l, p.1 ≠ v) → Instr.findNow (.int kk) (.int .i64 v) es i = some none
  | [], [], _, _, _ => rfl
  | [], e :: es, _, he, _ => by simp at he
  | p :: l, [], _, he, _ => by simp at he
  | p :: l, e :: es, i, he, h => by
    simp only [List.map_cons, List.cons.injEq, Prod.mk.injEq] at he
    obtain ⟨⟨h1, h2⟩, h3⟩ := he
    have c1 : (v == p.1) = false := by simpa using fun x => h p (by simp) x.symm
    simp only [Instr.findNow, h1, Instr.sameNow, if_true, c1]
    exact find_miss l es (i + 1) h3 (fun q hq => h q (by simp [hq]))

section
variable {P : Program} {W : World} {b : Nat} {t k e : TypeId} {kk : IntKind}
theorem run_lookup_hit (ht : P.underlying t = some (.map k e)) (hk : P.underlying k = some (.int .i64)) {l : List (Int × Value)} (hm : MapIs W b l) {v : Int} {x : Value}
    (h : (l.find? (fun p => p.1 == v)).map (·.2) = some x) : (Instr.lookup t (.map (some b)) (.int .i64 v) false).run P W = .ok x W := by
  obtain ⟨es, clock, hb, he⟩ := hm
  obtain ⟨j, hj⟩ := find_hit (kk := .i64) l es.toList 0 he h
  unfold Instr.lookup
  simp only [Sem.run_bind, run_underlying ht, Result.andThen]
  simp [Go.MapKept.run_getObj_map hb, Result.andThen, Go.MapKept.run_checkKey hk (k := .int .i64 v) (by simp [Go.MapKept.IsKey]), Go.MapKept.run_findKey hk hj]

theorem run_update_new (ht : P.underlying t = some (.map k e)) (hk : P.underlying k = some (.int .i64)) {l : List (Int × Value)} (hm : MapIs W b l) {v : Int} (x : Value)
    (h : ∀ p ∈ l, p.1 ≠ v) : ∃ o, (Instr.mapUpdate t (.map (some b)) (.int .i64 v) x).run P W = .ok () (W.putObj b o) ∧ MapIs (W.putObj b o) b (l ++ [(v, x)]) := by
  obtain ⟨es, clock, hb, he⟩ := hm
  have hj := find_miss (kk := .i64) l es.toList 0 he h
  refine ⟨.map (es.push { key := .int .i64 v, val := x, born := clock }) (clock + 1), ?_, ?_⟩
  · unfold Instr.mapUpdate
    simp only [Sem.run_bind, run_underlying ht, Result.andThen]
    simp [Go.MapKept.run_getObj_map hb, Result.andThen, Go.MapKept.run_checkKey hk (k := .int .i64 v) (by simp [Go.MapKept.IsKey]), Go.MapKept.run_findKey hk hj, Go.MapKept.run_setObj_map _ hb, World.putObj]
  · refine ⟨_, _, World.putObj_heap_same (Array.getElem?_eq_some_iff.1 hb).1, ?_⟩
    simp [he]

variable {ops : Array Oper} {rest : List Oper} {o : Oper} {a : Act} {Q : Exit → Act → World → Prop}
theorem wpList_lookup_hit (hg : o.guard = none) (m x : Operand) (hop : o.op = Op.lookup t m x false) (ht : P.underlying t = some (.map k e)) (hk : P.underlying k = some (.int .i64))
    {l : List (Int × Value)} (hm : a.eval m = .map (some b)) (hM : MapIs W b l) {v : Int} {y : Value} (hx : a.eval x = .int .i64 v)
    (h : (l.find? (fun p => p.1 == v)).map (·.2) = some y) (hK : wpList P ops Q rest (a.put o.dst y) W) : wpList P ops Q (o :: rest) a W := by
  refine wpList_plain hg fun K' hK' => ?_
  have hrun := run_lookup_hit ht hk hM h
  unfold Oper.wp
  simp [execOp, hop, hm, hx, hrun, Result.andThen]
  exact hK' _ _ hK
end
end Go.Proofs.Ytioglahnliajlaa.Pr

/-! The walk along a way, from the sink back to the source. -/
namespace Go.Proofs.Ytioglahnliajlaa.Pr
open Go.RowKit Go.Proofs.YtioglahnliajlaaW.PrintWords Go.Proofs.YtioglahnliajlaaW.PrintLast Go.Proofs.YtioglahnliajlaaW.PrintMore

def eOf (e : S49) : FlowM.E := (e.f0, e.f1, e.f2)
def esOf (es : List S49) : List FlowM.E := es.map eOf
def valS (s : FlowM.Step) : Value := .agg #[.int .i64 (s.edge : Int), .bool s.back, .int .i64 s.to, .int .i64 s.room]
def byL (l : List (Int × FlowM.Step)) : List (Int × Value) := l.map fun p => (p.1, valS p.2)

theorem way_mono (es : List FlowM.E) (by_ : List (Int × FlowM.Step)) (source : Int) : ∀ (k : Nat) (n : Int) (p : List FlowM.Step), FlowM.way es by_ source k n = some p → FlowM.way es by_ source (k + 1) n = some p
  | 0, _, _, h => by simp [FlowM.way] at h
  | k + 1, n, p, h => by
    unfold FlowM.way at h ⊢
    by_cases c : n = source
    · rw [if_pos c] at h ⊢; exact h
    · rw [if_neg c] at h ⊢
      cases hf : FlowM.find by_ n with
      | none => rw [hf] at h; cases h
      | some s =>
        rw [hf] at h
        simp only at h ⊢
        cases hw : FlowM.way es by_ source k (FlowM.other es s) with
        | none => rw [hw] at h; cases h
        | some q => rw [hw] at h; rw [way_mono es by_ source k _ _ hw]; exact h

theorem way_step {es : List FlowM.E} {by_ : List (Int × FlowM.Step)} {source : Int} {k : Nat} {n : Int} {p : List FlowM.Step} (h : FlowM.way es by_ source k n = some p) (hn : n ≠ source) :
    ∃ s q, FlowM.find by_ n = some s ∧ p = s :: q ∧ FlowM.way es by_ source k (FlowM.other es s) = some q := by
  cases k with
  | zero => simp [FlowM.way] at h
  | succ k =>
    rw [FlowM.way, if_neg hn] at h
    cases hf : FlowM.find by_ n with
    | none => rw [hf] at h; cases h
    | some s =>
      rw [hf] at h
      simp only at h
      cases hw : FlowM.way es by_ source k (FlowM.other es s) with
      | none => rw [hw] at h; cases h
      | some q =>
        rw [hw] at h
        simp only [Option.map_some, Option.some.injEq] at h
        exact ⟨s, q, rfl, h.symm, way_mono _ _ _ _ _ _ hw⟩

theorem way_end {es : List FlowM.E} {by_ : List (Int × FlowM.Step)} {source : Int} {k : Nat} {p : List FlowM.Step} (h : FlowM.way es by_ source k source = some p) : p = [] := by
  cases k with
  | zero => simp [FlowM.way] at h
  | succ k => rw [FlowM.way, if_pos rfl] at h; cases h; rfl

theorem byL_find {by_ : List (Int × FlowM.Step)} {n : Int} {s : FlowM.Step} (h : FlowM.find by_ n = some s) : ((byL by_).find? (fun p => p.1 == n)).map (·.2) = some (valS s) := by
  unfold FlowM.find at h
  induction by_ with
  | nil => simp at h
  | cons p l ih =>
    simp only [byL, List.map_cons, List.find?_cons] at h ⊢
    cases c : (p.1 == n) with
    | true => rw [c] at h; simp at h ⊢; rw [h]
    | false => rw [c] at h; simp at h ⊢; simpa [byL] using ih (by simpa using h)

theorem other_rd (es : List S49) (s : FlowM.Step) (h : s.edge < es.length) :
    FlowM.other (esOf es) s = if s.back = true then (rd_T49 es (s.edge : Int)).f1 else (rd_T49 es (s.edge : Int)).f0 := by
  unfold FlowM.other rd_T49 esOf
  simp [List.getD_eq_getElem?_getD, h, eOf]

/-- The measure: how far it is still. -/
def far (es : List FlowM.E) (by_ : List (Int × FlowM.Step)) (source : Int) (k : Nat) (n : Int) : Nat := ((FlowM.way es by_ source k n).getD []).length

theorem along_calls (W : World) (bk bo bp bb gm bw : Nat) (A : Option Addr) (c : Nat) (es : List S49) (vf : Value) (nodes sink source : Int) (by_ : List (Int × FlowM.Step)) (K : Nat) (p : List FlowM.Step)
    (hk : W.heap[bk]? = some (.cells #[.int .i64 sink] 3 (0, 0))) (ho : W.heap[bo]? = some (.cells #[.int .i64 source] 3 (0, 0)))
    (hp : W.heap[bp]? = some (.cells #[.pointer (some ⟨bw, 0, none⟩)] 66 (0, 0))) (hb : W.heap[bb]? = some (.cells #[.map (some gm)] 69 (0, 0)))
    (hm : MapIs W gm (byL by_)) (hw : Graph0 W bw nodes A c es vf) (hedge : ∀ n s, FlowM.find by_ n = some s → s.edge < es.length)
    (hway : FlowM.way (esOf es) by_ source K sink = some p)
    (gv : Nat) (lb : Array Value) (eg : ∀ args w, (callFunc gv args).run Try.prog w = .ok (.enter gv args) w)
    (J : List FlowM.Step → World → Prop) (S : Nat → Prop) (hS : ∀ k, S k → k ≠ bk ∧ k ≠ bo ∧ k ≠ bp ∧ k ≠ bb ∧ k ≠ gm ∧ k ≠ bw ∧ (0 < es.length → ∀ ad, A = some ad → k ≠ ad.block))
    (hJ : ∀ q W1 W2, J q W1 → Below W1.heap.size W1 W2 → J q W2)
    (hv : ∀ (q : List FlowM.Step) (s : FlowM.Step) (W1 : World), (∃ r, p = q ++ s :: r) → J q W1 → Graph0 W1 bw nodes A c es vf → Kept W W1 S →
      Calls Try.prog gv (#[valS s] ++ lb) W1 fun e W' => e = .returned (.tuple #[]) ∧ J (q ++ [s]) W' ∧ Kept W1 W' S) (h0 : J [] W) :
    Calls Try.prog 49 #[.func (.func gv) #[] lb, .pointer (some ⟨bk, 0, none⟩), .pointer (some ⟨bo, 0, none⟩), .pointer (some ⟨bp, 0, none⟩), .pointer (some ⟨bb, 0, none⟩)] W fun e W' =>
      e = .returned (.tuple #[]) ∧ J p W' ∧ Kept W W' S := by
  have cnt : ∀ W1, Kept W W1 S → W1.cell? ⟨bo, 0, none⟩ = some (.int .i64 source) ∧ W1.cell? ⟨bp, 0, none⟩ = some (.pointer (some ⟨bw, 0, none⟩)) ∧ W1.cell? ⟨bb, 0, none⟩ = some (.map (some gm)) ∧ MapIs W1 gm (byL by_) ∧ Graph0 W1 bw nodes A c es vf := by
    intro W1 hk1
    have hn : ∀ b : Nat, b < W.heap.size → (∀ k, S k → k ≠ b) → W1.heap[b]? = W.heap[b]? := fun b hb h => hk1.2 b hb (fun hs => h b hs rfl)
    obtain ⟨es0, clock, hm1, hm2⟩ := hm
    have e1 := (hn bo (blk_lt ho) (fun k h => (hS k h).2.1)).trans ho
    have e2 := (hn bp (blk_lt hp) (fun k h => (hS k h).2.2.1)).trans hp
    have e3 := (hn bb (blk_lt hb) (fun k h => (hS k h).2.2.2.1)).trans hb
    have e4 := (hn gm (blk_lt hm1) (fun k h => (hS k h).2.2.2.2.1)).trans hm1
    have e5 := (hn bw (blk_lt hw.blk) (fun k h => (hS k h).2.2.2.2.2.1)).trans hw.blk
    refine ⟨by simpa using blk_cell e1 0, by simpa using blk_cell e2 0, by simpa using blk_cell e3 0, ⟨es0, clock, e4, hm2⟩, e5, ?_⟩
    exact C_same hw.row (fun h0 ad had hlt => hn ad.block hlt (fun k h => (hS k h).2.2.2.2.2.2 h0 ad had))
  have ck := blk_cell hk 0
  simp at ck
  have hS' := Aside0.mk hS
  have hv' := Aside0.mk hv
  have cnt' := Aside0.mk cnt
  have hJ' := Aside0.mk hJ
  have hedge' := Aside0.mk hedge
  have hway' := Aside0.mk hway
  clear hS hv cnt hJ hk ho hp hb hm hw hedge hway
  go_enter Try.func49, Try.ntmps49
  go_wp2
  go_loopw [6] (fun t wr => ∃ (n : Int) (q r : List FlowM.Step), t = .int .i64 n ∧ p = q ++ r ∧ FlowM.way (esOf es) by_ source K n = some r ∧ J q wr ∧ Kept W wr S)
    (fun t _ => far (esOf es) by_ source K (intOf t))
  case atStart => exact ⟨sink, [], p, rfl, rfl, hway'.out, h0, Kept.refl _ _⟩
  case round =>
    obtain ⟨n, q, r, rfl, hpq, hw, hj, hkw⟩ := hrel
    obtain ⟨c1, c2, c3, c4, c5⟩ := cnt'.out wr hkw
    have hpq' := Aside0.mk hpq
    have hw' := Aside0.mk hw
    have hm := Aside0.mk c4
    have hg := Aside0.mk c5
    clear hpq hw c4 c5
    by_cases hn : n = source
    · have hne : (n != source) = false := by rw [hn]; simp
      have hn' := Aside0.mk hn
      clear hn
      go_wp2
      go_end0
      have hr := way_end (hn'.out ▸ hw'.out)
      have : p = q := by rw [hpq'.out, hr, List.append_nil]
      exact ⟨rfl, this ▸ hj, hkw⟩
    · have hne : (n != source) = true := by simpa using hn
      obtain ⟨s, r', hs, hr, hw2⟩ := way_step hw'.out hn
      have hs' := Aside0.mk hs
      have hr' := Aside0.mk hr
      have hw2' := Aside0.mk hw2
      clear hs hr hw2 hn
      go_wp2_with (at_lookup; refine wpList_lookup_hit rfl _ _ rfl Try.underlying69 Try.underlying3 rfl hm.out rfl (byL_find hs'.out) ?_)
      refine (hv'.out q s wr ⟨r', by rw [hpq'.out, hr'.out]⟩ hj hg.out hkw).mono ?_
      rintro e w1 ⟨rfl, hj1, hk1⟩
      have hkw1 : Kept W w1 S := hkw.then_ hk1 (fun k h => .inl h)
      obtain ⟨d1, d2, d3, d4, d5⟩ := cnt'.out w1 hkw1
      have hm1 := Aside0.mk d4
      have hg1 := Aside0.mk d5
      clear d4 d5
      have he := hedge'.out n s hs'.out
      go_wp2_with (at_lookup; refine wpList_lookup_hit rfl _ _ rfl Try.underlying69 Try.underlying3 rfl hm1.out rfl (byL_find hs'.out) ?_)
      refine (other_calls w1 bw nodes A c es vf hg1.out s.edge s.back s.to s.room (by omega) (by omega)).mono ?_
      rintro e w2 ⟨rfl, hb2⟩
      have hot := other_rd es s he
      rw [← hot]
      have hkw2 : Kept W w2 S := hkw1.below hb2
      have hj2 := hJ'.out _ w1 w2 hj1 hb2
      have hfar : far (esOf es) by_ source K (FlowM.other (esOf es) s) < far (esOf es) by_ source K n := by
        unfold far; rw [hw'.out, hw2'.out, hr'.out]; simp
      clear hot he
      go_wp2
      go_roundw
      case rel => exact ⟨_, q ++ [s], r', rfl, by rw [hpq'.out, hr'.out]; simp, hw2'.out, hj2, hkw2⟩
      case measure => simpa [intOf] using hfar
end Go.Proofs.Ytioglahnliajlaa.Pr

/-! What the program takes for a graph with two ends; Most as a plain function. -/
namespace Go.Proofs.Ytioglahnliajlaa.Pr
open Go.RowKit Go.Proofs.YtioglahnliajlaaW.PrintWords Go.Proofs.YtioglahnliajlaaW.PrintLast Go.Proofs.YtioglahnliajlaaW.PrintMore
open Go.Proofs.Ytioglahnliajlaa.FlowTheory

def edgeOk (n : Int) (e : S49) : Prop := (0 ≤ e.f0 ∧ e.f0 < n) ∧ (0 ≤ e.f1 ∧ e.f1 < n) ∧ 0 ≤ e.f2 ∧ e.f2 ≤ 1000000
instance (n : Int) (e : S49) : Decidable (edgeOk n e) := by unfold edgeOk; infer_instance
def graphOk (n : Int) (l : List S49) : Prop := (1 ≤ n ∧ n ≤ 64 ∧ l.length ≤ 512) ∧ ∀ e ∈ l, edgeOk n e
instance (n : Int) (l : List S49) : Decidable (graphOk n l) := by unfold graphOk; infer_instance
def endsOk (n : Int) (l : List S49) (s t : Int) : Prop := graphOk n l ∧ (0 ≤ s ∧ s < n) ∧ (0 ≤ t ∧ t < n) ∧ s ≠ t
instance (n : Int) (l : List S49) (s t : Int) : Decidable (endsOk n l s t) := by unfold endsOk; infer_instance

theorem isNode_f (n : Int) (l : List S49) (v : Int) : flow_isNode.f n l v = some (decide (0 ≤ v ∧ v < n)) := by
  unfold flow_isNode.f
  by_cases h : v ≥ 0
  · rw [if_pos h]; congr 1; simp; omega
  · rw [if_neg h]; congr 1; simp; omega

theorem rd_drop (l : List S49) (i : Nat) (h : i < l.length) : l.drop i = rd_T49 l (i : Int) :: l.drop (i + 1) := by
  rw [List.drop_eq_getElem_cons h]
  simp [rd_T49, List.getD_eq_getElem?_getD, h]

theorem valid_loop (n : Int) (l : List S49) (hl : l.length ≤ 512) : ∀ (d i k : Nat), i + d = l.length → d + 1 ≤ k →
    flow_Valid.l0 k l (l.length : Int) (i : Int) n l = some (decide (∀ e ∈ l.drop i, edgeOk n e)) := by
  intro d
  induction d with
  | zero =>
    intro i k hi hk
    obtain ⟨k, rfl⟩ : ∃ m, k = m + 1 := ⟨k - 1, by omega⟩
    simp only [flow_Valid.l0]
    rw [if_neg (by omega), List.drop_of_length_le (by omega)]
    simp
  | succ d ih =>
    intro i k hi hk
    obtain ⟨k, rfl⟩ : ∃ m, k = m + 1 := ⟨k - 1, by omega⟩
    simp only [flow_Valid.l0]
    rw [if_pos (by omega), if_pos (by omega), if_pos (by omega), isNode_f, isNode_f, rd_drop l i (by omega)]
    have hw : wrap64 ((i : Int) + 1) = ((i + 1 : Nat) : Int) := by unfold wrap64; omega
    rw [hw]
    have h := ih (i + 1) k (by omega) (by omega)
    generalize hx : rd_T49 l (i : Int) = x at *
    simp only [Option.bind_some]
    by_cases c1 : 0 ≤ x.f0 ∧ x.f0 < n
    · rw [if_pos (by simpa using c1)]
      by_cases c2 : 0 ≤ x.f1 ∧ x.f1 < n
      · rw [if_pos (by simpa using c2)]
        by_cases c3 : x.f2 < 0
        · rw [if_pos c3]; congr 1; symm; rw [decide_eq_false_iff_not]
          intro h; have := (h x (by simp)).2.2.1; omega
        · rw [if_neg c3]
          by_cases c4 : x.f2 > 1000000
          · rw [if_pos c4]; congr 1; symm; rw [decide_eq_false_iff_not]
            intro h; have := (h x (by simp)).2.2.2; omega
          · rw [if_neg c4, h]
            congr 1
            have : edgeOk n x := ⟨c1, c2, by omega, by omega⟩
            simp [this]
      · rw [if_neg (by simpa using c2)]; congr 1; symm; rw [decide_eq_false_iff_not]
        intro h; exact c2 (h x (by simp)).2.1
    · rw [if_neg (by simpa using c1)]; congr 1; symm; rw [decide_eq_false_iff_not]
      intro h; exact c1 (h x (by simp)).1

theorem valid_f (n : Int) (l : List S49) (k : Nat) (hk : 600 ≤ k) : flow_Valid.f k n l = some (decide (graphOk n l)) := by
  obtain ⟨k, rfl⟩ : ∃ m, k = m + 1 := ⟨k - 1, by omega⟩
  unfold flow_Valid.f
  by_cases c1 : n < 1
  · rw [if_pos c1]; simp only [flow_Valid.j0, if_true]
    congr 1; symm; rw [decide_eq_false_iff_not]; intro h; have := h.1.1; omega
  · rw [if_neg c1]
    by_cases c2 : n > 64
    · rw [if_pos c2]; simp only [flow_Valid.j0, if_true]
      congr 1; symm; rw [decide_eq_false_iff_not]; intro h; have := h.1.2.1; omega
    · rw [if_neg c2]
      simp only [flow_Valid.j0]
      by_cases c3 : (l.length : Int) > 512
      · rw [if_pos (by simpa using c3)]
        congr 1; symm; rw [decide_eq_false_iff_not]; intro h; have := h.1.2.2; omega
      · rw [if_neg (by simpa using c3)]
        have h := valid_loop n l (by omega) l.length 0 k (by omega) (by omega)
        rw [List.drop_zero] at h
        rw [show ((0 : Nat) : Int) = 0 from rfl] at h
        rw [h]
        congr 1
        have : 1 ≤ n ∧ n ≤ 64 ∧ l.length ≤ 512 := by omega
        simp [graphOk, this]

theorem areEnds_f (n : Int) (l : List S49) (s t : Int) (k : Nat) (hk : 600 ≤ k) : flow_areEnds.f k n l s t = some (decide (endsOk n l s t)) := by
  unfold flow_areEnds.f
  rw [valid_f n l k hk, isNode_f, isNode_f]
  simp only [Option.bind_some]
  by_cases c1 : graphOk n l
  · rw [if_pos (by simpa using c1)]
    by_cases c2 : 0 ≤ s ∧ s < n
    · rw [if_pos (by simpa using c2)]
      by_cases c3 : 0 ≤ t ∧ t < n
      · rw [if_pos (by simpa using c3)]
        congr 1
        by_cases e : s = t <;> simp [endsOk, c1, c2, c3, e]
      · rw [if_neg (by simpa using c3)]; congr 1; symm; rw [decide_eq_false_iff_not]; intro h; exact c3 h.2.2.1
    · rw [if_neg (by simpa using c2)]; congr 1; symm; rw [decide_eq_false_iff_not]; intro h; exact c2 h.2.1
  · rw [if_neg (by simpa using c1)]; congr 1; symm; rw [decide_eq_false_iff_not]; intro h; exact c1 h.1

/-- Most, as a plain function. -/
def flow_Most.f (a0_0 : Int) (l0_1 : List S49) (a1 a2 : Int) : Option (Int × List Int × List Bool × Int) :=
  if endsOk a0_0 l0_1 a1 a2 then
    (FlowM.most a0_0.toNat (esOf l0_1) a1 a2 (FlowM.fuel (esOf l0_1)) (List.replicate l0_1.length 0) 0).map fun r => (r.1, r.2.1, r.2.2, 0)
  else some (0, [], [], 1)

theorem frF_of (l : List S49) (i : Nat) (h : i < l.length) : FlowM.frF (esOf l) i = (rd_T49 l (i : Int)).f0 ∧ FlowM.toF (esOf l) i = (rd_T49 l (i : Int)).f1 ∧ FlowM.capF (esOf l) i = (rd_T49 l (i : Int)).f2 := by
  unfold FlowM.frF FlowM.toF FlowM.capF rd_T49 esOf
  simp [List.getD_eq_getElem?_getD, h, eOf]

theorem rd_mem (l : List S49) (i : Nat) (h : i < l.length) : rd_T49 l (i : Int) ∈ l := by
  unfold rd_T49
  simp [List.getD_eq_getElem?_getD, h]

theorem ok_of {n : Int} {l : List S49} (h : graphOk n l) : FlowM.Ok n.toNat (esOf l) := by
  have hlen : (esOf l).length = l.length := by simp [esOf]
  have hn := h.1.1
  refine ⟨fun i hi => ?_, fun i hi => ?_⟩
  · rw [hlen] at hi
    obtain ⟨e1, e2, _⟩ := frF_of l i hi
    have := h.2 _ (rd_mem l i hi)
    rw [e1, e2]
    obtain ⟨⟨a, b⟩, ⟨c, d⟩, _⟩ := this
    omega
  · rw [hlen] at hi
    obtain ⟨_, _, e3⟩ := frF_of l i hi
    have := h.2 _ (rd_mem l i hi)
    rw [e3]
    exact ⟨this.2.2.1, this.2.2.2⟩

/-- What Most gives: a result that proves itself. -/
theorem most_good {n : Int} {l : List S49} {s t : Int} (h : endsOk n l s t) : ∃ a f S, flow_Most.f n l s t = some (a, f, S, 0) ∧ FlowM.Good n.toNat (esOf l) s t a f S := by
  have hn := h.1.1.1
  obtain ⟨a, f, S, e, g⟩ := FlowM.whole (ok_of h.1) (source := s) (sink := t) h.2.1.1 (by have := h.2.1.2; omega) h.2.2.1.1 (by have := h.2.2.1.2; omega) h.2.2.2
  have hlen : (esOf l).length = l.length := by simp [esOf]
  rw [hlen] at e
  exact ⟨a, f, S, by unfold flow_Most.f; rw [if_pos h, e]; rfl, g⟩

theorem most_bad {n : Int} {l : List S49} {s t : Int} (h : ¬ endsOk n l s t) : flow_Most.f n l s t = some (0, [], [], 1) := by
  unfold flow_Most.f; rw [if_neg h]
end Go.Proofs.Ytioglahnliajlaa.Pr
