import Derived.Test.YtioglahnliajlaaWAll
import Derived.Laws.MakeOwn
import Derived.StillTail
import Derived.StillTactics
import Derived.OrdersIn
import Derived.TacticsIn
import Derived.RangeFuncCalls
set_option linter.unusedVariables false
set_option linter.unusedSimpArgs false

/-! A make of no elements, with a capacity. -/
namespace Go.Proofs.YtioglahnliajlaaW.PrintWords
open Go.RowKit
namespace Kd
variable {α : Type} {P : Program} {ops : Array Oper} {Q : Exit → Act → World → Prop} {rest : List Oper} {a : Act} {W : World} {o : Oper}
theorem R_make0 (d : Kd α) {w0 W : World} (base e : Nat) (hgd : o.guard = none) {N : Tmp} (_hd : o.dst = some N) (t : TypeId) (x y : Operand) (ho : o.op = .makeSlice t x y) (c : Int) (hx : a.eval x = .int .i64 0) (hy : a.eval y = .int .i64 c)
    (ht : P.underlying t = some (.slice e)) (z : Value) (bytes : Nat) (hinfo : (P.info? e).map (fun i => (i.zero, i.size, i.bytes)) = some (some z, d.sz, bytes)) (hb0 : 0 < bytes)
    {ok : Nat → Prop} (hfresh : ok W.heap.size) (h0 : 0 ≤ c) (hl : c.toNat * bytes ≤ 281474976710656) (HB : Below base w0 W) (hbase : base ≤ W.heap.size)
    (h : ∀ v1 w1, d.R e w1 base ok v1 [] → Below base w0 w1 → W.grownBy w1 none → (∃ b, v1.ownBlock = some b ∧ W.heap.size ≤ b) → wpList P ops Q rest (a.put o.dst v1) w1) : wpList P ops Q (o :: rest) a W := by
  obtain ⟨m, rfl⟩ := Int.eq_ofNat_of_zero_le h0
  simp only [Int.toNat_natCast] at hl
  obtain ⟨i0, hi, hzz⟩ := Option.map_eq_some_iff.1 hinfo
  simp only [Prod.mk.injEq] at hzz
  obtain ⟨hz0, hz1, hz2⟩ := hzz
  have hm : m ≤ 281474976710656 := Nat.le_trans (Nat.le_mul_of_pos_right _ hb0) hl
  have hr := run_make (P := P) W t e i0 z ht hi hz0 .i64 .i64 0 (m : Int) (Int.le_refl _) (by omega)
    (by
      have h3 : ((i0.bytes * m : Nat) : Int) ≤ 281474976710656 := by rw [hz2, Nat.mul_comm]; omega
      rwa [Int.natCast_mul] at h3) (by omega)
  simp only [Int.toNat_zero, Int.toNat_natCast] at hr
  refine event_run hgd (v := .slice (some ⟨W.heap.size, 0, none⟩) 0 m) (w1 := W.alloc (.cells (madeCells z.cells (m * i0.size)) e)) ?_ (h _ _ ⟨fun k hk => ?_, [], ?_, ?_⟩ (HB.alloc hbase _) (World.grownBy_alloc W _ none) ⟨W.heap.size, by simp [Value.ownBlock], Nat.le_refl _⟩)
  · simp [execOp, ho, hx, hy, hr]
  · have : W.heap.size = k := by simpa [Value.ownBlock] using hk
    subst this
    exact hfresh
  · rw [← hz1]
    exact World.ownsRow_made W _ m hbase (by simp [maxLen]; omega) (size_madeCells _ _)
  · exact ⟨by simp, fun j p hj => by simp at hj⟩
theorem R_make0_step {Kc : Act → World → Prop} (d : Kd α) {w0 W : World} (base e : Nat) (hw : Region.wanted o (yielded ops a.tmps) = true) {N : Tmp} (_hd : o.dst = some N) (t : TypeId) (x y : Operand) (ho : o.op = .makeSlice t x y) (c : Int) (hx : a.eval x = .int .i64 0) (hy : a.eval y = .int .i64 c)
    (ht : P.underlying t = some (.slice e)) (z : Value) (bytes : Nat) (hinfo : (P.info? e).map (fun i => (i.zero, i.size, i.bytes)) = some (some z, d.sz, bytes)) (hb0 : 0 < bytes)
    {ok : Nat → Prop} (hfresh : ok W.heap.size) (h0 : 0 ≤ c) (hl : c.toNat * bytes ≤ 281474976710656) (HB : Below base w0 W) (hbase : base ≤ W.heap.size)
    (h : ∀ v1 w1, d.R e w1 base ok v1 [] → Below base w0 w1 → W.grownBy w1 none → (∃ b, v1.ownBlock = some b ∧ W.heap.size ≤ b) → Kc (a.put o.dst v1) w1) : if Region.wanted o (yielded ops a.tmps) = true then Oper.wp P o a W Kc Q else Kc (a.put o.dst undef) W := by
  obtain ⟨m, rfl⟩ := Int.eq_ofNat_of_zero_le h0
  simp only [Int.toNat_natCast] at hl
  obtain ⟨i0, hi, hzz⟩ := Option.map_eq_some_iff.1 hinfo
  simp only [Prod.mk.injEq] at hzz
  obtain ⟨hz0, hz1, hz2⟩ := hzz
  have hm : m ≤ 281474976710656 := Nat.le_trans (Nat.le_mul_of_pos_right _ hb0) hl
  have hr := run_make (P := P) W t e i0 z ht hi hz0 .i64 .i64 0 (m : Int) (Int.le_refl _) (by omega)
    (by
      have h3 : ((i0.bytes * m : Nat) : Int) ≤ 281474976710656 := by rw [hz2, Nat.mul_comm]; omega
      rwa [Int.natCast_mul] at h3) (by omega)
  simp only [Int.toNat_zero, Int.toNat_natCast] at hr
  refine event_step hw (v := .slice (some ⟨W.heap.size, 0, none⟩) 0 m) (w1 := W.alloc (.cells (madeCells z.cells (m * i0.size)) e)) ?_ (h _ _ ⟨fun k hk => ?_, [], ?_, ?_⟩ (HB.alloc hbase _) (World.grownBy_alloc W _ none) ⟨W.heap.size, by simp [Value.ownBlock], Nat.le_refl _⟩)
  · simp [execOp, ho, hx, hy, hr]
  · have : W.heap.size = k := by simpa [Value.ownBlock] using hk
    subst this
    exact hfresh
  · rw [← hz1]
    exact World.ownsRow_made W _ m hbase (by simp [maxLen]; omega) (size_madeCells _ _)
  · exact ⟨by simp, fun j p hj => by simp at hj⟩
end Kd
end Go.Proofs.YtioglahnliajlaaW.PrintWords

/-! A region that draws its order, reads first and ends in one forced run of operations: walked in one order, inside the wide fence (so that a call of yield may stand in the end). -/
namespace Go.Proofs.Ytioglahnliajlaa.TailIn
open Go
variable {P : Program} {ops : Array Oper} {md : Region.Mode} {w : World} {n : Nat}

theorem wpIn_of_still {o : Oper} {a : Act} {K : Act → Prop} {K' : Act → World → Prop} {Q' : Exit → Act → World → Prop} (h : ∀ a, K a → K' a w) (hh : o.still P a w K) : o.wpIn Fence.wide n P a w K' Q' := by
  unfold Oper.still at hh
  refine ⟨fun _ _ => trivial, ?_⟩
  show Oper.uponIn Fence.wide n P o a K' Q' (Sem.run P (execOp a.eval o) w)
  generalize (execOp a.eval o).run P w = r at *
  cases r with
  | ok x w' =>
    cases x <;> simp only [Oper.stillUpon] at hh <;> simp only [Oper.uponIn]
    case enter f args =>
      obtain ⟨rfl, v, hc, hn⟩ := hh
      exact ⟨(fun h => by cases h), callsIn_wide.2 (hc.mono fun e w'' ⟨he, hw⟩ => by subst he; subst hw; exact h _ hn)⟩
    all_goals (obtain ⟨rfl, h2⟩ := hh; exact h _ h2)
  | halt x w' => simp only [Oper.stillUpon] at hh

theorem wpOpIn_of_stOp {i : Nat} {a : Act} {K : Act → Prop} {K' : Act → World → Prop} {Q' : Exit → Act → World → Prop} (h : ∀ a, K a → K' a w) (hh : stOp P ops w i K a) : wpOpIn Fence.wide n P ops Q' i K' a w := by
  unfold stOp at hh
  unfold wpOpIn
  split
  · rename_i ho; simp only [ho] at hh; exact h _ hh
  · rename_i o ho
    simp only [ho] at hh
    split
    · rename_i hw; simp only [hw, if_true] at hh; exact wpIn_of_still h hh
    · rename_i hw; simp only [hw] at hh; exact ⟨fun _ _ => trivial, h _ hh⟩

theorem wpAnyIn_of_head {m g : Nat} {L : Array Bool → Act → Prop} {Q' : Exit → Act → World → Prop} (hL : ∀ listed a, L listed a → wpAnyIn Fence.wide n P md ops Q' g listed a w) :
    ∀ (f : Nat) (listed : Array Bool) (a : Act), wpAnyL P md ops w m L f listed a → wpAnyIn Fence.wide n P md ops Q' (f + g) listed a w
  | 0, listed, a, h => by rw [Nat.zero_add]; exact hL _ _ h
  | f + 1, listed, a, h => by
    rw [show f + 1 + g = (f + g) + 1 by omega]
    exact ⟨fun h0 => absurd h0 h.1, fun i hi => wpOpIn_of_stOp (fun a' h' => wpAnyIn_of_head hL f _ a' h') (h.2 i hi).2⟩

theorem wpAnyIn_of_seq {Q' : Exit → Act → World → Prop} : ∀ (l : List Oper) (k : Nat) (listed : Array Bool) (a : Act) (w : World), (∀ j, l[j]? = ops[k + j]?) →
    Region.seqB md ops l.length k listed = true → wpListIn Fence.wide n P ops Q' l a w → wpAnyIn Fence.wide n P md ops Q' l.length listed a w
  | [], _, _, _, _, _, hB, h => ⟨by simpa [Region.seqB] using hB, h⟩
  | o :: l, k, listed, a, w, hl, hB, h => by
    have h0 : ops[k]? = some o := by simpa using (hl 0).symm
    simp only [List.length_cons, Region.seqB, Bool.and_eq_true, decide_eq_true_eq] at hB
    refine ⟨fun h1 => (by rw [hB.1] at h1; cases h1), fun i hi => ?_⟩
    rw [hB.1] at hi
    have hik : i = k := by simpa using hi
    subst hik
    have hw : wpOpIn Fence.wide n P ops Q' i (wpListIn Fence.wide n P ops Q' l) a w := by unfold wpOpIn; simp only [h0]; exact h
    exact wpOpIn_mono (fun a' w' h' => wpAnyIn_of_seq l (i + 1) _ a' w' (fun j => by have := hl (j + 1); simpa [Nat.add_assoc, Nat.add_comm 1 j] using this) hB.2 h') hw

theorem wpIn_region_still_tail {id : Nat} {Q : Exit → Act → World → Prop} {a : Act} {w : World} {l : List Oper} (m : Nat) (hm : P.follows .mixedOrders = true) (hB : Region.lexTailB .any l.toArray m = true)
    (h : wpStill P l.toArray { w with drawn := w.drawn + 1 } (fun a' => wpListIn Fence.wide n P l.toArray Q (l.drop m) a' { w with drawn := w.drawn + 1 }) (l.take m) a) : (Code.region id l.toArray true).wpIn Fence.wide n P Q a w := by
  simp only [Region.lexTailB, Bool.and_eq_true, decide_eq_true_eq] at hB
  obtain ⟨⟨⟨⟨hsel, hn⟩, hs⟩, hc⟩, hlex⟩ := hB
  have hn' : m < l.length := by simpa using hn
  have htl : (l.take m).length = m := by simp; omega
  have hdl : (l.drop m).length = l.toArray.size - m := by simp
  have inv0 : HeadInv .any l.toArray m (Array.replicate l.toArray.size false) :=
    ⟨by simp, fun j oj _ hl => (by rw [getD_replicate_false] at hl; cases hl), fun t _ ht => getD_in (by simpa using ht) (getD_replicate_false _ _)⟩
  have H := wpAnyL_lex (md := .any) (g := l.toArray.size - m) hsel hs hc hn (l.take m) 0 _ a (fun j hj => by
    have hj' : j < m := by rw [htl] at hj; exact hj
    simp [hj']) (by simpa using htl) inv0 (by rw [htl]; exact hlex) h
  refine wpIn_region_any hm ?_
  have := wpAnyIn_of_head (n := n) (Q' := Q) (g := l.toArray.size - m) (fun listed a' hL => by
    have := wpAnyIn_of_seq (n := n) (md := .any) (Q' := Q) (l.drop m) m listed a' { w with drawn := w.drawn + 1 } (fun j => by simp [List.getElem?_drop]) (by rw [hdl]; exact hL.1) hL.2
    rwa [hdl] at this) _ _ _ H
  rw [htl, show m + (l.toArray.size - m) = l.toArray.size by omega] at this
  exact this
theorem tail_in {id : Nat} {Q : Exit → Act → World → Prop} {a : Act} {w : World} {l : List Oper} (m : Nat) (hm : P.follows .mixedOrders = true) (hB : Region.lexTailB .any l.toArray m = true)
    (h : wpStill P l.toArray w.drew (fun a' => wpListIn Fence.wide n P l.toArray Q (l.drop m) a' w.drew) (l.take m) a) : (Code.region id l.toArray true).wpIn Fence.wide n P Q a w :=
  wpIn_region_still_tail m hm hB h
end Go.Proofs.Ytioglahnliajlaa.TailIn

/-! A region that draws its order, reads first and ends in one forced run of operations: walked in one order, inside the wide fence (so that a call of yield may stand in the end). -/
namespace Go.Proofs.Ytioglahnliajlaa.TailIn2
open Go
variable {P : Program} {ops : Array Oper} {md : Region.Mode} {w : World} {n lp : Nat}

/-- No operation defers. -/
def NoDefer (ops : Array Oper) : Bool := ops.all fun o => match o.op with | .defer _ => false | _ => true
theorem noDefer_spec {i : Nat} {o : Oper} (h : NoDefer ops = true) (ho : ops[i]? = some o) (c : _) : o.op ≠ .defer c := by
  intro e
  unfold NoDefer at h
  rw [Array.all_eq_true] at h
  obtain ⟨hi, rfl⟩ := Array.getElem?_eq_some_iff.1 ho
  have := h i hi
  rw [e] at this
  cases this

theorem wpIn_of_still {o : Oper} (hnd : ∀ c, o.op ≠ .defer c) {a : Act} {K : Act → Prop} {K' : Act → World → Prop} {Q' : Exit → Act → World → Prop} (h : ∀ a, K a → K' a w) (hh : o.still P a w K) : o.wpIn (Fence.wide.inRound lp) n P a w K' Q' := by
  unfold Oper.still at hh
  refine ⟨fun _ _ => trivial, ?_⟩
  rw [Oper.semAt_eq _ _ _ hnd]
  generalize (execOp a.eval o).run P w = r at *
  cases r with
  | ok x w' =>
    cases x <;> simp only [Oper.stillUpon] at hh <;> simp only [Oper.uponIn]
    case enter f args =>
      obtain ⟨rfl, v, hc, hn⟩ := hh
      exact ⟨(fun h => by cases h), CallsIn.inRound lp (callsIn_wide.2 (hc.mono fun e w'' ⟨he, hw⟩ => by subst he; subst hw; exact h _ hn))⟩
    all_goals (obtain ⟨rfl, h2⟩ := hh; exact h _ h2)
  | halt x w' => simp only [Oper.stillUpon] at hh

theorem wpOpIn_of_stOp (hnd : NoDefer ops = true) {i : Nat} {a : Act} {K : Act → Prop} {K' : Act → World → Prop} {Q' : Exit → Act → World → Prop} (h : ∀ a, K a → K' a w) (hh : stOp P ops w i K a) : wpOpIn (Fence.wide.inRound lp) n P ops Q' i K' a w := by
  unfold stOp at hh
  unfold wpOpIn
  split
  · rename_i ho; simp only [ho] at hh; exact h _ hh
  · rename_i o ho
    simp only [ho] at hh
    split
    · rename_i hw; simp only [hw, if_true] at hh; exact wpIn_of_still (noDefer_spec hnd ho) h hh
    · rename_i hw; simp only [hw] at hh; exact ⟨fun _ _ => trivial, h _ hh⟩

theorem wpAnyIn_of_head (hnd : NoDefer ops = true) {m g : Nat} {L : Array Bool → Act → Prop} {Q' : Exit → Act → World → Prop} (hL : ∀ listed a, L listed a → wpAnyIn (Fence.wide.inRound lp) n P md ops Q' g listed a w) :
    ∀ (f : Nat) (listed : Array Bool) (a : Act), wpAnyL P md ops w m L f listed a → wpAnyIn (Fence.wide.inRound lp) n P md ops Q' (f + g) listed a w
  | 0, listed, a, h => by rw [Nat.zero_add]; exact hL _ _ h
  | f + 1, listed, a, h => by
    rw [show f + 1 + g = (f + g) + 1 by omega]
    exact ⟨fun h0 => absurd h0 h.1, fun i hi => wpOpIn_of_stOp hnd (fun a' h' => wpAnyIn_of_head hnd hL f _ a' h') (h.2 i hi).2⟩

theorem wpAnyIn_of_seq {Q' : Exit → Act → World → Prop} : ∀ (l : List Oper) (k : Nat) (listed : Array Bool) (a : Act) (w : World), (∀ j, l[j]? = ops[k + j]?) →
    Region.seqB md ops l.length k listed = true → wpListIn (Fence.wide.inRound lp) n P ops Q' l a w → wpAnyIn (Fence.wide.inRound lp) n P md ops Q' l.length listed a w
  | [], _, _, _, _, _, hB, h => ⟨by simpa [Region.seqB] using hB, h⟩
  | o :: l, k, listed, a, w, hl, hB, h => by
    have h0 : ops[k]? = some o := by simpa using (hl 0).symm
    simp only [List.length_cons, Region.seqB, Bool.and_eq_true, decide_eq_true_eq] at hB
    refine ⟨fun h1 => (by rw [hB.1] at h1; cases h1), fun i hi => ?_⟩
    rw [hB.1] at hi
    have hik : i = k := by simpa using hi
    subst hik
    have hw : wpOpIn (Fence.wide.inRound lp) n P ops Q' i (wpListIn (Fence.wide.inRound lp) n P ops Q' l) a w := by unfold wpOpIn; simp only [h0]; exact h
    exact wpOpIn_mono (fun a' w' h' => wpAnyIn_of_seq l (i + 1) _ a' w' (fun j => by have := hl (j + 1); simpa [Nat.add_assoc, Nat.add_comm 1 j] using this) hB.2 h') hw

theorem wpIn_region_still_tail {id : Nat} {Q : Exit → Act → World → Prop} {a : Act} {w : World} {l : List Oper} (m : Nat) (hm : P.follows .mixedOrders = true) (hnd : NoDefer l.toArray = true) (hB : Region.lexTailB .any l.toArray m = true)
    (h : wpStill P l.toArray { w with drawn := w.drawn + 1 } (fun a' => wpListIn (Fence.wide.inRound lp) n P l.toArray Q (l.drop m) a' { w with drawn := w.drawn + 1 }) (l.take m) a) : (Code.region id l.toArray true).wpIn (Fence.wide.inRound lp) n P Q a w := by
  simp only [Region.lexTailB, Bool.and_eq_true, decide_eq_true_eq] at hB
  obtain ⟨⟨⟨⟨hsel, hn⟩, hs⟩, hc⟩, hlex⟩ := hB
  have hn' : m < l.length := by simpa using hn
  have htl : (l.take m).length = m := by simp; omega
  have hdl : (l.drop m).length = l.toArray.size - m := by simp
  have inv0 : HeadInv .any l.toArray m (Array.replicate l.toArray.size false) :=
    ⟨by simp, fun j oj _ hl => (by rw [getD_replicate_false] at hl; cases hl), fun t _ ht => getD_in (by simpa using ht) (getD_replicate_false _ _)⟩
  have H := wpAnyL_lex (md := .any) (g := l.toArray.size - m) hsel hs hc hn (l.take m) 0 _ a (fun j hj => by
    have hj' : j < m := by rw [htl] at hj; exact hj
    simp [hj']) (by simpa using htl) inv0 (by rw [htl]; exact hlex) h
  refine wpIn_region_any hm ?_
  have := wpAnyIn_of_head hnd (n := n) (Q' := Q) (g := l.toArray.size - m) (fun listed a' hL => by
    have := wpAnyIn_of_seq (n := n) (md := .any) (Q' := Q) (l.drop m) m listed a' { w with drawn := w.drawn + 1 } (fun j => by simp [List.getElem?_drop]) (by rw [hdl]; exact hL.1) hL.2
    rwa [hdl] at this) _ _ _ H
  rw [htl, show m + (l.toArray.size - m) = l.toArray.size by omega] at this
  exact this
theorem tail_in {id : Nat} {Q : Exit → Act → World → Prop} {a : Act} {w : World} {l : List Oper} (m : Nat) (hm : P.follows .mixedOrders = true) (hnd : NoDefer l.toArray = true) (hB : Region.lexTailB .any l.toArray m = true)
    (h : wpStill P l.toArray w.drew (fun a' => wpListIn (Fence.wide.inRound lp) n P l.toArray Q (l.drop m) a' w.drew) (l.take m) a) : (Code.region id l.toArray true).wpIn (Fence.wide.inRound lp) n P Q a w :=
  wpIn_region_still_tail m hm hnd hB h
end Go.Proofs.Ytioglahnliajlaa.TailIn2
