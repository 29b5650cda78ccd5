import Derived.Test.YthoimnockinfbaaPr0
import Derived.Laws.CopyRow
import Derived.Laws.IdiomCopy
import Derived.Laws.MakeOwn
import Derived.Laws.AppendOwn
set_option linter.unusedVariables false
set_option linter.unusedSimpArgs false
/-! Rows whose block is known whole; copy at elements of several cells. -/
namespace Go.Proofs.Ythoimnockinfbaa.Pr
open Go.RowKit Go.Proofs.YthoimnockinfbaaW.PrintWords Go.Proofs.YthoimnockinfbaaW.PrintLast Go.Proofs.YthoimnockinfbaaW.PrintMore

theorem run_copy_wide {P : Program} (w : World) (dT sT ty elem : TypeId) (sz g o dLen dCap : Nat) (a : Addr) (sLen sCap : Nat) (cur : Array Value) (t : TypeId) (cs : List Value)
    (hu : P.underlying dT = some (.slice elem)) (hs : (P.info? elem).map (·.size) = some sz)
    (hg : w.heap[g]? = some (.cells cur t (0, 0))) (hn : cs.length = Nat.min sLen dLen * sz)
    (hsrc : ∀ j v, cs[j]? = some v → w.cell? (a.add j) = some v) (hfit : o + cs.length ≤ cur.size) (h1 : ∀ v ∈ cs, v.oneCell' = true) :
    (Builtin.copy_ #[dT, sT] ty #[.slice (some ⟨g, o, none⟩) dLen dCap, .slice (some a) sLen sCap]).run P w =
      .ok (goInt (Nat.min sLen dLen)) (w.setRow g (cur.toList.take o ++ cs ++ cur.toList.drop (o + cs.length)).toArray) := by
  have hl := run_loadCells_list (P := P) w a cs hsrc
  have hst := run_storeCells_at P g o t cs 0 cur w hg (by simpa using hfit) h1
  cases hq : P.info? elem with
  | none => simp [hq] at hs
  | some i =>
    have hi : i.size = sz := by simpa [hq] using hs
    simp [Builtin.copy_, run_underlying hu, Builtin.lenOf, Builtin.firstCells, sizeOf, typeInfo, hq, hi, ← hn, hl, hst]
theorem run_copy_nothing {P : Program} (w : World) (dT sT ty elem : TypeId) (sz : Nat) (d a : Option Addr) (dLen dCap sLen sCap : Nat) (hu : P.underlying dT = some (.slice elem)) (hs : (P.info? elem).map (·.size) = some sz) (hn : Nat.min sLen dLen = 0) :
    (Builtin.copy_ #[dT, sT] ty #[.slice d dLen dCap, .slice a sLen sCap]).run P w = .ok (goInt 0) w := by
  cases hq : P.info? elem with
  | none => simp [hq] at hs
  | some i =>
    have hl : ∀ (x : Addr), (loadCells x 0).run P w = .ok #[] w := fun x => by simpa using run_loadCells_list (P := P) w x [] (by simp)
    cases d <;> cases a <;> simp [Builtin.copy_, run_underlying hu, Builtin.lenOf, Builtin.firstCells, sizeOf, typeInfo, hq, hn, storeCells, hl]

section
variable {α : Type} {d : Kd α} {f : α → List Value}
theorem flat_length (hf : ∀ x, (f x).length = d.sz) (xs : List α) : (xs.flatMap f).length = xs.length * d.sz := by
  induction xs with
  | nil => simp
  | cons x xs ih => simp [hf, ih, Nat.succ_mul, Nat.add_comm]
theorem flat_part (hf : ∀ x, (f x).length = d.sz) : ∀ (xs : List α) (j : Nat) (x : α), xs[j]? = some x → ((xs.flatMap f).drop (j * d.sz)).take d.sz = f x
  | [], j, x, h => by simp at h
  | y :: xs, 0, x, h => by
    obtain rfl : y = x := by simpa using h
    simp [← hf y]
  | y :: xs, j + 1, x, h => by
    have h' : xs[j]? = some x := by simpa using h
    rw [List.flatMap_cons, Nat.succ_mul, Nat.add_comm, ← List.drop_drop, ← hf y, List.drop_left, hf y]
    exact flat_part hf xs j x h'

/-- What a row reads, cell by cell. -/
theorem C_cells (hK : ∀ w x cs, d.K w x cs → cs = f x) (hf : ∀ x, (f x).length = d.sz) (hz : 0 < d.sz) {w : World} {a : Addr} {n : Nat} {xs : List α} (h : d.C w (some a) n xs) :
    ∀ j v, (xs.flatMap f)[j]? = some v → w.cell? (a.add j) = some v := by
  intro j v hj
  have hlt : j < (xs.flatMap f).length := (List.getElem?_eq_some_iff.1 hj).1
  rw [flat_length hf] at hlt
  have hq : j / d.sz < xs.length := Nat.div_lt_of_lt_mul (by rwa [Nat.mul_comm])
  obtain ⟨ad, e, hc⟩ := h.2.2 (by have := h.1; have := Nat.zero_le (j / d.sz); omega)
  cases e
  obtain ⟨c, hcl, hk, hcell⟩ := hc (j / d.sz) _ (List.getElem?_eq_getElem hq)
  obtain rfl := hK _ _ _ hk
  have hp := flat_part hf xs (j / d.sz) _ (List.getElem?_eq_getElem hq)
  have hm : j % d.sz < d.sz := Nat.mod_lt _ hz
  have hjj : j / d.sz * d.sz + j % d.sz = j := by rw [Nat.mul_comm]; exact Nat.div_add_mod j d.sz
  have := hcell (j % d.sz) v (by
    rw [← hp, List.getElem?_take_of_lt hm, List.getElem?_drop, hjj]; exact hj)
  rwa [hjj] at this

/-- A block whose first cells are a row's is a row of one's own. -/
theorem R_blk (hf : ∀ x, (f x).length = d.sz) {w : World} {base e g cap : Nat} {ok : Nat → Prop} {cur : Array Value} {xs : List α} (hM : ∀ x, d.M w base (fun k => ok k ∧ some k ≠ some g) x (f x)) (hg : w.heap[g]? = some (.cells cur e (0, 0)))
    (hc : cur.toList.take (xs.length * d.sz) = xs.flatMap f) (hb : base ≤ g) (hok : ok g) (hn : xs.length ≤ cap) (hm : cap ≤ maxLen) (hs : cur.size = cap * d.sz) : d.R e w base ok (.slice (some ⟨g, 0, none⟩) xs.length cap) xs := by
  refine ⟨fun k hk => ?_, xs.flatMap f, ⟨flat_length hf xs, .inr ⟨g, cap, cur, rfl, hb, hg, hn, hm, hs, hc⟩⟩, ⟨flat_length hf xs, fun j p hj => ?_⟩⟩
  · have : g = k := by simpa [Value.ownBlock] using hk
    subst this; exact hok
  · rw [flat_part hf xs j p hj]; exact hM p

/-- A block whose first cells are a row's reads as it. -/
theorem C_blk (hf : ∀ x, (f x).length = d.sz) {w : World} {e g : Nat} {cur : Array Value} {xs : List α} (hK : ∀ x, d.K w x (f x)) (hg : w.heap[g]? = some (.cells cur e (0, 0)))
    (hc : cur.toList.take (xs.length * d.sz) = xs.flatMap f) (hm : xs.length ≤ 9223372036854775807) : d.C w (some ⟨g, 0, none⟩) xs.length xs := by
  refine ⟨rfl, hm, fun _ => ⟨_, rfl, fun j p hj => ⟨f p, hf p, hK p, fun i u hu => ?_⟩⟩⟩
  have hlt : j < xs.length := (List.getElem?_eq_some_iff.1 hj).1
  have hi : i < d.sz := by rw [← hf p]; exact (List.getElem?_eq_some_iff.1 hu).1
  have hp := flat_part hf xs j p hj
  have hlt2 : j * d.sz + i < xs.length * d.sz := by
    have : (j + 1) * d.sz ≤ xs.length * d.sz := Nat.mul_le_mul_right _ hlt
    rw [Nat.succ_mul] at this; omega
  have h2 : cur.toList[j * d.sz + i]? = some u := by
    rw [← List.getElem?_take_of_lt hlt2, hc, ← List.getElem?_drop, ← List.getElem?_take_of_lt hi, hp]; exact hu
  have h3 : cur[j * d.sz + i]? = some u := by simpa using h2
  have := blk_cell hg (j * d.sz + i)
  rw [h3] at this
  have e1 : (Addr.add ⟨g, 0, none⟩ (j * d.sz + i)) = ⟨g, j * d.sz + i, none⟩ := by
    generalize j * d.sz + i = m
    by_cases h0 : m = 0 <;> simp [Addr.add, h0]
  rw [e1]; exact this
end

theorem make_wide {P : Program} (t e : TypeId) (z : Value) (sz bytes : Nat) (ht : P.underlying t = some (.slice e)) (hinfo : (P.info? e).map (fun i => (i.zero, i.size, i.bytes)) = some (some z, sz, bytes))
    (l c : Nat) (hlc : l ≤ c) (hn : c * bytes ≤ 281474976710656) (hc : c ≤ 281474976710656) :
    ∀ W : World, (Instr.makeSlice t (.int .i64 (l : Int)) (.int .i64 (c : Int))).run P W = .ok (.slice (some ⟨W.heap.size, 0, none⟩) l c) (W.alloc (.cells (madeCells z.cells (c * sz)) e)) := by
  intro W
  obtain ⟨i0, hi, hzz⟩ := Option.map_eq_some_iff.1 hinfo
  simp only [Prod.mk.injEq] at hzz
  obtain ⟨hz0, hz1, hz2⟩ := hzz
  have hr := run_make (P := P) W t e i0 z ht hi hz0 .i64 .i64 (l : Int) (c : Int) (by omega) (by omega)
    (by
      have h3 : ((i0.bytes * c : Nat) : Int) ≤ 281474976710656 := by rw [hz2, Nat.mul_comm]; omega
      rwa [Int.natCast_mul] at h3) (by omega)
  simpa [hz1] using hr

section
variable {α : Type} {d : Kd α} {f : α → List Value}
/-- A make with room, and a copy into it. -/
theorem copied_run {P : Program} (hK : ∀ w x cs, d.K w x cs → cs = f x) (hf : ∀ x, (f x).length = d.sz) (h1 : ∀ x, ∀ v ∈ f x, v.oneCell' = true) (hz : 0 < d.sz) (dT sT ty e : TypeId) (W : World) (A : Option Addr) (n c cap m : Nat) (z : Array Value) (xs : List α)
    (hu : P.underlying dT = some (.slice e)) (hs : (P.info? e).map (·.size) = some d.sz) (hC : d.C W A n xs) (hcap : n ≤ cap) (hm : m = cap * d.sz) :
    ∃ (W2 : World) (rest : List Value), (Builtin.copy_ #[dT, sT] ty #[.slice (some ⟨W.heap.size, 0, none⟩) n cap, .slice A n c]).run P (W.alloc (.cells (madeCells z m) e)) = .ok (goInt n) W2 ∧
      W2.heap[W.heap.size]? = some (.cells (xs.flatMap f ++ rest).toArray e (0, 0)) ∧ rest.length = (cap - n) * d.sz ∧ Below W.heap.size W W2 ∧ W2.heap.size = W.heap.size + 1 := by
  have hx := hC.1
  have hb1 : Below W.heap.size W (W.alloc (.cells (madeCells z m) e)) := below_alloc (Below.refl _ _) _
  have hg := blk_new W (.cells (madeCells z m) e)
  have hsub : (cap - n) * d.sz = cap * d.sz - n * d.sz := Nat.sub_mul _ _ _
  have hle : n * d.sz ≤ cap * d.sz := Nat.mul_le_mul_right _ hcap
  rcases Nat.eq_zero_or_pos n with h0 | h0
  · subst h0
    have hxs : xs = [] := List.length_eq_zero_iff.1 hx
    subst hxs
    refine ⟨_, (madeCells z m).toList, run_copy_nothing _ dT sT ty e d.sz _ A 0 cap 0 c hu hs rfl, ?_, ?_, hb1, World.size_alloc _ _⟩
    · simpa using hg
    · simp [size_madeCells, hm]
  · obtain ⟨a, rfl, _⟩ := hC.2.2 h0
    have hC1 := Kd.C_below hC hb1
    have hcl := C_cells hK hf hz hC1
    have hfl := flat_length hf xs
    have hr := run_copy_wide (P := P) (W.alloc (.cells (madeCells z m) e)) dT sT ty e d.sz W.heap.size 0 n cap a n c (madeCells z m) e (xs.flatMap f) hu hs hg (by rw [hfl, hx]; simp) hcl (by simp [size_madeCells]; rw [← List.length_flatMap, hfl, hx, hm]; exact hle)
      (fun v hv => by obtain ⟨x, _, hx2⟩ := List.mem_flatMap.1 hv; exact h1 x v hx2)
    refine ⟨_, (madeCells z m).toList.drop (n * d.sz), by rw [show (Nat.min n n) = n from Nat.min_self n] at hr; exact hr, ?_, ?_, ?_, ?_⟩
    · rw [setRow_heap _ _ _ _ _ _ hg]
      simp [hfl, hx]
    · simp [size_madeCells, hm, hsub]
    · refine hb1.trans ⟨rfl, rfl, rfl, by simp, fun k hk => setRow_other _ _ k _ (by omega)⟩
    · simp
end

theorem run_append_wide {P : Program} (w : World) (t ty e : TypeId) (sz : Nat) (ht : P.underlying t = some (.slice e)) (hs : (P.info? e).map (·.size) = some sz)
    (g sLen sCap : Nat) (cur : Array Value) (hg : w.heap[g]? = some (.cells cur e (0, 0)))
    (a : Addr) (m c : Nat) (news : List Value) (hl : news.length = m * sz) (hnews : ∀ j u, news[j]? = some u → w.cell? (a.add j) = some u) (h1 : ∀ u ∈ news, u.oneCell' = true)
    (hroom : sLen + m ≤ sCap) (hfit : sLen * sz + news.length ≤ cur.size) :
    (Builtin.append_ #[t, t] ty #[.slice (some ⟨g, 0, none⟩) sLen sCap, .slice (some a) m c]).run P w =
      .ok (.slice (some ⟨g, 0, none⟩) (sLen + m) sCap) (w.setRow g (cur.toList.take (sLen * sz) ++ news ++ cur.toList.drop (sLen * sz + news.length)).toArray) := by
  cases hq : P.info? e with
  | none => simp [hq] at hs
  | some i =>
    obtain rfl : i.size = sz := by simpa [hq] using hs
    exact run_append_room w t ty e i ht hq g sLen sCap cur hg a m c news hl hnews h1 hroom hfit

theorem wpList_append_runI {P : Program} (w : World) {ops : Array Oper} {rest : List Oper} {o : Oper} {a : Act} {Q : Exit → Act → World → Prop} (hgd : o.guard = none) (d s : Operand) (t t' : TypeId)
    (ho : o.op = .call { callee := .builtin .append, args := #[d, s], argTypes := #[t, t'] }) (v u : Value) (hd : a.eval d = v) (hs : a.eval s = u) {v' : Value} {w' : World}
    (hr : (Builtin.append_ #[t, t'] o.type #[v, u]).run P w = .ok v' w') (h : wpList P ops Q rest (a.put o.dst v') w') : wpList P ops Q (o :: rest) a w :=
  wpList_plain hgd fun _ hK => by
    unfold Oper.wp execOp
    simp only [ho, resolve, invoke, builtin, Sem.run_bind, Sem.run_pure, Result.andThen_ok, List.map_toArray, List.map_cons, List.map_nil, hd, hs, hr]
    exact hK _ _ h

theorem grown_setRow (W : World) (g : Nat) (cs : Array Value) : W.grownBy (W.setRow g cs) (some g) := ⟨rfl, rfl, rfl, by simp, fun k _ hk => setRow_other W g k cs (fun e => hk (by rw [e]))⟩
/-- The cells of a block, from a place on. -/
theorem cells_of_blk {w : World} {g : Nat} {t : TypeId} {cs : List Value} (h : w.heap[g]? = some (.cells cs.toArray t (0, 0))) (o : Nat) : ∀ j v, (cs.drop o)[j]? = some v → w.cell? ((⟨g, o, none⟩ : Addr).add j) = some v := by
  intro j v hj
  have := blk_cell h (o + j)
  rw [List.getElem?_drop] at hj
  simp only [List.getElem?_toArray, hj] at this
  have e1 : ((⟨g, o, none⟩ : Addr).add j) = ⟨g, o + j, none⟩ := by
    by_cases h0 : j = 0 <;> simp [Addr.add, h0]
  rw [e1]; exact this

theorem step_append_runI {P : Program} {ops : Array Oper} {o : Oper} {a : Act} {w : World} {K : Act → World → Prop} {Q : Exit → Act → World → Prop} {E : Prop}
    (hg : o.guard = none) (d x : Operand) (dT sT : TypeId) (hop : o.op = Op.call { callee := Callee.builtin Builtin.append, args := #[d, x], argTypes := #[dT, sT] })
    (v u : Value) (hd : a.eval d = v) (hx : a.eval x = u) {v' : Value} {w' : World} (hr : (Builtin.append_ #[dT, sT] o.type #[v, u]).run P w = .ok v' w') (hK : K (a.put o.dst v') w') :
    if Region.wanted o (yielded ops a.tmps) = true then Oper.wp P o a w K Q else E := by
  have hw : Region.wanted o (yielded ops a.tmps) = true := by simp [Region.wanted, hg]
  rw [if_pos hw]
  unfold Oper.wp
  simp [execOp, hop, resolve, invoke, builtin, hd, hx, hr, Result.andThen]
  exact hK

/-- clear of one element at the end of a block's elements. -/
theorem run_clear_one {P : Program} (w : World) (t e ty : TypeId) (z : Value) (ht : P.underlying t = some (.slice e)) (hv : ∀ w, (zeroValue e).run P w = .ok z w) (h1 : ∀ v ∈ z.cells.toList, v.oneCell' = true)
    (g o c : Nat) (cur : Array Value) (tt : TypeId) (hg : w.heap[g]? = some (.cells cur tt (0, 0))) (hfit : o + (Builtin.zeroCells z.cells 1).size ≤ cur.size) :
    (Builtin.clear_ #[t] ty #[.slice (some ⟨g, o, none⟩) 1 c]).run P w = .ok (.tuple #[]) (w.setRow g (cur.toList.take o ++ (Builtin.zeroCells z.cells 1).toList ++ cur.toList.drop (o + (Builtin.zeroCells z.cells 1).toList.length)).toArray) := by
  have hst := run_storeCells_at P g o tt (Builtin.zeroCells z.cells 1).toList 0 cur w hg (by simpa using hfit) (fun v hv' => by
    simp [Builtin.zeroCells] at hv'
    obtain ⟨i, hi, rfl⟩ := hv'
    refine h1 _ ?_
    have hm : i % z.cells.size < z.cells.size := Nat.mod_lt _ (by omega)
    rw [getElem!_pos z.cells _ hm]
    simp)
  simp only [Nat.add_zero] at hst
  simp [Builtin.clear_, run_underlying ht, hv]
  rw [hst]
  simp
end Go.Proofs.Ythoimnockinfbaa.Pr
