import Derived.Test.YtioglahnliajlaaGSchA
import Derived.Test.YtioglahnliajlaaGFlowA
import Derived.StillTailTactics
import Derived.LoopN
set_option linter.unusedVariables false
set_option linter.unusedSimpArgs false
/-! Schedule's end: the plan is laid out. -/
namespace Go.Proofs.Ytioglahnliajlaa.Pr
open Go.RowKit Go.Proofs.YtioglahnliajlaaW.PrintWords Go.Proofs.YtioglahnliajlaaW.PrintLast Go.Proofs.YtioglahnliajlaaW.PrintMore
attribute [local go_sem] Oper.semAt_some

theorem w64s {x : Int} (h1 : -1000000000 ≤ x) (h2 : x ≤ 1000000000) : IntKind.i64.wrap x = x := by
  rw [IntKind.wrap_i64]; omega

theorem tail_wp {P : Program} {id : Nat} {Q : Exit → Act → World → Prop} {a : Act} {w : World} {l : List Oper} (m : Nat) (hm : P.follows .mixedOrders = true) (hB : Region.lexTailB .any l.toArray m = true)
    (h : wpStill P l.toArray w.drew (fun a' => wpList P l.toArray Q (l.drop m) a' w.drew) (l.take m) a) : Code.wp P (Code.region id l.toArray true) Q a w :=
  wp_region_still_tail m hm hB h

def codeTl : Code → Code | .seq _ b => b | c => c
def codeHd : Code → Code | .seq a _ => a | c => c
noncomputable def schedCode : Code := Try.f12.body.getD .skip
noncomputable def sched3 : Code := codeTl (codeTl schedCode)
noncomputable def sched9 : Code := codeTl (codeTl (codeTl (codeTl (codeTl (codeTl sched3)))))
noncomputable def sched18 : Code := codeTl sched9
noncomputable def sched23 : Code := codeTl sched18
noncomputable def sched26 : Code := codeTl (codeTl sched23)

/-- The rows' row while it is made. -/
def outCells (g S J i : Nat) : Array Value := ((List.range J).map fun j => if j < i then Value.slice (some ⟨g + 1 + j, 0, none⟩) S S else Value.slice none 0 0).toArray
theorem outCells_set (g S J i : Nat) (h : i < J) : (outCells g S J i).setIfInBounds i (Value.slice (some ⟨g + 1 + i, 0, none⟩) S S) = outCells g S J (i + 1) := by
  apply Array.ext
  · simp [outCells]
  · intro k h1 h2
    simp [outCells] at h1 h2 ⊢
    rw [List.getElem_set]
    by_cases e : i = k
    · subst e; simp
    · rw [if_neg e]
      simp only [List.getElem_map, List.getElem_range]
      by_cases c : k < i
      · rw [if_pos c, if_pos (by omega)]
      · rw [if_neg c, if_neg (by omega)]
theorem outCells_get (g S J i k : Nat) (h : k < J) : (outCells g S J i)[k]? = some (if k < i then Value.slice (some ⟨g + 1 + k, 0, none⟩) S S else Value.slice none 0 0) := by
  simp [outCells, h]

def intCells (l : List Int) : Array Value := (l.map (fun x => Value.int .i64 x)).toArray

/-- What the plan's rows hold when the first i edges have been seen. -/
def matOf (J S : Nat) (sink : Int) (es : List S49) (fl : List Int) : Nat → Nat → List Int
  | 0, _ => List.replicate S 0
  | i + 1, j => let e := rd_T49 es (i : Int)
    if e.f0 ≠ 0 ∧ e.f1 ≠ sink ∧ e.f0 = (j : Int) + 1 then (matOf J S sink es fl i j).set (e.f1 - 1 - (J : Int)).toNat (rd fl (i : Int)) else matOf J S sink es fl i j
theorem matOf_succ (J S : Nat) (sink : Int) (es : List S49) (fl : List Int) (i j : Nat) : matOf J S sink es fl (i + 1) j = if (rd_T49 es (i : Int)).f0 ≠ 0 ∧ (rd_T49 es (i : Int)).f1 ≠ sink ∧ (rd_T49 es (i : Int)).f0 = (j : Int) + 1 then (matOf J S sink es fl i j).set ((rd_T49 es (i : Int)).f1 - 1 - (J : Int)).toNat (rd fl (i : Int)) else matOf J S sink es fl i j := rfl
theorem intCells_set (l : List Int) (i : Nat) (x : Int) : (intCells l).setIfInBounds i (.int .i64 x) = intCells (l.set i x) := by
  simp [intCells, List.map_set]
theorem intCells_get (l : List Int) (i : Nat) (h : i < l.length) : (intCells l)[i]? = some (.int .i64 l[i]) := by simp [intCells, h]
theorem matOf_length (J S : Nat) (sink : Int) (es : List S49) (fl : List Int) (i j : Nat) : (matOf J S sink es fl i j).length = S := by
  induction i with
  | zero => simp [matOf]
  | succ i ih => simp only [matOf]; split <;> simp [ih]

structure RowsAt (W : World) (g J S i : Nat) (f : Nat → List Int) : Prop where
  out : W.heap[g]? = some (.cells (outCells g S J i) 23 (0, 0))
  rows : ∀ j, j < i → W.heap[g + 1 + j]? = some (.cells (intCells (f j)) 3 (0, 0))

theorem RowsAt.congr {W : World} {g J S i : Nat} {f f' : Nat → List Int} (h : RowsAt W g J S i f) (e : ∀ j, f' j = f j) : RowsAt W g J S i f' := ⟨h.out, fun j hj => by rw [e j]; exact h.rows j hj⟩
theorem RowsAt.below {W W1 : World} {g J S i : Nat} {f : Nat → List Int} (h : RowsAt W g J S i f) (hb : Below W.heap.size W W1) : RowsAt W1 g J S i f :=
  ⟨blk_below h.out hb, fun j hj => blk_below (h.rows j hj) hb⟩

theorem ArrayPut {W : World} {g J S a b : Nat} {f f' : Nat → List Int} {x : Int} (h : RowsAt W g J S J f) (ha : a < J) (hf : f' a = (f a).set b x) (ho : ∀ j, j ≠ a → f' j = f j) :
    RowsAt (W.setCell ⟨g + 1 + a, b, none⟩ (.int .i64 x)) g J S J f' := by
  refine ⟨(Below.heap_setCell _ _ _ _ (by show g ≠ g + 1 + a; omega)).trans h.out, fun j hj => ?_⟩
  by_cases e : j = a
  · subst e
    have := blk_set (h.rows j hj) b (.int .i64 x)
    rw [intCells_set] at this
    rw [hf]; exact this
  · rw [ho j e]
    exact (Below.heap_setCell _ _ _ _ (by show g + 1 + j ≠ g + 1 + a; omega)).trans (h.rows j hj)
theorem ssinfo : (Try.prog.info? 23).map (fun i => (i.zero, i.size, i.bytes)) = some (some (.slice none 0 0), 1, 24) := by kernel_rfl
theorem sintinfo : (Try.prog.info? 3).map (fun i => (i.zero, i.size, i.bytes)) = some (some (.int .i64 0), 1, 8) := by kernel_rfl

structure TailMem (W : World) (b2 b5 b10 : Nat) (A0 : Option Addr) (J c0 : Nat) (nodes : Int) (Ae : Option Addr) (ce : Nat) (es : List S49) (A19 : Option Addr) (fl : List Int) : Prop where
  m2 : W.heap[b2]? = some (.cells #[.slice A0 J c0] 22 (0, 0))
  m5 : W.heap[b5]? = some (.cells #[.slice none 0 0, .slice none 0 0] 26 (0, 0))
  m10 : W.heap[b10]? = some (.cells #[.int .i64 nodes, .slice Ae es.length ce] 47 (0, 0))
  e : Kd.C k49 W Ae es.length es
  f : Kd.C (Kd.int .i64) W A19 fl.length fl

theorem TailMem.below {W W1 : World} {b2 b5 b10 : Nat} {A0 : Option Addr} {J c0 : Nat} {nodes : Int} {Ae : Option Addr} {ce : Nat} {es : List S49} {A19 : Option Addr} {fl : List Int} (h : TailMem W b2 b5 b10 A0 J c0 nodes Ae ce es A19 fl)
    (hb : Below W.heap.size W W1) : TailMem W1 b2 b5 b10 A0 J c0 nodes Ae ce es A19 fl :=
  ⟨blk_below h.m2 hb, blk_below h.m5 hb, blk_below h.m10 hb, Kd.C_below h.e hb, Kd.C_below h.f hb⟩

set_option maxRecDepth 1000000 in
set_option maxHeartbeats 4000000 in
theorem sched_tail (W : World) (b2 b5 b10 : Nat) (A0 A1 : Option Addr) (J S c0 c1 : Nat) (nodes sink : Int) (Ae : Option Addr) (ce : Nat) (es : List S49) (A19 : Option Addr) (c19 : Nat) (fl : List Int) (ds : List Deferred)
    (hM : TailMem W b2 b5 b10 A0 J c0 nodes Ae ce es A19 fl) (hJ : J ≤ 1000) (hS : S ≤ 1000) (hl : fl.length = es.length) (hle : es.length ≤ 1000000)
    (hes : ∀ i : Nat, i < es.length → (rd_T49 es (i : Int)).f0 ≠ 0 → (rd_T49 es (i : Int)).f1 ≠ sink → 1 ≤ (rd_T49 es (i : Int)).f0 ∧ (rd_T49 es (i : Int)).f0 ≤ J ∧ 1 + (J : Int) ≤ (rd_T49 es (i : Int)).f1 ∧ (rd_T49 es (i : Int)).f1 ≤ J + S)
    (Q : Exit → Act → World → Prop) (z0 z3 z4 z6 z7 z8 z11 z12 z13 z14 z15 z16 z17 z18 z20 z21 z22 z23 z24 z25 z26 z27 z28 z29 z30 z31 z32 z33 z34 z35 z36 z37 z38 z39 z40 z41 z42 z43 z44 z45 z46 z47 z48 z49 z50 z51 z52 z53 z54 z55 z56 z57 z58 z59 z60 z61 z62 z63 z64 z65 z66 z67 z68 z69 z70 z71 z72 z73 z74 z75 z76 z77 z78 z79 z80 z81 z82 z83 z84 z85 z86 z87 z88 z89 z90 z91 z92 z93 z94 z95 z96 z97 z98 z99 z100 z101 z102 z103 z104 z105 z106 z107 z108 z109 z110 z111 z112 z113 z114 z115 z116 z117 z118 z119 z120 z121 z122 z123 z124 z125 z126 z127 z128 z129 z130 z131 z132 z133 z134 z135 z136 z137 z138 z139 z140 z141 z142 z143 z144 z145 z146 z147 z148 z149 z150 z151 z152 z153 z154 z155 z156 z157 z158 z159 z160 z161 z162 z163 z164 z165 z166 z167 : Value)
    (hQ : ∀ a' W', a'.defers = ds → a'.tmps[4]? = some (.slice (some ⟨W.heap.size, 0, none⟩) J J) → a'.tmps[5]? = some (.pointer (some ⟨b5, 0, none⟩)) → a'.tmps[6]? = some (.int .i64 0) →
      RowsAt W' W.heap.size J S J (matOf J S sink es fl es.length) → W'.heap[b5]? = some (.cells #[.slice none 0 0, .slice none 0 0] 26 (0, 0)) → Kept W W' (fun k => k = b5) → Silent W W' → Q .ret a' W') :
    Code.wp Try.prog sched26 Q ⟨#[z0, (.slice A1 S c1), (.pointer (some ⟨b2, 0, none⟩)), z3, z4, (.pointer (some ⟨b5, 0, none⟩)), z6, z7, z8, (.int .i64 sink), (.pointer (some ⟨b10, 0, none⟩)), z11, z12, z13, z14, z15, z16, z17, z18, (.slice A19 fl.length c19), z20, z21, z22, z23, z24, z25, z26, z27, z28, z29, z30, z31, z32, z33, z34, z35, z36, z37, z38, z39, z40, z41, z42, z43, z44, z45, z46, z47, z48, z49, z50, z51, z52, z53, z54, z55, z56, z57, z58, z59, z60, z61, z62, z63, z64, z65, z66, z67, z68, z69, z70, z71, z72, z73, z74, z75, z76, z77, z78, z79, z80, z81, z82, z83, z84, z85, z86, z87, z88, z89, z90, z91, z92, z93, z94, z95, z96, z97, z98, z99, z100, z101, z102, z103, z104, z105, z106, z107, z108, z109, z110, z111, z112, z113, z114, z115, z116, z117, z118, z119, z120, z121, z122, z123, z124, z125, z126, z127, z128, z129, z130, z131, z132, z133, z134, z135, z136, z137, z138, z139, z140, z141, z142, z143, z144, z145, z146, z147, z148, z149, z150, z151, z152, z153, z154, z155, z156, z157, z158, z159, z160, z161, z162, z163, z164, z165, z166, z167], ds⟩ W := by
  conv => arg 2; whnf
  have hM' := Aside0.mk hM
  have hes' := Aside0.mk hes
  have hQ' := Aside0.mk hQ
  have d2 := blk_cell hM.m2 0
  simp at d2
  clear hM hes hQ
  have hmk := print_make_of 24 23 (.slice none 0 0) 24 Try.underlying24 ssinfo rfl (by decide) J (by omega)
  have hmk2 := print_make_of 23 3 (.int .i64 0) 8 Try.underlying23 sintinfo rfl (by decide) S (by omega)
  go_wp2
  have hW1 := blk_new W (.cells (madeCells #[.slice none 0 0] J) 23)
  have hW1s : (W.alloc (.cells (madeCells #[.slice none 0 0] J) 23)).heap.size = W.heap.size + 1 := World.size_alloc _ _
  have hW1b : Below W.heap.size W (W.alloc (.cells (madeCells #[.slice none 0 0] J) 23)) := below_alloc (Below.refl _ _) _
  have hmade : madeCells #[.slice none 0 0] J = outCells W.heap.size S J 0 := by
    apply Array.ext'
    simp [madeCells, outCells, Nat.mod_one]
  rw [hmade] at hW1 hW1s hW1b ⊢
  generalize W.alloc (.cells (outCells W.heap.size S J 0) 23) = W1 at hW1 hW1s hW1b ⊢
  have h0 := Aside0.mk (And.intro hW1 (And.intro hW1s hW1b))
  clear hW1 hW1s hW1b hmade hmk
  go_loopw [121] (fun t wr => ∃ i : Nat, t = .int .i64 i ∧ i ≤ J ∧ wr.heap.size = W.heap.size + 1 + i ∧ RowsAt wr W.heap.size J S i (fun _ => List.replicate S 0) ∧ Below W.heap.size W wr) (fun t _ => J - (intOf t).toNat)
  case atStart => exact ⟨0, rfl, by omega, h0.out.2.1, ⟨h0.out.1, fun j hj => by omega⟩, h0.out.2.2⟩
  case round =>
    obtain ⟨i, rfl, hi, hsz, hR, hb⟩ := hrel
    have hR' := Aside0.mk hR
    have hb' := Aside0.mk hb
    have d1 := blk_frozen hR.out i
    have hglt := blk_lt hR.out
    clear hR hb
    by_cases hlt : i < J
    · have k1 := blk_alloc hR'.out.out (.cells (madeCells #[.int .i64 0] S) 3)
      have d3 := blk_cell k1 i
      have d4 := blk_frozen k1 i
      rw [outCells_get _ _ _ _ _ hlt, if_neg (by omega)] at d3
      have k3 : Below W.heap.size W (wr.alloc (.cells (madeCells #[.int .i64 0] S) 3)) := hb'.out.alloc (by omega) _
      have k4 : (wr.alloc (.cells (madeCells #[.int .i64 0] S) 3)).heap.size = W.heap.size + 1 + (i + 1) := by rw [World.size_alloc, hsz]; omega
      have k5 : ∀ j, j < i → (wr.alloc (.cells (madeCells #[.int .i64 0] S) 3)).heap[W.heap.size + 1 + j]? = some (.cells (intCells (List.replicate S 0)) 3 (0, 0)) := fun j hj => blk_alloc (hR'.out.rows j hj) _
      have hmade2 : madeCells #[.int .i64 0] S = intCells (List.replicate S 0) := by
        apply Array.ext'
        simp [madeCells, intCells, Nat.mod_one]
        apply List.ext_getElem <;> simp
      have k2 : (wr.alloc (.cells (madeCells #[.int .i64 0] S) 3)).heap[W.heap.size + 1 + i]? = some (.cells (intCells (List.replicate S 0)) 3 (0, 0)) := by
        rw [← hmade2, ← hsz]; exact blk_new wr _
      have kk := Aside0.mk (And.intro k1 (And.intro k2 (And.intro k3 (And.intro k4 k5))))
      clear k1 k2 k3 k4 k5 hmade2 d1
      go_wp2
      obtain ⟨k1, k2, k3, k4, k5⟩ := kk.out
      refine ⟨⟨i + 1, rfl, hlt, by simp [World.setCell] at k4 ⊢; omega, ⟨?_, fun j hj => ?_⟩, k3.setCell (Nat.le_refl _) _⟩, by simp [intOf]; omega⟩
      · have := blk_set k1 i (.slice (some ⟨W.heap.size + 1 + i, 0, none⟩) S S)
        rw [outCells_set _ _ _ _ hlt] at this
        exact this
      · refine (Below.heap_setCell _ _ _ _ (by show W.heap.size + 1 + j ≠ W.heap.size; omega)).trans ?_
        rcases Nat.lt_or_ge j i with h | h
        · exact k5 j h
        · have : j = i := by omega
          subst this
          exact k2
    · have hge : J = i := by omega
      subst hge
      clear hlt d1
      have t10 := blk_cell (hM'.out.below hb'.out).m10 1
      simp at t10
      have h1 := Aside0.mk (And.intro hR'.out (And.intro hb'.out hsz))
      clear hR' hb' hsz hmk2 h0 W1
      go_wp2
      go_loopw [134] (fun t w2 => ∃ i : Nat, t = .int .i64 i ∧ i ≤ es.length ∧ RowsAt w2 W.heap.size J S J (matOf J S sink es fl i) ∧ W.heap.size + 1 + J ≤ w2.heap.size ∧ Below W.heap.size W w2) (fun t _ => es.length - (intOf t).toNat)
      case atStart => exact ⟨0, rfl, by omega, h1.out.1, by have := h1.out.2.2; omega, h1.out.2.1⟩
      case round =>
        clear h1 t10 hglt
        obtain ⟨i, rfl, hi, hR, hsz, hb⟩ := hrel
        have hR' := Aside0.mk hR
        have hb' := Aside0.mk hb
        have hMb := hM'.out.below hb
        clear hR hb
        by_cases hlt : i < es.length
        · obtain ⟨ad, hA, e0, e1, e2⟩ := at_T49 hMb.e (i : Int) (by omega) (by omega)
          have hT := hMb.f
          subst hA
          simp only [Int.toNat_natCast] at e0 e1 e2
          have had := World.block_lt_of_cell? _ _ e0
          have had1 := World.block_lt_of_cell? _ _ e1
          have had2 := World.block_lt_of_cell? _ _ e2
          have hes1 := hes'.out i hlt
          have hmo := Aside0.mk (matOf_succ J S sink es fl i)
          obtain ⟨ad2, hA2, ef⟩ := Kd.at_int hT (i : Int) (by omega) (by omega)
          subst hA2
          simp only [Int.toNat_natCast] at ef
          have hefb := World.block_lt_of_cell? _ _ ef
          have hMb' := Aside0.mk hMb
          clear hMb hT
          generalize hx0 : (rd_T49 es (i : Int)).f0 = x0 at *
          generalize hx1 : (rd_T49 es (i : Int)).f1 = x1 at *
          generalize hx2 : (rd_T49 es (i : Int)).f2 = x2 at *
          generalize hxf : rd fl (i : Int) = xf at *
          have stay : Aside0 ((∀ j, matOf J S sink es fl (i + 1) j = matOf J S sink es fl i j) → (∃ k : Nat, Value.int .i64 ((i : Int) + 1) = .int .i64 (k : Int) ∧ k ≤ es.length ∧ RowsAt (wr.alloc (.cells #[.int .i64 x0, .int .i64 x1, .int .i64 x2] 49)) W.heap.size J S J (matOf J S sink es fl k) ∧ W.heap.size + 1 + J ≤ (wr.alloc (.cells #[.int .i64 x0, .int .i64 x1, .int .i64 x2] 49)).heap.size ∧ Below W.heap.size W (wr.alloc (.cells #[.int .i64 x0, .int .i64 x1, .int .i64 x2] 49)))) :=
            ⟨fun hj => ⟨i + 1, rfl, hlt, (hR'.out.below (below_alloc (Below.refl _ _) _)).congr hj, by rw [World.size_alloc]; omega, hb'.out.alloc (by omega) _⟩⟩
          have hxx := Aside0.mk (And.intro hx0 (And.intro hx1 hxf))
          clear hx0 hx1 hx2 hxf
          by_cases c0 : x0 = 0
          · have hb0 : (x0 == 0) = true := by simpa using c0
            clear hes1
            have hst := Aside0.mk (stay.out (fun j => by rw [hmo.out, if_neg (fun h => h.1 c0)]))
            subst c0
            go_wp2
            exact ⟨hst.out, by simp [intOf]; omega⟩
          · have hb0 : (x0 == 0) = false := by simpa using c0
            by_cases c1 : x1 = sink
            · have hb1 : (x1 == sink) = true := by simpa using c1
              clear hes1
              have hst := Aside0.mk (stay.out (fun j => by rw [hmo.out, if_neg (fun h => h.2.1 c1)]))
              subst c1
              go_wp2
              exact ⟨hst.out, by simp [intOf]; omega⟩
            · have hb1 : (x1 == sink) = false := by simpa using c1
              obtain ⟨y1, y2, y3, y4⟩ := hes1 c0 c1
              clear hes1 stay
              have hX := blk_new wr (.cells #[.int .i64 x0, .int .i64 x1, .int .i64 x2] 49)
              have hXb : Below wr.heap.size wr (wr.alloc (.cells #[.int .i64 x0, .int .i64 x1, .int .i64 x2] 49)) := below_alloc (Below.refl _ _) _
              have hXR := hR'.out.below hXb
              have hXM := hMb'.out.below hXb
              have hXW : Below W.heap.size W (wr.alloc (.cells #[.int .i64 x0, .int .i64 x1, .int .i64 x2] 49)) := hb'.out.alloc (by omega) _
              have hXs : (wr.alloc (.cells #[.int .i64 x0, .int .i64 x1, .int .i64 x2] 49)).heap.size = wr.heap.size + 1 := World.size_alloc _ _
              obtain ⟨a, ha⟩ := Int.eq_ofNat_of_zero_le (show 0 ≤ x0 - 1 by omega)
              obtain ⟨y, hy⟩ := Int.eq_ofNat_of_zero_le (show 0 ≤ x1 - 1 by omega)
              obtain ⟨b, hb⟩ := Int.eq_ofNat_of_zero_le (show 0 ≤ (y : Int) - (J : Int) by omega)
              have hrow := hXR.rows a (by omega)
              have xc := blk_cell hXR.out a
              rw [outCells_get _ _ _ _ _ (by omega), if_pos (by omega)] at xc
              have xd := blk_cell hrow b
              rw [intCells_get _ _ (by rw [matOf_length]; omega)] at xd
              have xe := blk_frozen hrow b
              have xf1 := pw_cell_below hXb ef
              have xg := blk_cell hXM.m2 0
              simp at xg
              have hXX := Aside0.mk (And.intro hX (And.intro hXR (And.intro hXW (And.intro hXs hrow))))
              have xl1 := blk_lt hrow
              have xl2 := blk_lt hXR.out
              have xl3 := blk_lt hXM.m2
              clear hX hXb hXR hXM hXW hrow ef
              go_wp2
              rotate_left
              · rename_i hc
                exfalso
                rcases hc with hc | hc
                · have : (x0 != 0) = true := by simpa using c0
                  rw [this] at hc; cases hc
                · have : (x1 != sink) = true := by simpa using c1
                  rw [this] at hc; cases hc
              generalize wr.alloc (.cells #[.int .i64 x0, .int .i64 x1, .int .i64 x2] 49) = X at *
              have xa : X.cell? ⟨wr.heap.size, 0, none⟩ = some (.int .i64 x0) := by rw [blk_cell hXX.out.1 0]; rfl
              have xb : X.cell? ⟨wr.heap.size, 1, none⟩ = some (.int .i64 x1) := by rw [blk_cell hXX.out.1 1]; rfl
              have v1 : IntKind.i64.wrap (a : Int) = (a : Int) := w64s (by omega) (by omega)
              have v2 : IntKind.i64.wrap (y : Int) = (y : Int) := w64s (by omega) (by omega)
              have v3 : IntKind.i64.wrap (b : Int) = (b : Int) := w64s (by omega) (by omega)
              have i1 : (0 : Int) ≤ (a : Int) := by omega
              have i2 : (a : Int) < (J : Int) := by omega
              have i3 : (0 : Int) ≤ (b : Int) := by omega
              have i4 : (b : Int) < (S : Int) := by omega
              have i5 : (0 : Int) ≤ (i : Int) := by omega
              have i6 : (i : Int) < (es.length : Int) := by omega
              refine tail_wp 17 (by kernel_rfl) (by kernel_rfl) ?_
              simp only [List.take_succ_cons, List.take_zero, List.drop_succ_cons, List.drop_zero]
              repeat still_step
              refine wpStill_nil ?_
              go_wp2
              obtain ⟨hX, hXR, hXW, hXs, hrow⟩ := hXX.out
              have hput := ArrayPut (x := xf) (b := b) (f' := matOf J S sink es fl (i + 1)) hXR (show a < J by omega) (by
                rw [hmo.out, if_pos ⟨c0, c1, by omega⟩]
                congr 1; omega) (fun j hj => by rw [hmo.out, if_neg (fun h => hj (by have := h.2.2; omega))])
              exact ⟨⟨i + 1, rfl, hlt, hput.below (below_drew (Below.refl _ _)), by simp [World.setCell] at hXs ⊢; omega, below_drew (hXW.setCell (by show W.heap.size ≤ W.heap.size + 1 + a; omega) _)⟩, by simp [intOf]; omega⟩
        · have hge : i = es.length := by omega
          subst hge
          clear hlt
          have hMe := hM'.out.below hb'.out
          have f0 := blk_cell hMe.m5 0
          have f1 := blk_cell hMe.m5 1
          have f2 := blk_frozen hMe.m5 0
          have f3 := blk_frozen hMe.m5 1
          simp at f0 f1
          have hbl := blk_lt hM'.out.m5
          have hm5 := Aside0.mk hMe.m5
          clear hMe
          go_wp2
          refine hQ'.out _ _ ?_ ?_ ?_ ?_ ?_ ?_ ?_ ?_
          · simp only []
          · simp only [List.getElem?_toArray, List.getElem?_cons_succ, List.getElem?_cons_zero]
          · simp only [List.getElem?_toArray, List.getElem?_cons_succ, List.getElem?_cons_zero]
          · simp only [List.getElem?_toArray, List.getElem?_cons_succ, List.getElem?_cons_zero]
          · refine ⟨?_, fun j hj => ?_⟩
            · exact (Below.heap_setCell _ _ _ _ (by show W.heap.size ≠ b5; omega)).trans ((Below.heap_setCell _ _ _ _ (by show W.heap.size ≠ b5; omega)).trans hR'.out.out)
            · exact (Below.heap_setCell _ _ _ _ (by show W.heap.size + 1 + j ≠ b5; omega)).trans ((Below.heap_setCell _ _ _ _ (by show W.heap.size + 1 + j ≠ b5; omega)).trans (hR'.out.rows j hj))
          · have h1 := blk_set (blk_set hm5.out 0 (.slice none 0 0)) 1 (.slice none 0 0)
            exact h1
          · exact Kept.setCell (S := fun k => k = b5) (p := ⟨b5, 1, none⟩) (Kept.setCell (S := fun k => k = b5) (p := ⟨b5, 0, none⟩) (Kept.of_below hb'.out _) (.inl rfl) _) (.inl rfl) _
          · exact ⟨hb'.out.os, hb'.out.tape, hb'.out.output⟩
end Go.Proofs.Ytioglahnliajlaa.Pr
