import Derived.Test.YtioglahnliajlaaGSchA
import Derived.Test.YtioglahnliajlaaSchedT
import Derived.Laws.CopyRow
import Derived.Laws.IdiomCopy
set_option linter.unusedVariables false
set_option linter.unusedSimpArgs false
/-! CheckPlan's contract. -/
namespace Go.Proofs.Ytioglahnliajlaa.Pr
open Go.RowKit Go.Proofs.YtioglahnliajlaaW.PrintWords Go.Proofs.YtioglahnliajlaaW.PrintLast Go.Proofs.YtioglahnliajlaaW.PrintMore
attribute [local go_sem] Oper.semAt_some

def wsum (l : List Int) : Int := l.foldl (fun a x => wrap64 (a + x)) 0
def ckRow (j : S38) (row : List Int) : Nat → Nat → List Int → Option (List Int)
  | 0, _, left => some left
  | d + 1, s, left => if rd row (s : Int) < 0 ∨ rd row (s : Int) > j.f3 ∨ (0 < rd row (s : Int) ∧ ¬ (j.f0 ≤ (s : Int) ∧ (s : Int) ≤ j.f1 - 1)) ∨ rd row (s : Int) > rd left (s : Int) then none else ckRow j row d (s + 1) (left.set s (rd left (s : Int) - rd row (s : Int)))
def rowAt (p : List (List Int)) (i : Nat) : List Int := p.getD i []
def ckRest (o : Option (List Int)) (K : List Int → Bool) : Bool := match o with
  | none => false
  | some l => K l
def ckStep (j : S38) (row : List Int) (S : Nat) (left : List Int) (K : List Int → Bool) : Bool := if row.length ≠ S ∨ wsum row ≠ j.f2 then false else ckRest (ckRow j row S 0 left) K
def ckFrom (jobs : List S38) (S : Nat) (p : List (List Int)) : Nat → Nat → List Int → Bool
  | 0, _, _ => true
  | d + 1, i, left => ckStep (rd_T38 jobs (i : Int)) (rowAt p i) S left (ckFrom jobs S p d (i + 1))
def ckPlan (jobs : List S38) (sup : List Int) (p : List (List Int)) : Bool := if validOk jobs sup ∧ p.length = jobs.length then ckFrom jobs sup.length p jobs.length 0 sup else false
def plan_CheckPlan.f (jobs : List S38) (sup : List Int) (p : List (List Int)) : Option Bool := some (ckPlan jobs sup p)

theorem sum_l0 (l : List Int) (hl : l.length ≤ 9223372036854775806) : ∀ (d i k : Nat) (acc : Int), i + d = l.length → d + 1 ≤ k → plan_sum.l0 k acc l (l.length : Int) (i : Int) = some ((l.drop i).foldl (fun a x => wrap64 (a + x)) acc) := by
  intro d
  induction d with
  | zero =>
    intro i k acc hi hk
    obtain ⟨k, rfl⟩ : ∃ m, k = m + 1 := ⟨k - 1, by omega⟩
    simp only [plan_sum.l0]
    rw [if_neg (by omega), List.drop_of_length_le (by omega)]
    rfl
  | succ d ih =>
    intro i k acc hi hk
    obtain ⟨k, rfl⟩ : ∃ m, k = m + 1 := ⟨k - 1, by omega⟩
    simp only [plan_sum.l0]
    have hw : wrap64 ((i : Int) + 1) = ((i + 1 : Nat) : Int) := by unfold wrap64; omega
    rw [if_pos (by omega), if_pos (by omega), if_pos (by omega), hw, ih (i + 1) k _ (by omega) (by omega), rd_dropI l i (by omega)]
    rfl
theorem sum_f (l : List Int) (hl : l.length ≤ 9223372036854775806) : plan_sum.f (l.length + 1) l = some (wsum l) := by
  have := sum_l0 l hl l.length 0 (l.length + 1) 0 (by omega) (by omega)
  simpa [plan_sum.f, wsum] using this

theorem copy_ints (W : World) (g : Nat) (A1 : Option Addr) (c1 : Nat) (sup old : List Int) (hg : W.heap[g]? = some (.cells (intCells old) 3 (0, 0))) (ho : old.length = sup.length) (hC : Kd.C (Kd.int .i64) W A1 sup.length sup) :
    ∃ W2, (Builtin.copy_ #[23, 23] 3 #[.slice (some ⟨g, 0, none⟩) sup.length sup.length, .slice A1 sup.length c1]).run Try.prog W = .ok (goInt sup.length) W2 ∧ W2.heap[g]? = some (.cells (intCells sup) 3 (0, 0)) ∧ Below g W W2 ∧ W2.heap.size = W.heap.size := by
  rcases Nat.eq_zero_or_pos sup.length with h0 | h0
  · refine ⟨W, ?_, ?_, Below.refl _ _, rfl⟩
    · rw [h0]
      exact run_copy_none W 23 23 3 3 _ A1 0 0 0 c1 Try.underlying23 (by kernel_rfl) rfl
    · rw [List.length_eq_zero_iff.1 h0]
      rw [List.length_eq_zero_iff.1 (ho.trans h0)] at hg
      exact hg
  · obtain ⟨ad, hA, _⟩ := Kd.at_int hC 0 (by omega) (by omega)
    subst hA
    have hsrc : ∀ (j : Nat) (v : Value), (intCells sup).toList[j]? = some v → W.cell? (ad.add j) = some v := fun j v hj => by
      have hjl : j < sup.length := by
        have := (List.getElem?_eq_some_iff.1 hj).1
        simpa [intCells] using this
      obtain ⟨ad', he, hc⟩ := Kd.at_int hC (j : Int) (by omega) (by omega)
      cases he
      have hv : v = .int .i64 (rd sup (j : Int)) := by
        simp [intCells, hjl] at hj
        rw [← hj]
        simp [rd, List.getD_eq_getElem?_getD, hjl]
      rw [hv]
      simpa using hc
    have h := run_copy_row Try.prog W 23 23 3 3 g 0 sup.length sup.length ad sup.length c1 (intCells old) 3 (intCells sup).toList Try.underlying23 (by kernel_rfl) hg (by simp [intCells]) hsrc (by simp [intCells, ho]) (by simp [intCells, Value.oneCell'])
    have hcs : ((intCells old).toList.take 0 ++ (intCells sup).toList ++ (intCells old).toList.drop (0 + (intCells sup).toList.length)).toArray = intCells sup := by
      rw [List.take_zero, List.nil_append, List.drop_of_length_le (by simp [intCells, ho]), List.append_nil]
    rw [hcs] at h
    have hl : (intCells sup).toList.length = sup.length := by simp [intCells]
    rw [hl] at h
    exact ⟨_, h, setRow_heap W g _ _ _ _ hg, ⟨rfl, rfl, rfl, by simp, fun k hk => setRow_other W g k _ (by omega)⟩, by simp⟩

theorem made_ints (S : Nat) : madeCells #[.int .i64 0] S = intCells (List.replicate S 0) := by
  apply Array.ext'
  simp [madeCells, intCells, Nat.mod_one]
  apply List.ext_getElem <;> simp

set_option maxRecDepth 1000000 in
set_option maxHeartbeats 4000000 in
theorem ck_yes (A0 : Option Addr) (c0 : Nat) (l0 : List S38) (A1 : Option Addr) (c1 : Nat) (l1 : List Int) (A2 : Option Addr) (c2 : Nat) (p : List (List Int)) (w : World) (hr0 : Kd.C k38 w A0 l0.length l0) (hc0 : l0.length ≤ c0) (hr1 : Kd.C (Kd.int .i64) w A1 l1.length l1) (hc1 : l1.length ≤ c1)
    (hr2 : Kd.C (Kd.slice 3 (Kd.int .i64)) w A2 p.length p) (hc2 : p.length ≤ c2) (hv : validOk l0 l1) (hp : p.length = l0.length) (r : Bool) (hres : ckFrom l0 l1.length p l0.length 0 l1 = r) :
    Calls Try.prog 16 #[.slice A0 l0.length c0, .slice A1 l1.length c1, .slice A2 p.length c2] w fun e w' => e = .returned (.bool r) ∧ Below w.heap.size w w' := by
  have hA := Aside0.mk (And.intro hr0 (And.intro hr1 hr2))
  have hv' := Aside0.mk hv
  have hres' := Aside0.mk hres
  have hd := Aside0.mk (show plan_Valid.f 100 l0 l1 = some true by rw [valid_pf l0 l1 100 (by omega), decide_eq_true hv])
  obtain ⟨⟨hJ, hS⟩, _, _⟩ := hv
  clear hr0 hr1 hr2 hres
  have hmk := print_make_of 23 3 (.int .i64 0) 8 Try.underlying23 sintinfo rfl (by decide) l1.length (by omega)
  go_enter Try.func16, Try.ntmps16
  go_wp2_with fail
  refine (plan_Valid.calls 100 A0 c0 l0 A1 c1 l1 true w hA.out.1 hc0 hA.out.2.1 hc1 hd.out).mono ?_
  rintro e w1 ⟨rfl, hb1⟩
  have hb1' := Aside0.mk hb1
  have hg1 : (w1.alloc (.cells (madeCells #[.int .i64 0] l1.length) 3)).heap[w1.heap.size]? = some (.cells (intCells (List.replicate l1.length 0)) 3 (0, 0)) := by rw [← made_ints]; exact blk_new w1 _
  have hsz1 : (w1.alloc (.cells (madeCells #[.int .i64 0] l1.length) 3)).heap.size = w1.heap.size + 1 := World.size_alloc _ _
  have hbw1 : Below w1.heap.size w1 (w1.alloc (.cells (madeCells #[.int .i64 0] l1.length) 3)) := below_alloc (Below.refl _ _) _
  obtain ⟨W2, hcp, hg2, hb2, hs2⟩ := copy_ints _ w1.heap.size A1 c1 l1 _ hg1 (by simp) (Kd.C_below (Kd.C_below hA.out.2.1 hb1) hbw1)
  have h0 : Aside0 (W2.heap[w1.heap.size]? = some (.cells (intCells l1) 3 (0, 0)) ∧ Below w.heap.size w W2) := ⟨hg2, hb1.trans ((hbw1.mono hb1.size).trans (hb2.mono hb1.size))⟩
  have hbs := hb1.size
  clear hb1 hg1 hsz1 hbw1 hg2 hb2 hs2
  go_wp2
  clear hcp hmk
  go_loopw [31] (fun t wr => ∃ (i : Nat) (left : List Int), t = .int .i64 (i : Int) ∧ i ≤ l0.length ∧ wr.heap[w1.heap.size]? = some (.cells (intCells left) 3 (0, 0)) ∧ left.length = l1.length ∧ (∀ x ∈ left, 0 ≤ x ∧ x ≤ 1000) ∧
    ckFrom l0 l1.length p (l0.length - i) i left = r ∧ Below w.heap.size w wr) (fun t _ => l0.length - (intOf t).toNat)
  case atStart => exact ⟨0, l1, rfl, by omega, h0.out.1, rfl, fun x hx => hv'.out.2.1 x hx, hres'.out, h0.out.2⟩
  case round =>
    clear h0 W2
    obtain ⟨i, left, rfl, hi, hg, hll, hlb, hck, hb⟩ := hrel
    have hg' := Aside0.mk hg
    have hlb' := Aside0.mk hlb
    have hck' := Aside0.mk hck
    have hb' := Aside0.mk hb
    clear hg hlb hck
    by_cases hlt : i < l0.length
    · obtain ⟨ad, hA0, e0, e1, e2, e3, e4⟩ := at_T38 (Kd.C_below hA.out.1 hb) (i : Int) (by omega) (by omega)
      obtain ⟨ad2, cs, hA2, _, ⟨A3, c3, hcs, hc3, hrow⟩, hcell⟩ := Kd.C_get hA.out.2.2 [] (i : Int) (by omega) (by omega)
      subst hA0 hA2 hcs
      have f00 := hcell 0 _ rfl
      have f0 := pw_cell_below hb f00
      simp only [Int.toNat_natCast] at e0 e1 e2 e3 e4 f0 f00 hrow hc3
      have hjb := hv'.out.2.2 _ (rd_memJ l0 i hlt)
      have hd0 := World.block_lt_of_cell? _ _ e0
      have hd1 := World.block_lt_of_cell? _ _ e1
      have hd2 := World.block_lt_of_cell? _ _ e2
      have hd3 := World.block_lt_of_cell? _ _ e3
      have hd4 := World.block_lt_of_cell? _ _ e4
      have hrow' := Aside0.mk hrow
      have hck2 : Aside0 (ckFrom l0 l1.length p (l0.length - (i + 1) + 1) i left = r) := ⟨by rw [show l0.length - (i + 1) + 1 = l0.length - i by omega]; exact hck'.out⟩
      simp only [ckFrom, rowAt] at hck2
      clear hb hcell hrow hck'
      have hX := blk_new wr (.cells (jobCells (rd_T38 l0 (i : Int))) 38)
      have hXb : Below wr.heap.size wr (wr.alloc (.cells (jobCells (rd_T38 l0 (i : Int))) 38)) := below_alloc (Below.refl _ _) _
      unfold jobCells at hX hXb
      rw [show (Kd.slice 3 (Kd.int .i64)).sz = 1 from rfl, Nat.mul_one, Nat.add_zero] at f0 f00
      have f00' := Aside0.mk f00
      clear f00
      obtain ⟨K, hK⟩ : ∃ K, K = ckFrom l0 l1.length p (l0.length - (i + 1)) (i + 1) := ⟨_, rfl⟩
      rw [← hK] at hck2
      have hK' := Aside0.mk hK
      clear hK
      generalize hj : rd_T38 l0 (i : Int) = j at *
      generalize hrw : p.getD i [] = row at *
      clear hj hrw
      have f0' := pw_cell_below hXb f0
      have hsl1 : wr.heap.size < (wr.alloc (.cells #[.int .i64 j.f0, .int .i64 j.f1, .int .i64 j.f2, .int .i64 j.f3, .int .i64 j.f4] 38)).heap.size := blk_lt hX
      have hsl2 := World.block_lt_of_cell? _ _ f0'
      have hXW := Aside0.mk (hb'.out.trans (hXb.mono hb'.out.size))
      have hX' := Aside0.mk hX
      have hXb' := Aside0.mk hXb
      have g2 := blk_cell hX 2
      simp at g2
      have hrow2 : Aside0 (Kd.C (Kd.int .i64) wr A3 row.length row) := ⟨Kd.C_below hrow'.out hb'.out⟩
      by_cases hrl : row.length = l1.length
      · have hcall : ∀ W' : World, Below wr.heap.size wr W' → Calls Try.prog 33 #[.slice A3 row.length c3] W' fun e w' => e = .returned (.int .i64 (wsum row)) ∧ Aside0 (Below W'.heap.size W' w') := by
          intro W' h
          refine (plan_sum.calls (row.length + 1) A3 c3 row (wsum row) W' (Kd.C_below hrow2.out h) hc3 (sum_f row (by omega))).mono ?_
          rintro e w' ⟨rfl, hd⟩
          exact ⟨rfl, ⟨hd.below⟩⟩
        rw [hrl] at hcall
        have hrl' := Aside0.mk hrl
        rw [hrl] at f0'
        clear hrl
        go_upto_region 8 with (fail)
        generalize (wr.alloc (.cells #[.int .i64 j.f0, .int .i64 j.f1, .int .i64 j.f2, .int .i64 j.f3, .int .i64 j.f4] 38)) = X at *
        have g2 : X.cell? ⟨wr.heap.size, 2, none⟩ = some (.int .i64 j.f2) := by rw [blk_cell hX'.out 2]; rfl
        have hS1 : ∀ W' : World, Below X.heap.size X W' → (W'.cell? (ad2.add i) = some (.slice A3 l1.length c3) ∧ W'.cell? ⟨wr.heap.size, 2, none⟩ = some (.int .i64 j.f2)) := fun W' h => ⟨pw_cell_below h f0', pw_cell_below h g2⟩
        have hS1' := Aside0.mk hS1
        have hbd := Aside0.mk (below_drew (Below.refl X.heap.size X))
        have hcall2 : ∀ W' : World, Below X.heap.size X W' → Calls Try.prog 33 #[.slice A3 l1.length c3] W' fun e w' => e = .returned (.int .i64 (wsum row)) ∧ (w'.cell? (ad2.add i) = some (.slice A3 l1.length c3) ∧ w'.cell? ⟨wr.heap.size, 2, none⟩ = some (.int .i64 j.f2)) ∧ Aside0 (Below X.heap.size X w') := by
          intro W' h
          refine (hcall W' (hXb'.out.trans (h.mono hXb'.out.size))).mono ?_
          rintro e w' ⟨rfl, hd⟩
          have h2 := below_then h h.size hd.out
          exact ⟨rfl, hS1 w' h2, ⟨h2⟩⟩
        clear hcall hS1 f0' g2
        go_region_held3 (fun w' => w'.cell? (ad2.add i) = some (.slice A3 l1.length c3) ∧ w'.cell? ⟨wr.heap.size, 2, none⟩ = some (.int .i64 j.f2)) (first | assumption | exact hS1'.out _ hbd.out | fail)
          (first | (go_at_call 33; with_reducible refine (hcall2 _ hbd.out).mono ?_; rintro e wa ⟨rfl, hSa, hba⟩) | fail)
        have hwa := Aside0.mk (hXW.out.trans (hba.out.mono hXW.out.size))
        have hja := Aside0.mk (blk_below hX'.out hba.out)
        have hga := Aside0.mk (blk_below (blk_below hg'.out hXb'.out) hba.out)
        obtain ⟨hSa1, hSa2⟩ := hSa
        clear hcall2 hSa2 hbd hS1'
        by_cases hsm : wsum row = j.f2
        · have hck4 : Aside0 (ckRest (ckRow j row l1.length 0 left) K = r) := ⟨by
            have := hck2.out
            unfold ckStep at this
            rwa [if_neg (by rintro (h | h); exact h hrl'.out; exact h hsm)] at this⟩
          have hne2 : (wsum row != j.f2) = false := by simpa using hsm
          clear hck2
          simp only [hne2]
          generalize wsum row = ws at *
          have hsm' := Aside0.mk hsm
          clear hsm hne2
          have hbjt := hja.out
          generalize hbj : wr.heap.size = bj at *
          clear hbjt
          go_wp2
          go_loopw [59] (fun t w5 => ∃ (s : Nat) (left2 : List Int), t = .int .i64 (s : Int) ∧ s ≤ l1.length ∧ w5.heap[w1.heap.size]? = some (.cells (intCells left2) 3 (0, 0)) ∧ left2.length = l1.length ∧ (∀ x ∈ left2, 0 ≤ x ∧ x ≤ 1000) ∧
            ckRest (ckRow j row (l1.length - s) s left2) K = r ∧ w5.heap[bj]? = some (.cells #[.int .i64 j.f0, .int .i64 j.f1, .int .i64 j.f2, .int .i64 j.f3, .int .i64 j.f4] 38 (0, 0)) ∧ Below w.heap.size w w5) (fun t _ => l1.length - (intOf t).toNat)
          case atStart => exact ⟨0, left, rfl, by omega, hga.out, hll, hlb'.out, hck4.out, hja.out, hwa.out⟩
          case round =>
            obtain ⟨s, left2, rfl, hs, hg5, hl5, hb5, hck5, hj5, hw5⟩ := hrel
            have hg5' := Aside0.mk hg5
            have hb5' := Aside0.mk hb5
            have hj5' := Aside0.mk hj5
            have hw5' := Aside0.mk hw5
            have hck5' := Aside0.mk hck5
            by_cases hslt : s < l1.length
            · have hrl2 := hrl'.out
              obtain ⟨ad3, hA3, er⟩ := Kd.at_int (Kd.C_below hrow'.out hw5) (s : Int) (by omega) (by omega)
              subst hA3
              simp only [Int.toNat_natCast] at er
              have el := blk_cell hg5 s
              rw [intCells_get _ _ (by omega)] at el
              have ef := blk_frozen hg5 s
              have hrdl : rd left2 (s : Int) = left2[s] := by simp [rd, List.getD_eq_getElem?_getD, show s < left2.length by omega]
              rw [← hrdl] at el
              obtain ⟨yb1, yb2⟩ := hb5 (rd left2 (s : Int)) (rd_memI left2 s (by omega))
              have j0 := blk_cell hj5 0
              have j1 := blk_cell hj5 1
              have j3 := blk_cell hj5 3
              simp at j0 j1 j3
              have erl := World.block_lt_of_cell? _ _ er
              have hgl := blk_lt hg5
              have hjl := blk_lt hj5
              have hck6 : Aside0 (ckRest (ckRow j row (l1.length - (s + 1) + 1) s left2) K = r) := ⟨by rw [show l1.length - (s + 1) + 1 = l1.length - s by omega]; exact hck5⟩
              simp only [ckRow] at hck6
              have hmem : Aside0 (∀ x ∈ left2, 0 ≤ x ∧ x ≤ 1000) := ⟨hb5⟩
              clear hg5 hj5 hw5 hck5 hrl2 hrdl hb5
              generalize hn : rd row (s : Int) = n at *
              generalize hy : rd left2 (s : Int) = y at *
              clear hn hy
              have hno : (n < 0 ∨ n > j.f3 ∨ (0 < n ∧ ¬ (j.f0 ≤ (s : Int) ∧ (s : Int) ≤ j.f1 - 1)) ∨ n > y) → r = false := fun h => by
                have := hck6.out
                rw [if_pos h] at this
                exact this.symm
              have hno' := Aside0.mk hno
              clear hno
              by_cases k1 : n < 0
              · have hrf := hno'.out (.inl k1)
                subst hrf
                go_wp2
                go_ret
                exact ⟨rfl, hw5'.out⟩
              · by_cases k2 : n > j.f3
                · have hrf := hno'.out (.inr (.inl k2))
                  subst hrf
                  go_wp2
                  go_ret
                  exact ⟨rfl, hw5'.out⟩
                · have hstep : Aside0 (n ≤ y → (0 < n → j.f0 ≤ (s : Int) ∧ (s : Int) ≤ j.f1 - 1) → ∀ W6 : World, W6.heap[w1.heap.size]? = some (.cells (intCells (left2.set s (y - n))) 3 (0, 0)) → W6.heap[bj]? = some (.cells #[.int .i64 j.f0, .int .i64 j.f1, .int .i64 j.f2, .int .i64 j.f3, .int .i64 j.f4] 38 (0, 0)) → Below w.heap.size w W6 →
                      (∃ (s' : Nat) (left3 : List Int), Value.int .i64 ((s : Int) + 1) = .int .i64 (s' : Int) ∧ s' ≤ l1.length ∧ W6.heap[w1.heap.size]? = some (.cells (intCells left3) 3 (0, 0)) ∧ left3.length = l1.length ∧ (∀ x ∈ left3, 0 ≤ x ∧ x ≤ 1000) ∧
                        ckRest (ckRow j row (l1.length - s') s' left3) K = r ∧ W6.heap[bj]? = some (.cells #[.int .i64 j.f0, .int .i64 j.f1, .int .i64 j.f2, .int .i64 j.f3, .int .i64 j.f4] 38 (0, 0)) ∧ Below w.heap.size w W6)) := ⟨fun h1 h2 W6 g1 g2 g3 => by
                    refine ⟨s + 1, _, rfl, hslt, g1, by simpa using hl5, fun x hx => ?_, ?_, g2, g3⟩
                    · rcases List.mem_or_eq_of_mem_set hx with hx | rfl
                      · exact hmem.out x hx
                      · omega
                    · have := hck6.out
                      rw [if_neg (by
                        rintro (h | h | h | h)
                        · exact k1 h
                        · exact k2 h
                        · exact h.2 (h2 h.1)
                        · omega)] at this
                      exact this⟩
                  have putl : ∀ m : Nat, ((wr.drewN m).setCell ⟨w1.heap.size, s, none⟩ (.int .i64 (y - n))).heap[w1.heap.size]? = some (.cells (intCells (left2.set s (y - n))) 3 (0, 0)) := fun m => by
                    have := blk_set (blk_drewN hg5'.out m) s (.int .i64 (y - n))
                    rwa [intCells_set] at this
                  have putl' := Aside0.mk putl
                  have hne : bj ≠ w1.heap.size := blk_ne hj5'.out hg5'.out (by decide)
                  have putj : Aside0 (∀ m : Nat, ((wr.drewN m).setCell ⟨w1.heap.size, s, none⟩ (.int .i64 (y - n))).heap[bj]? = some (.cells #[.int .i64 j.f0, .int .i64 j.f1, .int .i64 j.f2, .int .i64 j.f3, .int .i64 j.f4] 38 (0, 0))) := ⟨fun m => (Below.heap_setCell _ _ _ _ (by show bj ≠ w1.heap.size; exact hne)).trans hj5'.out⟩
                  have putb : Aside0 (∀ m : Nat, Below w.heap.size w ((wr.drewN m).setCell ⟨w1.heap.size, s, none⟩ (.int .i64 (y - n)))) := ⟨fun m => (pw_below_drewN hw5'.out m).setCell (by show w.heap.size ≤ w1.heap.size; exact hbs) _⟩
                  clear putl hne
                  obtain ⟨⟨jb1, jb2⟩, jb3, _⟩ := hjb
                  by_cases k3 : n > 0
                  · by_cases k4 : j.f0 ≤ (s : Int) ∧ (s : Int) ≤ j.f1 - 1
                    · have hin := Aside0.mk (show plan_in.f (s : Int) j.f0 (j.f1 - 1) = some true by rw [in_f, decide_eq_true k4])
                      have hk4 := Aside0.mk k4
                      clear k4
                      by_cases k5 : n > y
                      · have hrf := hno'.out (.inr (.inr (.inr k5)))
                        subst hrf
                        go_wp2_with fail
                        refine (plan_in.calls (s : Int) j.f0 (j.f1 - 1) true wr hin.out).mono ?_
                        rintro e w6 ⟨rfl, ⟨⟨m, rfl⟩⟩⟩
                        go_wp2
                        go_ret
                        exact ⟨rfl, pw_below_drewN hw5'.out _⟩
                      · go_wp2_with fail
                        refine (plan_in.calls (s : Int) j.f0 (j.f1 - 1) true wr hin.out).mono ?_
                        rintro e w6 ⟨rfl, ⟨⟨m, rfl⟩⟩⟩
                        have hfin := Aside0.mk (hstep.out (by omega) (fun _ => hk4.out) _ (putl'.out m) (putj.out m) (putb.out m))
                        go_wp2
                        exact ⟨hfin.out, by simp [intOf]; omega⟩
                    · have hin := Aside0.mk (show plan_in.f (s : Int) j.f0 (j.f1 - 1) = some false by rw [in_f, decide_eq_false k4])
                      have hrf := hno'.out (.inr (.inr (.inl ⟨by omega, k4⟩)))
                      subst hrf
                      clear k4
                      go_wp2_with fail
                      refine (plan_in.calls (s : Int) j.f0 (j.f1 - 1) false wr hin.out).mono ?_
                      rintro e w6 ⟨rfl, ⟨⟨m, rfl⟩⟩⟩
                      go_wp2
                      go_ret
                      exact ⟨rfl, pw_below_drewN hw5'.out _⟩
                  · by_cases k5 : n > y
                    · exfalso; omega
                    · have hfin := Aside0.mk (hstep.out (by omega) (fun h => by omega) _ (putl'.out 0) (putj.out 0) (putb.out 0))
                      go_wp2
                      exact ⟨hfin.out, by simp [intOf]; omega⟩
            · have hge : s = l1.length := by omega
              subst hge
              have hKe : Aside0 (K left2 = r) := ⟨by
                have := hck5
                rw [Nat.sub_self] at this
                exact this⟩
              clear hg5 hb5 hck5 hj5 hw5 hslt
              go_wp2
              refine ⟨⟨i + 1, left2, rfl, hlt, hg5'.out, hl5, hb5'.out, by rw [← hK'.out]; exact hKe.out, hw5'.out⟩, by simp [intOf]; omega⟩
        · have hrf : r = false := by
            have := hck2.out
            unfold ckStep at this
            rw [if_pos (.inr hsm)] at this
            exact this.symm
          subst hrf
          have hne2 : (wsum row != j.f2) = true := by simpa using hsm
          go_wp2
          go_ret
          exact ⟨rfl, hwa.out⟩
      · have hrf : r = false := by
          have := hck2.out
          unfold ckStep at this
          rw [if_pos (.inl hrl)] at this
          exact this.symm
        subst hrf
        have hne1 : ((row.length : Int) != (l1.length : Int)) = true := by
          have : ¬ ((row.length : Int) = (l1.length : Int)) := by omega
          simpa using this
        go_wp2
        go_quiet (fail)
        go_wp2
        go_ret
        exact ⟨rfl, pw_below_drewN hXW.out _⟩
    · have hge : l0.length = i := by omega
      have hr : r = true := by
        have := hck'.out
        rw [← hge, Nat.sub_self] at this
        exact this.symm
      subst hr
      clear hb
      go_wp2
      go_ret
      exact ⟨rfl, hb'.out⟩

theorem ck_no (A0 : Option Addr) (c0 : Nat) (l0 : List S38) (A1 : Option Addr) (c1 : Nat) (l1 : List Int) (A2 : Option Addr) (c2 n : Nat) (w : World) (hr0 : Kd.C k38 w A0 l0.length l0) (hc0 : l0.length ≤ c0) (hr1 : Kd.C (Kd.int .i64) w A1 l1.length l1) (hc1 : l1.length ≤ c1)
    (hv : ¬ (validOk l0 l1 ∧ n = l0.length)) :
    Calls Try.prog 16 #[.slice A0 l0.length c0, .slice A1 l1.length c1, .slice A2 n c2] w fun e w' => e = .returned (.bool false) ∧ Below w.heap.size w w' := by
  have hA := Aside0.mk (And.intro hr0 hr1)
  clear hr0 hr1
  by_cases hv1 : validOk l0 l1
  · have hn : ¬ ((n : Int) = (l0.length : Int)) := fun e => hv ⟨hv1, by omega⟩
    have hne : ((n : Int) != (l0.length : Int)) = true := by simpa using hn
    have hd := Aside0.mk (show plan_Valid.f 100 l0 l1 = some true by rw [valid_pf l0 l1 100 (by omega), decide_eq_true hv1])
    clear hv hv1 hn
    go_enter Try.func16, Try.ntmps16
    go_wp2_with fail
    refine (plan_Valid.calls 100 A0 c0 l0 A1 c1 l1 true w hA.out.1 hc0 hA.out.2 hc1 hd.out).mono ?_
    rintro e w1 ⟨rfl, hb1⟩
    have hb1' := Aside0.mk hb1
    clear hb1
    go_wp2
    go_ret
    exact ⟨rfl, hb1'.out⟩
  · have hd := Aside0.mk (show plan_Valid.f 100 l0 l1 = some false by rw [valid_pf l0 l1 100 (by omega), decide_eq_false hv1])
    clear hv hv1
    go_enter Try.func16, Try.ntmps16
    go_wp2_with fail
    refine (plan_Valid.calls 100 A0 c0 l0 A1 c1 l1 false w hA.out.1 hc0 hA.out.2 hc1 hd.out).mono ?_
    rintro e w1 ⟨rfl, hb1⟩
    have hb1' := Aside0.mk hb1
    clear hb1
    go_wp2
    go_ret
    exact ⟨rfl, hb1'.out⟩

theorem plan_CheckPlan.calls (A0 : Option Addr) (c0 : Nat) (l0 : List S38) (A1 : Option Addr) (c1 : Nat) (l1 : List Int) (A2 : Option Addr) (c2 : Nat) (l2 : List (List Int)) (r : Bool) (w : World) (hr0 : Kd.C k38 w A0 l0.length l0) (hc0 : l0.length ≤ c0) (hr1 : Kd.C (Kd.int .i64) w A1 l1.length l1) (hc1 : l1.length ≤ c1)
    (hr2 : Kd.C (Kd.slice 3 (Kd.int .i64)) w A2 l2.length l2) (hc2 : l2.length ≤ c2) (h : plan_CheckPlan.f l0 l1 l2 = some r) :
    Calls Try.prog 16 #[.slice A0 l0.length c0, .slice A1 l1.length c1, .slice A2 l2.length c2] w fun e w' => e = .returned (.bool r) ∧ Below w.heap.size w w' := by
  have hr : ckPlan l0 l1 l2 = r := Option.some.inj h
  unfold ckPlan at hr
  by_cases hv : validOk l0 l1 ∧ l2.length = l0.length
  · rw [if_pos hv] at hr
    exact ck_yes A0 c0 l0 A1 c1 l1 A2 c2 l2 w hr0 hc0 hr1 hc1 hr2 hc2 hv.1 hv.2 r hr
  · rw [if_neg hv] at hr
    subst hr
    exact ck_no A0 c0 l0 A1 c1 l1 A2 c2 l2.length w hr0 hc0 hr1 hc1 hv
end Go.Proofs.Ytioglahnliajlaa.Pr
