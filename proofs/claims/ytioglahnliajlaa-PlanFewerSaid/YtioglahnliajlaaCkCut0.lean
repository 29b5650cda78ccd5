import Derived.Test.YtioglahnliajlaaGSchA
import Derived.Test.YtioglahnliajlaaSchedX
import Derived.Test.YtioglahnliajlaaPChoice
set_option linter.unusedVariables false
set_option linter.unusedSimpArgs false
/-! CheckCut's contract. -/
namespace Go.Proofs.Ytioglahnliajlaa.Pr
open Go.RowKit Go.Proofs.YtioglahnliajlaaW.PrintWords Go.Proofs.YtioglahnliajlaaW.PrintLast Go.Proofs.YtioglahnliajlaaW.PrintMore
attribute [local go_sem] Oper.semAt_some

def choiceFrom (n : Nat) : Int → List Int → Prop
  | _, [] => True
  | last, x :: l => (last < x ∧ 0 ≤ x ∧ x < n) ∧ choiceFrom n x l
instance choiceDec (n : Nat) : ∀ (last : Int) (l : List Int), Decidable (choiceFrom n last l)
  | _, [] => isTrue trivial
  | last, x :: l => @instDecidableAnd _ _ _ (choiceDec n x l)
def choiceOk (n : Nat) (l : List Int) : Prop := choiceFrom n (-1) l
instance (n : Nat) (l : List Int) : Decidable (choiceOk n l) := by unfold choiceOk; infer_instance

def markOf (S : Nat) (cs : List Int) : Nat → List Bool
  | 0 => List.replicate S false
  | k + 1 => (markOf S cs k).set (rd cs (k : Int)).toNat true
theorem markOf_length (S : Nat) (cs : List Int) (k : Nat) : (markOf S cs k).length = S := by
  induction k with
  | zero => simp [markOf]
  | succ k ih => simp [markOf, ih]
def giveS (sup cs : List Int) : Nat → Int
  | 0 => 0
  | k + 1 => giveS sup cs k + rd sup (rd cs (k : Int))
def giveStep (ra : Int) (mk : List Bool) (g : Int) (s : Int) : Int := if rdOf false mk s = true then g else g + ra
def giveJ (jobs : List S38) (mk : List Bool) (cj : List Int) (g : Int) : Nat → Int
  | 0 => g
  | k + 1 => (slotList (rd_T38 jobs (rd cj (k : Int))).f0 ((rd_T38 jobs (rd cj (k : Int))).f1 - (rd_T38 jobs (rd cj (k : Int))).f0).toNat).foldl (giveStep (rd_T38 jobs (rd cj (k : Int))).f3 mk) (giveJ jobs mk cj g k)
def needOf (jobs : List S38) (cj : List Int) : Nat → Int
  | 0 => 0
  | k + 1 => needOf jobs cj k + (rd_T38 jobs (rd cj (k : Int))).f2
def ckCut (jobs : List S38) (sup cj cs : List Int) : Bool :=
  if validOk jobs sup ∧ choiceOk jobs.length cj ∧ choiceOk sup.length cs then
    decide (needOf jobs cj cj.length > giveJ jobs (markOf sup.length cs cs.length) cj (giveS sup cs cs.length) cj.length)
  else false
def plan_CheckCut.f (jobs : List S38) (sup cj cs : List Int) : Option Bool := some (ckCut jobs sup cj cs)

theorem choice_len (n : Nat) : ∀ (l : List Int) (last : Int), -1 ≤ last → choiceFrom n last l → (l.length : Int) ≤ n - 1 - last ∨ l = []
  | [], _, _, _ => .inr rfl
  | x :: l, last, h0, ⟨⟨h1, h2, h3⟩, h4⟩ => by
    rcases choice_len n l x (by omega) h4 with h | h
    · left; simp only [List.length_cons]; omega
    · left; subst h; simp only [List.length_cons, List.length_nil]; omega
theorem choice_at (n : Nat) : ∀ (l : List Int) (last : Int), choiceFrom n last l → ∀ i : Nat, i < l.length → 0 ≤ rd l (i : Int) ∧ rd l (i : Int) < n
  | [], _, _, i, h => by simp at h
  | x :: l, last, ⟨⟨h1, h2, h3⟩, h4⟩, 0, _ => by simpa [rd] using And.intro h2 h3
  | x :: l, last, ⟨⟨h1, h2, h3⟩, h4⟩, i + 1, h => by
    have := choice_at n l x h4 i (by simpa using h)
    have e : rd (x :: l) ((i + 1 : Nat) : Int) = rd l (i : Int) := by simp [rd]
    rw [e]; exact this
theorem choice_small {n : Nat} {l : List Int} (h : choiceOk n l) : l.length ≤ n := by
  rcases choice_len n l (-1) (by omega) h with h' | h'
  · omega
  · rw [h']; simp

theorem choice_l0 (l : List Int) (n : Nat) (hn : n ≤ 1000) : ∀ (d i k : Nat) (last : Int), i + d = l.length → d + 1 ≤ k → ((i : Int) - 1 ≤ last ∧ last < n) → (0 < i → last = rd l ((i : Int) - 1)) → (i = 0 → last = -1) →
    plan_isChoice.l0 k l (n : Int) l (l.length : Int) (i : Int) = some (decide (choiceFrom n last (l.drop i))) := by
  intro d
  induction d with
  | zero =>
    intro i k last hi hk _ _ _
    obtain ⟨k, rfl⟩ : ∃ m, k = m + 1 := ⟨k - 1, by omega⟩
    simp only [plan_isChoice.l0]
    rw [if_neg (by omega), List.drop_of_length_le (by omega)]
    first | rfl | (congr 1)
  | succ d ih =>
    intro i k last hi hk hinv hl1 hl0
    obtain ⟨k, rfl⟩ : ∃ m, k = m + 1 := ⟨k - 1, by omega⟩
    simp only [plan_isChoice.l0, in_f, Option.bind_some]
    have hw : wrap64 ((i : Int) + 1) = ((i + 1 : Nat) : Int) := by unfold wrap64; omega
    have hw1 : wrap64 ((n : Int) - 1) = (n : Int) - 1 := by unfold wrap64; omega
    rw [if_pos (by omega), if_pos (by omega), if_pos (by omega), hw, hw1, rd_dropI l i (by omega)]
    have h := fun hc : last < rd l (i : Int) ∧ rd l (i : Int) < n => ih (i + 1) k (rd l (i : Int)) (by omega) (by omega) (by omega) (fun _ => by rw [show ((i + 1 : Nat) : Int) - 1 = (i : Int) by omega]) (fun h => by omega)
    by_cases c1 : 0 ≤ rd l (i : Int) ∧ rd l (i : Int) ≤ (n : Int) - 1
    · rw [if_pos (by simpa using c1)]
      rcases Nat.eq_zero_or_pos i with h0 | h0
      · have hl00 := hl0 h0
        rw [if_neg (by omega), h (by omega), hl00]
        have : (-1 < rd l (i : Int) ∧ 0 ≤ rd l (i : Int) ∧ rd l (i : Int) < n) := by omega
        congr 1
        simp only [choiceFrom, this, true_and, and_self]
      · have hw2 : wrap64 ((i : Int) - 1) = (i : Int) - 1 := by unfold wrap64; omega
        rw [if_pos (by omega), hw2, if_pos (by omega), if_pos (by omega), ← hl1 h0]
        by_cases c2 : rd l (i : Int) ≤ last
        · rw [if_pos c2]
          congr 1; symm; rw [decide_eq_false_iff_not]; intro hh; have := hh.1.1; omega
        · rw [if_neg c2, h (by omega)]
          have : (last < rd l (i : Int) ∧ 0 ≤ rd l (i : Int) ∧ rd l (i : Int) < n) := by omega
          congr 1
          simp only [choiceFrom, this, true_and, and_self]
    · rw [if_neg (by simpa using c1)]
      congr 1; symm; rw [decide_eq_false_iff_not]; intro hh; exact c1 ⟨hh.1.2.1, by have := hh.1.2.2; omega⟩
theorem choice_pf (l : List Int) (n : Nat) (hn : n ≤ 1000) : plan_isChoice.f (l.length + 1) l (n : Int) = some (decide (choiceOk n l)) := by
  have := choice_l0 l n hn l.length 0 (l.length + 1) (-1) (by omega) (by omega) (by omega) (fun h => by omega) (fun _ => rfl)
  rw [List.drop_zero] at this
  exact this

def boolCells (l : List Bool) : Array Value := (l.map (fun x => Value.bool x)).toArray
theorem boolCells_set (l : List Bool) (i : Nat) (x : Bool) : (boolCells l).setIfInBounds i (.bool x) = boolCells (l.set i x) := by
  simp [boolCells, List.map_set]
theorem boolCells_get (l : List Bool) (i : Nat) (h : i < l.length) : (boolCells l)[i]? = some (.bool l[i]) := by simp [boolCells, h]
theorem made_bools (S : Nat) : madeCells #[.bool false] S = boolCells (List.replicate S false) := by
  apply Array.ext'
  simp [madeCells, boolCells, Nat.mod_one]
  apply List.ext_getElem <;> simp

theorem mn_lo {S : Int} (h0 : 0 ≤ S) : 0 ≤ S := h0
theorem giveS_le {sup cs : List Int} (h : ∀ x ∈ sup, unitOk x) : ∀ k : Nat, 0 ≤ giveS sup cs k ∧ giveS sup cs k ≤ 1000 * k := by
  have hr : ∀ i : Int, 0 ≤ rd sup i ∧ rd sup i ≤ 1000 := fun i => by
    unfold rd
    rw [List.getD_eq_getElem?_getD]
    cases e : sup[i.toNat]? with
    | none => simp
    | some x => exact h x (List.mem_of_getElem? e)
  intro k
  induction k with
  | zero => simp [giveS]
  | succ k ih => simp only [giveS]; have := hr (rd cs (k : Int)); omega
theorem foldl_give (ra : Int) (mk : List Bool) (h0 : 0 ≤ ra) (h1 : ra ≤ 1000) : ∀ (l : List Int) (g : Int), g ≤ l.foldl (giveStep ra mk) g ∧ l.foldl (giveStep ra mk) g ≤ g + 1000 * l.length := by
  intro l
  induction l with
  | nil => intro g; simp
  | cons x l ih =>
    intro g
    simp only [List.foldl_cons, List.length_cons]
    have := ih (giveStep ra mk g x)
    have h2 : g ≤ giveStep ra mk g x ∧ giveStep ra mk g x ≤ g + 1000 := by unfold giveStep; split <;> omega
    omega

/-- CheckCut's variables. -/
structure CM (w0 W : World) (b3 b7 b9 g7 : Nat) (A0 A2 A3 : Option Addr) (J c0 n2 c2 n3 c3 S : Nat) (mk : List Bool) (g : Int) : Prop where
  m3 : W.heap[b3]? = some (.cells #[.slice A0 J c0] 22 (0, 0))
  m5 : W.heap[b3 + 1]? = some (.cells #[.slice A2 n2 c2, .slice A3 n3 c3] 26 (0, 0))
  m7 : W.heap[b7]? = some (.cells #[.slice (some ⟨g7, 0, none⟩) S S] 54 (0, 0))
  mg : W.heap[g7]? = some (.cells (boolCells mk) 4 (0, 0))
  m9 : W.heap[b9]? = some (.cells #[.int .i64 g] 3 (0, 0))
  l3 : w0.heap.size ≤ b3
  l7 : w0.heap.size ≤ b7
  l9 : w0.heap.size ≤ b9
  lg : w0.heap.size ≤ g7
  b : Below w0.heap.size w0 W

section
variable {w0 W W1 : World} {b3 b7 b9 g7 : Nat} {A0 A2 A3 : Option Addr} {J c0 n2 c2 n3 c3 S : Nat} {mk : List Bool} {g : Int}
theorem CM.below (h : CM w0 W b3 b7 b9 g7 A0 A2 A3 J c0 n2 c2 n3 c3 S mk g) (hb : Below W.heap.size W W1) : CM w0 W1 b3 b7 b9 g7 A0 A2 A3 J c0 n2 c2 n3 c3 S mk g :=
  ⟨blk_below h.m3 hb, blk_below h.m5 hb, blk_below h.m7 hb, blk_below h.mg hb, blk_below h.m9 hb, h.l3, h.l7, h.l9, h.lg, below_then h.b h.b.size hb⟩
theorem CM.give (h : CM w0 W b3 b7 b9 g7 A0 A2 A3 J c0 n2 c2 n3 c3 S mk g) (g' : Int) : CM w0 (W.setCell ⟨b9, 0, none⟩ (.int .i64 g')) b3 b7 b9 g7 A0 A2 A3 J c0 n2 c2 n3 c3 S mk g' := by
  have h9 := blk_set h.m9 0 (.int .i64 g')
  refine ⟨blk_far h.m3 (by show b3 ≠ b9; exact blk_ne h.m3 h.m9 (by decide)) _, blk_far h.m5 (by show b3 + 1 ≠ b9; exact blk_ne h.m5 h.m9 (by decide)) _, blk_far h.m7 (by show b7 ≠ b9; exact blk_ne h.m7 h.m9 (by decide)) _, blk_far h.mg (by show g7 ≠ b9; exact blk_ne h.mg h.m9 (by decide)) _, h9, h.l3, h.l7, h.l9, h.lg, h.b.setCell (by show w0.heap.size ≤ b9; exact h.l9) _⟩
theorem CM.mark (h : CM w0 W b3 b7 b9 g7 A0 A2 A3 J c0 n2 c2 n3 c3 S mk g) (i : Nat) : CM w0 (W.setCell ⟨g7, i, none⟩ (.bool true)) b3 b7 b9 g7 A0 A2 A3 J c0 n2 c2 n3 c3 S (mk.set i true) g := by
  have hk := blk_set h.mg i (.bool true)
  rw [boolCells_set] at hk
  exact ⟨blk_far h.m3 (by show b3 ≠ g7; exact blk_ne h.m3 h.mg (by decide)) _, blk_far h.m5 (by show b3 + 1 ≠ g7; exact blk_ne h.m5 h.mg (by decide)) _, blk_far h.m7 (by show b7 ≠ g7; exact blk_ne h.m7 h.mg (by decide)) _, hk, blk_far h.m9 (by show b9 ≠ g7; exact blk_ne h.m9 h.mg (by decide)) _, h.l3, h.l7, h.l9, h.lg, h.b.setCell (by show w0.heap.size ≤ g7; exact h.lg) _⟩
theorem CM.own {B : Nat} (h : CM w0 W b3 b7 b9 g7 A0 A2 A3 J c0 n2 c2 n3 c3 S mk g) (hB : w0.heap.size ≤ B) {row : Option Nat} (hg : W.grownBy W1 row) (hr : ∀ r, row = some r → B ≤ r ∧ ∃ o : Obj, W.heap[r]? = some o ∧ o.isCells = false) : CM w0 W1 b3 b7 b9 g7 A0 A2 A3 J c0 n2 c2 n3 c3 S mk g := by
  have keep : ∀ (k : Nat) (cs : Array Value) (t : TypeId), W.heap[k]? = some (.cells cs t (0, 0)) → W1.heap[k]? = some (.cells cs t (0, 0)) := fun k cs t ho => (hg.block k (blk_lt ho) (fun e => by
    obtain ⟨_, o', ho', hc'⟩ := hr k e.symm
    rw [ho] at ho'; cases ho'; cases hc')).trans ho
  exact ⟨keep _ _ _ h.m3, keep _ _ _ h.m5, keep _ _ _ h.m7, keep _ _ _ h.mg, keep _ _ _ h.m9, h.l3, h.l7, h.l9, h.lg, h.b.grown hg h.b.size (fun k e => Nat.le_trans hB (hr k e).1)⟩
end

noncomputable def cutCode : Code := Try.f18.body.getD .skip
noncomputable def cut3c : Code := codeTl (codeTl cutCode)
noncomputable def cut5c : Code := codeTl (codeTl cut3c)
noncomputable def cut11c : Code := codeTl cut5c
noncomputable def cut20c : Code := codeTl cut11c
end Go.Proofs.Ytioglahnliajlaa.Pr
