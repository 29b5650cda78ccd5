set_option linter.unusedVariables false
set_option linter.unusedSimpArgs false

/-! Sums, flows and cuts: plain facts, no program in sight. -/
namespace Go.Proofs.Ytioglahnliajlaa.FlowTheory

def sumN : Nat → (Nat → Int) → Int
  | 0, _ => 0
  | n + 1, g => sumN n g + g n

theorem sumN_congr {n : Nat} {f g : Nat → Int} (h : ∀ i, i < n → f i = g i) : sumN n f = sumN n g := by
  induction n with
  | zero => rfl
  | succ n ih => simp only [sumN]; rw [ih (fun i hi => h i (by omega)), h n (by omega)]

theorem sumN_le {n : Nat} {f g : Nat → Int} (h : ∀ i, i < n → f i ≤ g i) : sumN n f ≤ sumN n g := by
  induction n with
  | zero => exact Int.le_refl _
  | succ n ih => simp only [sumN]; have := ih (fun i hi => h i (by omega)); have := h n (by omega); omega

theorem sumN_add (n : Nat) (f g : Nat → Int) : sumN n (fun i => f i + g i) = sumN n f + sumN n g := by
  induction n with
  | zero => rfl
  | succ n ih => simp only [sumN]; omega

theorem sumN_sub (n : Nat) (f g : Nat → Int) : sumN n (fun i => f i - g i) = sumN n f - sumN n g := by
  induction n with
  | zero => rfl
  | succ n ih => simp only [sumN]; omega

theorem sumN_neg (n : Nat) (f : Nat → Int) : sumN n (fun i => - f i) = - sumN n f := by
  induction n with
  | zero => rfl
  | succ n ih => simp only [sumN]; omega

theorem sumN_zero {n : Nat} {f : Nat → Int} (h : ∀ i, i < n → f i = 0) : sumN n f = 0 := by
  induction n with
  | zero => rfl
  | succ n ih => simp only [sumN]; rw [ih (fun i hi => h i (by omega)), h n (by omega)]; rfl

theorem sumN_mul (n : Nat) (c : Int) (f : Nat → Int) : sumN n (fun i => c * f i) = c * sumN n f := by
  induction n with
  | zero => simp [sumN]
  | succ n ih => simp only [sumN]; rw [ih, Int.mul_add]

theorem sumN_nonneg {n : Nat} {f : Nat → Int} (h : ∀ i, i < n → 0 ≤ f i) : 0 ≤ sumN n f := by
  have := sumN_le (n := n) (f := fun _ => 0) (g := f) h
  rw [sumN_zero (fun _ _ => rfl)] at this
  exact this

theorem sumN_ite (n : Nat) (p : Prop) [Decidable p] (f : Nat → Int) : (if p then sumN n f else 0) = sumN n (fun i => if p then f i else 0) := by
  by_cases h : p
  · simp [h]
  · simp only [h, if_false]; exact (sumN_zero (fun _ _ => rfl)).symm

theorem sumN_comm (n m : Nat) (F : Nat → Nat → Int) : sumN n (fun i => sumN m (fun j => F i j)) = sumN m (fun j => sumN n (fun i => F i j)) := by
  induction n with
  | zero => simp only [sumN]; exact (sumN_zero (fun _ _ => rfl)).symm
  | succ n ih => simp only [sumN]; rw [ih, sumN_add]

theorem sumN_single {n : Nat} {a : Nat} (ha : a < n) (c : Int) : sumN n (fun v => if v = a then c else 0) = c := by
  induction n with
  | zero => omega
  | succ n ih =>
    simp only [sumN]
    by_cases h : n = a
    · subst h
      rw [sumN_zero (fun i hi => by simp [show i ≠ n by omega])]; simp
    · rw [ih (by omega)]; simp [h]

/-- What leaves node v, less what comes in. -/
def net (m : Nat) (fr to f : Nat → Int) (v : Int) : Int :=
  sumN m (fun i => (if fr i = v then f i else 0) - (if to i = v then f i else 0))

/-- What crosses from a side, less what comes back. -/
def cross (m : Nat) (fr to f : Nat → Int) (S : Int → Bool) : Int :=
  sumN m (fun i => (if S (fr i) = true then f i else 0) - (if S (to i) = true then f i else 0))

def capOf (m : Nat) (fr to cap : Nat → Int) (S : Int → Bool) : Int :=
  sumN m (fun i => if S (fr i) = true ∧ S (to i) = false then cap i else 0)

/-- Ends in range. -/
def Ends (m N : Nat) (fr to : Nat → Int) : Prop := ∀ i, i < m → 0 ≤ fr i ∧ fr i < N ∧ 0 ≤ to i ∧ to i < N

structure IsFlow (m N : Nat) (fr to cap : Nat → Int) (s t : Int) (f : Nat → Int) : Prop where
  lo : ∀ i, i < m → 0 ≤ f i
  hi : ∀ i, i < m → f i ≤ cap i
  keep : ∀ v : Int, 0 ≤ v → v < N → v ≠ s → v ≠ t → net m fr to f v = 0

structure IsCut (s t : Int) (S : Int → Bool) : Prop where
  src : S s = true
  snk : S t = false

theorem pick {N : Nat} (S : Int → Bool) (a c : Int) (h0 : 0 ≤ a) (h1 : a < N) :
    sumN N (fun v => if S (v : Int) = true then (if a = (v : Int) then c else 0) else 0) = if S a = true then c else 0 := by
  obtain ⟨k, rfl⟩ := Int.eq_ofNat_of_zero_le h0
  rw [← sumN_single (n := N) (a := k) (by omega) (if S (k : Int) = true then c else 0)]
  refine sumN_congr fun v _ => ?_
  by_cases e : v = k
  · subst e; simp
  · have : ¬ ((k : Int) = (v : Int)) := by omega
    simp [e, this]

theorem net_sum {m N : Nat} {fr to : Nat → Int} (he : Ends m N fr to) (f : Nat → Int) (S : Int → Bool) :
    sumN N (fun v => if S (v : Int) = true then net m fr to f v else 0) = cross m fr to f S := by
  unfold net cross
  rw [sumN_congr (fun v _ => sumN_ite m (S (v : Int) = true) _), sumN_comm]
  refine sumN_congr fun i hi => ?_
  obtain ⟨a0, a1, b0, b1⟩ := he i hi
  rw [← pick S (fr i) (f i) a0 a1, ← pick S (to i) (f i) b0 b1, ← sumN_sub]
  refine sumN_congr fun v _ => ?_
  by_cases h : S (v : Int) = true <;> simp [h]

/-- The amount of a flow is what crosses any cut. -/
theorem amount_cross {m N : Nat} {fr to cap f : Nat → Int} {s t : Int} {S : Int → Bool} (he : Ends m N fr to)
    (hf : IsFlow m N fr to cap s t f) (hs : IsCut s t S) (s0 : 0 ≤ s) (s1 : s < N) : net m fr to f s = cross m fr to f S := by
  rw [← net_sum he]
  obtain ⟨k, rfl⟩ := Int.eq_ofNat_of_zero_le s0
  rw [← sumN_single (n := N) (a := k) (by omega) (net m fr to f k)]
  refine sumN_congr fun v hv => ?_
  by_cases e : v = k
  · subst e; simp [hs.src]
  · rw [if_neg e]
    by_cases hS : S (v : Int) = true
    · rw [if_pos hS, hf.keep v (by omega) (by omega) (by omega) ?_]
      rintro rfl
      rw [hs.snk] at hS; cases hS
    · rw [if_neg hS]

theorem cross_le {m : Nat} {fr to cap f : Nat → Int} {S : Int → Bool} (lo : ∀ i, i < m → 0 ≤ f i) (hi : ∀ i, i < m → f i ≤ cap i) :
    cross m fr to f S ≤ capOf m fr to cap S := by
  refine sumN_le fun i h => ?_
  have h0 := lo i h
  have h1 := hi i h
  cases S (fr i) <;> cases S (to i) <;> simp <;> omega

theorem weak {m N : Nat} {fr to cap f : Nat → Int} {s t : Int} {S : Int → Bool} (he : Ends m N fr to)
    (hf : IsFlow m N fr to cap s t f) (hs : IsCut s t S) (s0 : 0 ≤ s) (s1 : s < N) : net m fr to f s ≤ capOf m fr to cap S := by
  rw [amount_cross he hf hs s0 s1]; exact cross_le hf.lo hf.hi

/-- No step is left out of a side: the cut is full. -/
theorem full {m N : Nat} {fr to cap f : Nat → Int} {s t : Int} {S : Int → Bool} (he : Ends m N fr to)
    (hf : IsFlow m N fr to cap s t f) (hs : IsCut s t S) (s0 : 0 ≤ s) (s1 : s < N)
    (ho : ∀ i, i < m → S (fr i) = true → S (to i) = false → f i = cap i) (hb : ∀ i, i < m → S (to i) = true → S (fr i) = false → f i = 0) :
    net m fr to f s = capOf m fr to cap S := by
  rw [amount_cross he hf hs s0 s1]
  refine sumN_congr fun i h => ?_
  have h0 := ho i h
  have h1 := hb i h
  cases e1 : S (fr i) <;> cases e2 : S (to i) <;> simp [e1, e2] at h0 h1 ⊢ <;> omega

/-- What leaves all nodes together. -/
theorem net_all {m N : Nat} {fr to : Nat → Int} (he : Ends m N fr to) (f : Nat → Int) : sumN N (fun v => net m fr to f v) = 0 := by
  have h := net_sum he f (fun _ => true)
  simp only [if_true] at h
  rw [h]; unfold cross
  exact sumN_zero fun i _ => by simp

theorem net_ends {m N : Nat} {fr to cap f : Nat → Int} {s t : Int} (he : Ends m N fr to)
    (hf : IsFlow m N fr to cap s t f) (s0 : 0 ≤ s) (s1 : s < N) (t0 : 0 ≤ t) (t1 : t < N) (hst : s ≠ t) : net m fr to f t = - net m fr to f s := by
  have h := net_all he f
  obtain ⟨a, rfl⟩ := Int.eq_ofNat_of_zero_le s0
  obtain ⟨b, rfl⟩ := Int.eq_ofNat_of_zero_le t0
  have e : sumN N (fun v => net m fr to f v) = sumN N (fun v => (if v = a then net m fr to f a else 0) + (if v = b then net m fr to f b else 0)) := by
    refine sumN_congr fun v hv => ?_
    by_cases ea : v = a
    · subst ea
      have : ¬ v = b := by omega
      simp [this]
    · by_cases eb : v = b
      · subst eb; simp [ea]
      · simp only [ea, eb, if_false]
        exact hf.keep v (by omega) (by omega) (by omega) (by omega)
  rw [e, sumN_add, sumN_single (by omega), sumN_single (by omega)] at h
  omega

end Go.Proofs.Ytioglahnliajlaa.FlowTheory

/-! The greatest flow, as the code finds it: plain functions. -/
namespace Go.Proofs.Ytioglahnliajlaa.FlowM
abbrev E := Int × Int × Int

structure Step where
  edge : Nat
  back : Bool
  to : Int
  room : Int

/-- What edge i offers from a node. -/
def offer (es : List E) (fl : List Int) (fr : Int) (i : Nat) : Option Step :=
  match es[i]? with
  | none => none
  | some e =>
    if e.1 = e.2.1 then none
    else if e.1 = fr ∧ fl.getD i 0 < e.2.2 then some ⟨i, false, e.2.1, e.2.2 - fl.getD i 0⟩
    else if e.2.1 = fr ∧ 0 < fl.getD i 0 then some ⟨i, true, e.1, fl.getD i 0⟩
    else none

structure St where
  seen : List Bool
  by_ : List (Int × Step)
  q : List Int

def sees (l : List Bool) (v : Int) : Bool := l.getD v.toNat false

/-- One step is met; true: the sink is reached. -/
def meet (sink : Int) (st : St) (s : Step) : St × Bool :=
  if sees st.seen s.to = true then (st, false)
  else ({ seen := st.seen.set s.to.toNat true, by_ := st.by_ ++ [(s.to, s)], q := st.q ++ [s.to] }, decide (s.to = sink))

/-- The edges from place i on, d of them. -/
def scan (es : List E) (fl : List Int) (fr sink : Int) : Nat → Nat → St → St × Bool
  | 0, _, st => (st, false)
  | d + 1, i, st =>
    match offer es fl fr i with
    | none => scan es fl fr sink d (i + 1) st
    | some s => if (meet sink st s).2 = true then ((meet sink st s).1, true) else scan es fl fr sink d (i + 1) (meet sink st s).1

def bfs (es : List E) (fl : List Int) (sink : Int) : Nat → St → Option St
  | 0, _ => none
  | k + 1, st =>
    match st.q with
    | [] => some st
    | n :: q =>
      if (scan es fl n sink es.length 0 { st with q := q }).2 = true then some (scan es fl n sink es.length 0 { st with q := q }).1
      else bfs es fl sink k (scan es fl n sink es.length 0 { st with q := q }).1

def find (l : List (Int × Step)) (v : Int) : Option Step := (l.find? (fun p => p.1 == v)).map (·.2)

/-- The node from which a step leads. -/
def other (es : List E) (s : Step) : Int := let e := es.getD s.edge (0, 0, 0); if s.back = true then e.2.1 else e.1

/-- The way back from a node to the source. -/
def way (es : List E) (by_ : List (Int × Step)) (source : Int) : Nat → Int → Option (List Step)
  | 0, _ => none
  | k + 1, n =>
    if n = source then some []
    else match find by_ n with
      | none => none
      | some s => (way es by_ source k (other es s)).map (s :: ·)

def roomOf (p : List Step) : Int := p.foldl (fun r s => min r s.room) 1000000

def bump (room : Int) (fl : List Int) (s : Step) : List Int :=
  fl.set s.edge (if s.back = true then fl.getD s.edge 0 - room else fl.getD s.edge 0 + room)

def start (nodes : Nat) (source : Int) : St := { seen := (List.replicate nodes false).set source.toNat true, by_ := [], q := [source] }

def most (nodes : Nat) (es : List E) (source sink : Int) : Nat → List Int → Int → Option (Int × List Int × List Bool)
  | 0, _, _ => none
  | k + 1, fl, amount =>
    match bfs es fl sink (nodes + 1) (start nodes source) with
    | none => none
    | some st =>
      if sees st.seen sink = true then
        match way es st.by_ source (nodes + 1) sink with
        | none => none
        | some p => most nodes es source sink k (p.foldl (bump (roomOf p)) fl) (amount + roomOf p)
      else some (amount, fl, st.seen)

end Go.Proofs.Ytioglahnliajlaa.FlowM

/-! The search and the push are right: plain proofs about FlowM. -/
namespace Go.Proofs.Ytioglahnliajlaa.FlowM
open Go.Proofs.Ytioglahnliajlaa.FlowTheory

def frF (es : List E) (i : Nat) : Int := (es.getD i (0, 0, 0)).1
def toF (es : List E) (i : Nat) : Int := (es.getD i (0, 0, 0)).2.1
def capF (es : List E) (i : Nat) : Int := (es.getD i (0, 0, 0)).2.2
def flF (fl : List Int) (i : Nat) : Int := fl.getD i 0

structure Ok (nodes : Nat) (es : List E) : Prop where
  ends : Ends es.length nodes (frF es) (toF es)
  cap : ∀ i, i < es.length → 0 ≤ capF es i ∧ capF es i ≤ 1000000

theorem other_eq (es : List E) (s : Step) : other es s = if s.back = true then toF es s.edge else frF es s.edge := rfl

/-- What an offer is. -/
theorem offer_some {es : List E} {fl : List Int} {u : Int} {i : Nat} {s : Step} (h : offer es fl u i = some s) :
    i < es.length ∧ s.edge = i ∧ other es s = u ∧ u ≠ s.to ∧ 0 < s.room ∧
    ((s.back = false ∧ frF es i = u ∧ toF es i = s.to ∧ s.room = capF es i - flF fl i) ∨ (s.back = true ∧ toF es i = u ∧ frF es i = s.to ∧ s.room = flF fl i)) := by
  unfold offer at h
  cases he : es[i]? with
  | none => rw [he] at h; cases h
  | some e =>
    rw [he] at h
    have hi : i < es.length := by rcases Nat.lt_or_ge i es.length with h | h; exact h; rw [List.getElem?_eq_none h] at he; cases he
    have hd : es.getD i (0, 0, 0) = e := by rw [List.getD_eq_getElem?_getD, he]; rfl
    have h1 : frF es i = e.1 := by rw [frF, hd]
    have h2 : toF es i = e.2.1 := by rw [toF, hd]
    have h3 : capF es i = e.2.2 := by rw [capF, hd]
    simp only at h
    by_cases c0 : e.1 = e.2.1
    · rw [if_pos c0] at h; cases h
    · rw [if_neg c0] at h
      by_cases c1 : e.1 = u ∧ fl.getD i 0 < e.2.2
      · rw [if_pos c1] at h; cases h
        refine ⟨hi, rfl, ?_, ?_, ?_, .inl ⟨rfl, ?_, ?_, ?_⟩⟩
        · rw [other_eq]; simp; rw [h1]; exact c1.1
        · show u ≠ e.2.1; rw [← c1.1]; exact c0
        · show 0 < e.2.2 - fl.getD i 0; omega
        · rw [h1]; exact c1.1
        · exact h2
        · show _ = capF es i - flF fl i; rw [h3]; rfl
      · rw [if_neg c1] at h
        by_cases c2 : e.2.1 = u ∧ 0 < fl.getD i 0
        · rw [if_pos c2] at h; cases h
          refine ⟨hi, rfl, ?_, ?_, c2.2, .inr ⟨rfl, ?_, ?_, rfl⟩⟩
          · rw [other_eq]; simp; rw [h2]; exact c2.1
          · show u ≠ e.1; rw [← c2.1]; exact fun x => c0 x.symm
          · rw [h2]; exact c2.1
          · exact h1
        · rw [if_neg c2] at h; cases h

theorem offer_none {es : List E} {fl : List Int} {u : Int} {i : Nat} (hi : i < es.length) (h : offer es fl u i = none) :
    frF es i = toF es i ∨ ((frF es i = u → capF es i ≤ flF fl i) ∧ (toF es i = u → ¬ (frF es i = u ∧ flF fl i < capF es i) → flF fl i ≤ 0)) := by
  unfold offer at h
  rw [List.getElem?_eq_getElem hi] at h
  have hd : es.getD i (0, 0, 0) = es[i] := by rw [List.getD_eq_getElem?_getD, List.getElem?_eq_getElem hi]; rfl
  have h1 : frF es i = es[i].1 := by rw [frF, hd]
  have h2 : toF es i = es[i].2.1 := by rw [toF, hd]
  have h3 : capF es i = es[i].2.2 := by rw [capF, hd]
  simp only at h
  by_cases c0 : es[i].1 = es[i].2.1
  · left; rw [h1, h2]; exact c0
  · rw [if_neg c0] at h
    by_cases c1 : es[i].1 = u ∧ fl.getD i 0 < es[i].2.2
    · rw [if_pos c1] at h; cases h
    · rw [if_neg c1] at h
      by_cases c2 : es[i].2.1 = u ∧ 0 < fl.getD i 0
      · rw [if_pos c2] at h; cases h
      · right
        rw [h1, h2, h3]
        unfold flF
        constructor
        · intro e; rcases Int.lt_or_le (fl.getD i 0) es[i].2.2 with h | h
          · exact absurd ⟨e, h⟩ c1
          · exact h
        · intro e _; rcases Int.lt_or_le 0 (fl.getD i 0) with h | h
          · exact absurd ⟨e, h⟩ c2
          · exact h

/-! ### The search -/

theorem sees_set {l : List Bool} {a : Int} (h0 : 0 ≤ a) (h1 : a < l.length) (v : Int) (hv : 0 ≤ v) :
    sees (l.set a.toNat true) v = if v = a then true else sees l v := by
  unfold sees
  by_cases e : v = a
  · subst e; rw [if_pos rfl]; have h2 : v.toNat < l.length := by omega
    simp [List.getD_eq_getElem?_getD, h2]
  · rw [if_neg e]
    have : a.toNat ≠ v.toNat := by omega
    simp [List.getD_eq_getElem?_getD, this]

theorem count_set : ∀ (l : List Bool) (a : Nat), a < l.length → l.getD a false = false → (l.set a true).count false + 1 = l.count false
  | [], _, h, _ => by simp at h
  | b :: l, 0, _, hb => by simp at hb; subst hb; simp
  | b :: l, a + 1, h, hb => by
    have := count_set l a (by simpa using h) (by simpa using hb)
    cases b <;> simp <;> omega

structure Inv (nodes : Nat) (es : List E) (fl : List Int) (source : Int) (st : St) : Prop where
  src0 : 0 ≤ source
  len : st.seen.length = nodes
  src : sees st.seen source = true
  step : ∀ (j : Nat) (v : Int) (s : Step), st.by_[j]? = some (v, s) → s.to = v ∧ v ≠ source ∧ sees st.seen v = true ∧ offer es fl (other es s) s.edge = some s ∧
    (other es s = source ∨ ∃ (j' : Nat) (s' : Step), j' < j ∧ st.by_[j']? = some (other es s, s'))
  one : ∀ (j j' : Nat) (v : Int) (s s' : Step), st.by_[j]? = some (v, s) → st.by_[j']? = some (v, s') → j = j'
  all : ∀ v : Int, 0 ≤ v → v < nodes → sees st.seen v = true → v = source ∨ ∃ (j : Nat) (s : Step), st.by_[j]? = some (v, s)
  inq : ∀ v ∈ st.q, 0 ≤ v ∧ v < nodes ∧ sees st.seen v = true

/-- All that v offers is seen. -/
def Closed (es : List E) (fl : List Int) (seen : List Bool) (v : Int) : Prop := ∀ i s, offer es fl v i = some s → sees seen s.to = true

theorem offer_range {nodes : Nat} {es : List E} (ok : Ok nodes es) {fl : List Int} {u : Int} {i : Nat} {s : Step} (h : offer es fl u i = some s) : 0 ≤ s.to ∧ s.to < nodes := by
  obtain ⟨hi, _, _, _, _, h | h⟩ := offer_some h
  · have := ok.ends i hi; rw [← h.2.2.1]; omega
  · have := ok.ends i hi; rw [← h.2.2.1]; omega

theorem meet_inv {nodes : Nat} {es : List E} (ok : Ok nodes es) {fl : List Int} {source sink n : Int} {st : St} (hI : Inv nodes es fl source st) (hn0 : 0 ≤ n) (hn1 : n < nodes)
    (hn : sees st.seen n = true) {i : Nat} {s : Step} (hs : offer es fl n i = some s) :
    Inv nodes es fl source (meet sink st s).1 ∧ (∀ v : Int, 0 ≤ v → sees st.seen v = true → sees (meet sink st s).1.seen v = true) ∧ sees (meet sink st s).1.seen s.to = true ∧
    ((meet sink st s).2 = true → s.to = sink) ∧
    (meet sink st s).1.seen.count false + (meet sink st s).1.q.length = st.seen.count false + st.q.length ∧
    (∀ v : Int, 0 ≤ v → sees (meet sink st s).1.seen v = true → sees st.seen v = true ∨ v ∈ (meet sink st s).1.q) ∧ (∀ v ∈ st.q, v ∈ (meet sink st s).1.q) ∧
    ((meet sink st s).2 = false → sees st.seen sink = false → 0 ≤ sink → sees (meet sink st s).1.seen sink = false) := by
  obtain ⟨r0, r1⟩ := offer_range ok hs
  have hso := offer_some hs
  unfold meet
  by_cases c : sees st.seen s.to = true
  · simp only [c, if_true]
    exact ⟨hI, fun v _ h => h, trivial, (fun h => by cases h), trivial, fun v _ h => .inl h, fun v h => h, fun _ h _ => h⟩
  · simp only [c, if_false, Bool.false_eq_true]
    have hlen := hI.len
    have hset : ∀ v, 0 ≤ v → sees (st.seen.set s.to.toNat true) v = if v = s.to then true else sees st.seen v := fun v hv => sees_set r0 (by omega) v hv
    have hmono : ∀ v, 0 ≤ v → sees st.seen v = true → sees (st.seen.set s.to.toNat true) v = true := fun v hv h => by rw [hset v hv]; split <;> simp [h]
    have hnotsrc : s.to ≠ source := fun e => c (by rw [e]; exact hI.src)
    have hsrc0 : ∀ v, sees st.seen v = true → v ≠ s.to := fun v h e => c (by rw [← e]; exact h)
    have hnew : ∀ (j : Nat) (v : Int) (t : Step), (st.by_ ++ [(s.to, s)])[j]? = some (v, t) → (j < st.by_.length ∧ st.by_[j]? = some (v, t)) ∨ (j = st.by_.length ∧ v = s.to ∧ t = s) := by
      intro j v t h
      rw [List.getElem?_append] at h
      by_cases hj : j < st.by_.length
      · rw [if_pos hj] at h; exact .inl ⟨hj, h⟩
      · rw [if_neg hj] at h
        by_cases hj' : j = st.by_.length
        · subst hj'; simp at h; exact .inr ⟨rfl, h.1.symm, h.2.symm⟩
        · rw [List.getElem?_eq_none (by simp; omega)] at h; cases h
    have hold : ∀ (j : Nat) (p : Int × Step), st.by_[j]? = some p → (st.by_ ++ [(s.to, s)])[j]? = some p := by
      intro j p h
      have hj : j < st.by_.length := by rcases Nat.lt_or_ge j st.by_.length with h' | h'; exact h'; rw [List.getElem?_eq_none h'] at h; cases h
      rw [List.getElem?_append, if_pos hj]; exact h
    have hlt : ∀ (j : Nat) (p : Int × Step), st.by_[j]? = some p → j < st.by_.length := by
      intro j p h
      rcases Nat.lt_or_ge j st.by_.length with h' | h'; exact h'; rw [List.getElem?_eq_none h'] at h; cases h
    have rng : ∀ u i t, offer es fl u i = some t → 0 ≤ t.to := fun u i t h => (offer_range ok h).1
    refine ⟨⟨hI.src0, by simp [hlen], ?_, ?_, ?_, ?_, ?_⟩, hmono, ?_, fun h => by simpa using h, ?_, ?_, ?_, ?_⟩
    · exact hmono _ hI.src0 hI.src
    · intro j v t h
      rcases hnew j v t h with ⟨hj, h⟩ | ⟨hj, rfl, rfl⟩
      · obtain ⟨a, b, d, e, f⟩ := hI.step j v t h
        refine ⟨a, b, hmono v (by rw [← a]; exact rng _ _ _ e) d, e, ?_⟩
        rcases f with f | ⟨j', s', hj', f⟩
        · exact .inl f
        · exact .inr ⟨j', s', hj', hold _ _ f⟩
      · refine ⟨rfl, hnotsrc, by rw [hset _ r0, if_pos rfl], ?_, ?_⟩
        · rw [hso.2.2.1, hso.2.1]; exact hs
        · rw [hso.2.2.1]
          rcases hI.all n hn0 hn1 hn with e | ⟨j', s', e⟩
          · exact .inl e
          · exact .inr ⟨j', s', by rw [hj]; exact hlt _ _ e, hold _ _ e⟩
    · intro j j' v t t' h h'
      rcases hnew j v t h with ⟨hj, h⟩ | ⟨hj, e1, e2⟩
      · rcases hnew j' v t' h' with ⟨hj', h'⟩ | ⟨hj', e1', e2'⟩
        · exact hI.one j j' v t t' h h'
        · exact absurd e1' (hsrc0 v (hI.step j v t h).2.2.1)
      · rcases hnew j' v t' h' with ⟨hj', h'⟩ | ⟨hj', e1', e2'⟩
        · exact absurd e1 (hsrc0 v (hI.step j' v t' h').2.2.1)
        · omega
    · intro v h0 h1 hv
      rw [hset v h0] at hv
      by_cases e : v = s.to
      · subst e
        exact .inr ⟨st.by_.length, s, by rw [List.getElem?_append, if_neg (by omega)]; simp⟩
      · rw [if_neg e] at hv
        rcases hI.all v h0 h1 hv with h | ⟨j, t, h⟩
        · exact .inl h
        · exact .inr ⟨j, t, hold _ _ h⟩
    · intro v hv
      rcases List.mem_append.1 hv with h | h
      · obtain ⟨a, b, d⟩ := hI.inq v h
        exact ⟨a, b, hmono v a d⟩
      · simp at h; subst h
        exact ⟨r0, r1, by rw [hset _ r0, if_pos rfl]⟩
    · rw [hset _ r0, if_pos rfl]
    · have h2 := count_set st.seen s.to.toNat (by omega) (by unfold sees at c; simpa using c)
      simp; omega
    · intro v h0 hv
      rw [hset v h0] at hv
      by_cases e : v = s.to
      · right; simp [e]
      · rw [if_neg e] at hv; exact .inl hv
    · intro v h; simp [h]
    · intro hf hs0 h0
      rw [hset _ h0]
      have : ¬ s.to = sink := by simpa using hf
      rw [if_neg (fun e => this e.symm)]; exact hs0

theorem scan_inv {nodes : Nat} {es : List E} (ok : Ok nodes es) {fl : List Int} {source sink n : Int} (hn0 : 0 ≤ n) (hn1 : n < nodes) (hk : 0 ≤ sink) :
    ∀ (d i : Nat) (st : St), i + d = es.length → Inv nodes es fl source st → sees st.seen n = true → sees st.seen sink = false →
    (∀ (j : Nat) (s : Step), j < i → offer es fl n j = some s → sees st.seen s.to = true) →
    (∀ v : Int, 0 ≤ v → v < nodes → sees st.seen v = true → v = n ∨ v ∈ st.q ∨ Closed es fl st.seen v) →
    let r := scan es fl n sink d i st
    Inv nodes es fl source r.1 ∧ r.1.seen.count false + r.1.q.length = st.seen.count false + st.q.length ∧
    (r.2 = true → sees r.1.seen sink = true) ∧
    (r.2 = false → sees r.1.seen sink = false ∧ ∀ v : Int, 0 ≤ v → v < nodes → sees r.1.seen v = true → v ∈ r.1.q ∨ Closed es fl r.1.seen v) := by
  intro d
  induction d with
  | zero =>
    intro i st hid hI hn hsk hpart hcl
    simp only [scan]
    refine ⟨hI, trivial, (fun h => by cases h), fun _ => ⟨hsk, fun v h0 h1 hv => ?_⟩⟩
    rcases hcl v h0 h1 hv with h | h | h
    · right
      subst h
      intro j s hj
      exact hpart j s (by have := (offer_some hj).1; omega) hj
    · exact .inl h
    · exact .inr h
  | succ d ih =>
    intro i st hid hI hn hsk hpart hcl
    simp only [scan]
    cases ho : offer es fl n i with
    | none =>
      simp only
      refine ih (i + 1) st (by omega) hI hn hsk ?_ hcl
      intro j s hj h
      by_cases e : j = i
      · subst e; rw [ho] at h; cases h
      · exact hpart j s (by omega) h
    | some s =>
      simp only
      obtain ⟨m1, m2, m3, m4, m5, m6, m7, m8⟩ := meet_inv (sink := sink) ok hI hn0 hn1 hn ho
      by_cases hf : (meet sink st s).2 = true
      · rw [if_pos hf]
        refine ⟨m1, m5, fun _ => ?_, fun h => by cases h⟩
        rw [m4 hf] at m3; exact m3
      · rw [if_neg hf]
        have hcl' : ∀ v, Closed es fl st.seen v → Closed es fl (meet sink st s).1.seen v := fun v h i t ht => m2 _ (offer_range ok ht).1 (h i t ht)
        have h := ih (i + 1) (meet sink st s).1 (by omega) m1 (m2 n hn0 hn) (m8 (by simpa using hf) hsk hk) ?_ ?_
        · rw [m5] at h; exact h
        · intro j t hj h
          by_cases e : j = i
          · subst e; rw [ho] at h; cases h; exact m3
          · exact m2 _ (offer_range ok h).1 (hpart j t (by omega) h)
        · intro v h0 h1 hv
          rcases m6 v h0 hv with h | h
          · rcases hcl v h0 h1 h with h | h | h
            · exact .inl h
            · exact .inr (.inl (m7 v h))
            · exact .inr (.inr (hcl' v h))
          · exact .inr (.inl h)

theorem bfs_inv {nodes : Nat} {es : List E} (ok : Ok nodes es) {fl : List Int} {source sink : Int} (hk : 0 ≤ sink) :
    ∀ (k : Nat) (st : St), st.seen.count false + st.q.length < k → Inv nodes es fl source st → sees st.seen sink = false →
    (∀ v : Int, 0 ≤ v → v < nodes → sees st.seen v = true → v ∈ st.q ∨ Closed es fl st.seen v) →
    ∃ st', bfs es fl sink k st = some st' ∧ Inv nodes es fl source st' ∧
      (sees st'.seen sink = false → ∀ v : Int, 0 ≤ v → v < nodes → sees st'.seen v = true → Closed es fl st'.seen v) := by
  intro k
  induction k with
  | zero => intro st h; omega
  | succ k ih =>
    intro st hc hI hsk hcl
    simp only [bfs]
    cases hq : st.q with
    | nil =>
      refine ⟨st, rfl, hI, fun _ v h0 h1 hv => ?_⟩
      rcases hcl v h0 h1 hv with h | h
      · rw [hq] at h; cases h
      · exact h
    | cons n q =>
      simp only
      have hnq := hI.inq n (by rw [hq]; simp)
      have hI' : Inv nodes es fl source { st with q := q } := ⟨hI.src0, hI.len, hI.src, hI.step, hI.one, hI.all, fun v hv => hI.inq v (by rw [hq]; simp [hv])⟩
      have h := scan_inv ok (sink := sink) hnq.1 hnq.2.1 hk es.length 0 { st with q := q } (by omega) hI' hnq.2.2 hsk (fun j s hj => by omega) (fun v h0 h1 hv => by
        rcases hcl v h0 h1 hv with h | h
        · rw [hq] at h; rcases List.mem_cons.1 h with h | h
          · exact .inl h
          · exact .inr (.inl h)
        · exact .inr (.inr h))
      obtain ⟨a, b, c, d⟩ := h
      by_cases hf : (scan es fl n sink es.length 0 { st with q := q }).2 = true
      · rw [if_pos hf]
        refine ⟨_, rfl, a, fun hs => ?_⟩
        rw [c hf] at hs; cases hs
      · rw [if_neg hf]
        obtain ⟨d1, d2⟩ := d (by simpa using hf)
        refine ih _ ?_ a d1 d2
        rw [b]; rw [hq] at hc; simp at hc ⊢; omega

end Go.Proofs.Ytioglahnliajlaa.FlowM

/-! The way, the push, and the whole: plain proofs about FlowM. -/
namespace Go.Proofs.Ytioglahnliajlaa.FlowM
open Go.Proofs.Ytioglahnliajlaa.FlowTheory

theorem sumN_update {m a : Nat} (ha : a < m) {g g' : Nat → Int} (h : ∀ i, i < m → i ≠ a → g' i = g i) : sumN m g' = sumN m g + (g' a - g a) := by
  have h1 : sumN m g' = sumN m (fun i => g i + (if i = a then g' a - g a else 0)) := by
    refine sumN_congr fun i hi => ?_
    by_cases e : i = a
    · subst e; rw [if_pos rfl]; omega
    · rw [if_neg e, h i hi e]; omega
  rw [h1, sumN_add, sumN_single ha]

inductive Path (es : List E) (fl : List Int) (source : Int) : List Step → Int → Prop
  | nil : Path es fl source [] source
  | cons {s : Step} {p : List Step} : offer es fl (other es s) s.edge = some s → Path es fl source p (other es s) → Path es fl source (s :: p) s.to

theorem roomOf_le : ∀ (p : List Step) (r : Int), (p.foldl (fun r s => min r s.room) r) ≤ r ∧ ∀ s ∈ p, (p.foldl (fun r s => min r s.room) r) ≤ s.room
  | [], r => ⟨Int.le_refl _, fun _ h => by cases h⟩
  | t :: p, r => by
    obtain ⟨h1, h2⟩ := roomOf_le p (min r t.room)
    simp only [List.foldl_cons]
    refine ⟨by omega, fun s hs => ?_⟩
    rcases List.mem_cons.1 hs with rfl | hs
    · omega
    · exact h2 s hs

theorem roomOf_pos : ∀ (p : List Step) (r : Int), 0 < r → (∀ s ∈ p, 0 < s.room) → 0 < (p.foldl (fun r s => min r s.room) r)
  | [], _, h, _ => h
  | t :: p, r, h, hp => by
    simp only [List.foldl_cons]
    exact roomOf_pos p _ (by have := hp t (by simp); omega) (fun s hs => hp s (by simp [hs]))

theorem flF_bump (r : Int) (fl : List Int) (s : Step) (hs : s.edge < fl.length) (i : Nat) :
    flF (bump r fl s) i = if i = s.edge then (if s.back = true then flF fl i - r else flF fl i + r) else flF fl i := by
  unfold bump flF
  by_cases e : i = s.edge
  · subst e; rw [if_pos rfl]; simp [List.getD_eq_getElem?_getD, hs]
  · rw [if_neg e]
    have : s.edge ≠ i := fun x => e x.symm
    simp [List.getD_eq_getElem?_getD, this]

theorem bump_length (r : Int) (fl : List Int) (s : Step) : (bump r fl s).length = fl.length := by simp [bump]

theorem push_length (r : Int) : ∀ (p : List Step) (fl : List Int), (p.foldl (bump r) fl).length = fl.length
  | [], _ => rfl
  | s :: p, fl => by simp only [List.foldl_cons]; rw [push_length r p, bump_length]

theorem net_bump {es : List E} {fl0 fl : List Int} {u : Int} {i : Nat} {s : Step} (h : offer es fl0 u i = some s) (hl : fl.length = es.length) (r v : Int) :
    net es.length (frF es) (toF es) (flF (bump r fl s)) v = net es.length (frF es) (toF es) (flF fl) v + (if v = u then r else 0) - (if v = s.to then r else 0) := by
  obtain ⟨hi, he, ho, hne, _, hc⟩ := offer_some h
  subst he
  unfold net
  rw [sumN_update (g := fun i => (if frF es i = v then flF fl i else 0) - (if toF es i = v then flF fl i else 0)) hi]
  · have hb := flF_bump r fl s (by omega) s.edge
    rw [if_pos rfl] at hb
    rw [hb]
    rcases hc with ⟨b, e1, e2, _⟩ | ⟨b, e1, e2, _⟩
    · rw [b, e1, e2]
      by_cases c1 : u = v <;> by_cases c2 : s.to = v
      · exact absurd (c1.trans c2.symm) hne
      · have c3 : ¬ v = s.to := fun x => c2 x.symm
        simp [c1, c2, c3]; omega
      · have c3 : ¬ v = u := fun x => c1 x.symm
        simp [c1, c2, c3]; omega
      · have c3 : ¬ v = u := fun x => c1 x.symm
        have c4 : ¬ v = s.to := fun x => c2 x.symm
        simp [c1, c2, c3, c4]
    · rw [b, e1, e2]
      by_cases c1 : u = v <;> by_cases c2 : s.to = v
      · exact absurd (c1.trans c2.symm) hne
      · have c3 : ¬ v = s.to := fun x => c2 x.symm
        simp [c1, c2, c3]; omega
      · have c3 : ¬ v = u := fun x => c1 x.symm
        simp [c1, c2, c3]; omega
      · have c3 : ¬ v = u := fun x => c1 x.symm
        have c4 : ¬ v = s.to := fun x => c2 x.symm
        simp [c1, c2, c3, c4]
  · intro j _ hj
    rw [flF_bump r fl s (by omega), if_neg hj]

theorem net_push {es : List E} {fl0 : List Int} {source : Int} (r v : Int) {p : List Step} {n : Int} (hp : Path es fl0 source p n) :
    ∀ (fl : List Int), fl.length = es.length →
    net es.length (frF es) (toF es) (flF (p.foldl (bump r) fl)) v = net es.length (frF es) (toF es) (flF fl) v + (if v = source then r else 0) - (if v = n then r else 0) := by
  induction hp with
  | nil => intro fl _; simp only [List.foldl_nil]; omega
  | cons ho _ ih =>
    intro fl hl
    simp only [List.foldl_cons]
    rw [ih _ (by rw [bump_length]; exact hl), net_bump ho hl]
    omega

theorem push_miss (r : Int) (i : Nat) : ∀ (p : List Step) (fl : List Int), (∀ s ∈ p, s.edge < fl.length) → (∀ s ∈ p, s.edge ≠ i) → flF (p.foldl (bump r) fl) i = flF fl i
  | [], _, _, _ => rfl
  | s :: p, fl, h, hm => by
    simp only [List.foldl_cons]
    rw [push_miss r i p _ (fun t ht => by rw [bump_length]; exact h t (by simp [ht])) (fun t ht => hm t (by simp [ht])), flF_bump r fl s (h s (by simp)), if_neg (fun e => hm s (by simp) e.symm)]

theorem push_hit (r : Int) (s : Step) : ∀ (p : List Step) (fl : List Int), (∀ s ∈ p, s.edge < fl.length) → p.Pairwise (fun s t => s.edge ≠ t.edge) → s ∈ p →
    flF (p.foldl (bump r) fl) s.edge = if s.back = true then flF fl s.edge - r else flF fl s.edge + r
  | [], _, _, _, hs => by cases hs
  | t :: p, fl, h, hn, hs => by
    simp only [List.foldl_cons]
    have hlen : ∀ x ∈ p, x.edge < (bump r fl t).length := fun x hx => by rw [bump_length]; exact h x (by simp [hx])
    rcases List.mem_cons.1 hs with rfl | hs
    · rw [push_miss r _ p _ hlen (fun x hx => fun e => (List.pairwise_cons.1 hn).1 x hx e.symm), flF_bump r fl s (h s (by simp)), if_pos rfl]
    · have hx := flF_bump r fl t (h t (by simp)) s.edge
      rw [if_neg (fun e => (List.pairwise_cons.1 hn).1 s hs e.symm)] at hx
      rw [push_hit r s p _ hlen (List.pairwise_cons.1 hn).2 hs, hx]

theorem path_offers {es : List E} {fl : List Int} {source : Int} {p : List Step} {n : Int} (hp : Path es fl source p n) : ∀ s ∈ p, offer es fl (other es s) s.edge = some s := by
  induction hp with
  | nil => intro s h; cases h
  | cons ho _ ih => intro s h; rcases List.mem_cons.1 h with rfl | h; exact ho; exact ih s h

/-- A push keeps a flow, and makes it greater. -/
theorem push_ok {nodes : Nat} {es : List E} {fl : List Int} {source sink : Int} {p : List Step} (hl : fl.length = es.length) (hp : Path es fl source p sink)
    (hd : p.Pairwise (fun s t => s.edge ≠ t.edge)) (hst : source ≠ sink) (hf : IsFlow es.length nodes (frF es) (toF es) (capF es) source sink (flF fl)) :
    IsFlow es.length nodes (frF es) (toF es) (capF es) source sink (flF (p.foldl (bump (roomOf p)) fl)) ∧ 0 < roomOf p ∧
    net es.length (frF es) (toF es) (flF (p.foldl (bump (roomOf p)) fl)) source = net es.length (frF es) (toF es) (flF fl) source + roomOf p := by
  have hoff := path_offers hp
  have hedge : ∀ s ∈ p, s.edge < fl.length := fun s hs => by rw [hl]; exact (offer_some (hoff s hs)).1
  have hr0 : 0 < roomOf p := roomOf_pos p _ (by omega) (fun s hs => (offer_some (hoff s hs)).2.2.2.2.1)
  have hrle : ∀ s ∈ p, roomOf p ≤ s.room := (roomOf_le p 1000000).2
  have hb : ∀ i, i < es.length → 0 ≤ flF (p.foldl (bump (roomOf p)) fl) i ∧ flF (p.foldl (bump (roomOf p)) fl) i ≤ capF es i := by
    intro i hi
    have h0 := hf.lo i hi
    have h1 := hf.hi i hi
    by_cases c : ∃ s ∈ p, s.edge = i
    · obtain ⟨s, hs, rfl⟩ := c
      rw [push_hit _ s p fl hedge hd hs]
      have hle := hrle s hs
      obtain ⟨_, _, _, _, _, ⟨b, _, _, e⟩ | ⟨b, _, _, e⟩⟩ := offer_some (hoff s hs)
      · rw [if_neg (by rw [b]; decide)]; omega
      · rw [if_pos b]; omega
    · rw [push_miss _ i p fl hedge (fun s hs e => c ⟨s, hs, e⟩)]; exact ⟨h0, h1⟩
  refine ⟨⟨fun i hi => (hb i hi).1, fun i hi => (hb i hi).2, fun v v0 v1 vs vt => ?_⟩, hr0, ?_⟩
  · rw [net_push _ v hp fl hl, if_neg vs, if_neg vt, hf.keep v v0 v1 vs vt]; rfl
  · rw [net_push _ source hp fl hl, if_pos rfl, if_neg hst]; omega

/-! ### The way -/

theorem find_some {l : List (Int × Step)} (one : ∀ (j j' : Nat) (v : Int) (s s' : Step), l[j]? = some (v, s) → l[j']? = some (v, s') → j = j') {j : Nat} {v : Int} {s : Step}
    (h : l[j]? = some (v, s)) : find l v = some s := by
  unfold find
  have hm : (v, s) ∈ l := List.mem_of_getElem? h
  cases hf : l.find? (fun p => p.1 == v) with
  | none => exact absurd (List.find?_eq_none.1 hf (v, s) hm) (by simp)
  | some p =>
    obtain ⟨u, t⟩ := p
    have hu : u = v := by simpa using List.find?_some hf
    subst hu
    obtain ⟨j', hj'⟩ := List.getElem?_of_mem (List.mem_of_find?_eq_some hf)
    have := one j j' u s t h hj'
    subst this
    rw [h] at hj'; cases hj'; rfl

theorem way_ok {nodes : Nat} {es : List E} {fl : List Int} {source : Int} {st : St} (hI : Inv nodes es fl source st) :
    ∀ (k j : Nat) (n : Int) (s : Step), st.by_[j]? = some (n, s) → j + 1 < k →
    ∃ p, way es st.by_ source k n = some p ∧ Path es fl source p n ∧ p.Pairwise (fun s t => s.edge ≠ t.edge) ∧ ∀ t ∈ p, ∃ j', j' ≤ j ∧ st.by_[j']? = some (t.to, t) := by
  intro k
  induction k with
  | zero => intro j n s _ h; omega
  | succ k ih =>
    intro j n s hs hj
    obtain ⟨h1, h2, h3, h4, h5⟩ := hI.step j n s hs
    have hfind := find_some hI.one hs
    subst h1
    simp only [way]
    rw [if_neg h2, hfind]
    simp only
    rcases h5 with h5 | ⟨j', s', hj', h5⟩
    · obtain ⟨k, rfl⟩ : ∃ m, k = m + 1 := ⟨k - 1, by omega⟩
      refine ⟨[s], by rw [h5]; simp [way], ?_, by simp, fun t ht => ?_⟩
      · refine .cons h4 ?_
        rw [h5]; exact .nil
      · simp at ht; subst ht; exact ⟨j, Nat.le_refl _, hs⟩
    · obtain ⟨p, e, hp, hd, hm⟩ := ih j' _ s' h5 (by omega)
      refine ⟨s :: p, by rw [e]; rfl, .cons h4 hp, List.pairwise_cons.2 ⟨fun t ht he => ?_, hd⟩, fun t ht => ?_⟩
      · obtain ⟨jt, hjt, ht'⟩ := hm t ht
        obtain ⟨_, _, _, t4, t5⟩ := hI.step jt t.to t ht'
        have hne : s.to ≠ t.to := fun e' => by
          rw [← e'] at ht'
          have := hI.one j jt s.to s t hs ht'
          omega
        obtain ⟨_, _, so, _, _, sc⟩ := offer_some h4
        obtain ⟨_, _, to, _, _, tc⟩ := offer_some t4
        rw [← he] at tc
        rcases sc with ⟨_, s1, s2, _⟩ | ⟨_, s1, s2, _⟩ <;> rcases tc with ⟨_, t1, t2, _⟩ | ⟨_, t1, t2, _⟩
        · exact hne (s2.symm.trans t2)
        · -- s goes forward over the edge, t backward: t leads from where s leads to
          have hto : other es t = s.to := t1.symm.trans s2
          rcases t5 with t5 | ⟨jo, so', hjo, t5⟩
          · exact h2 (hto.symm.trans t5)
          · rw [hto] at t5
            have := hI.one j jo s.to s so' hs t5
            omega
        · have hto : other es t = s.to := t1.symm.trans s2
          rcases t5 with t5 | ⟨jo, so', hjo, t5⟩
          · exact h2 (hto.symm.trans t5)
          · rw [hto] at t5
            have := hI.one j jo s.to s so' hs t5
            omega
        · exact hne (s2.symm.trans t2)
      · rcases List.mem_cons.1 ht with rfl | ht
        · exact ⟨j, Nat.le_refl _, hs⟩
        · obtain ⟨jt, hjt, ht'⟩ := hm t ht
          exact ⟨jt, by omega, ht'⟩

theorem count_keys {nodes : Nat} {es : List E} (ok : Ok nodes es) {fl : List Int} {source : Int} {st : St} (hI : Inv nodes es fl source st) (hs : source < nodes) : st.by_.length < nodes := by
  -- the keys are pairwise different nodes, none of them the source
  have hb : ∀ (j : Nat) (v : Int) (s : Step), st.by_[j]? = some (v, s) → 0 ≤ v ∧ v < nodes ∧ v ≠ source := fun j v s h => by
    obtain ⟨a, b, _, d, _⟩ := hI.step j v s h
    have := offer_range ok d
    rw [a] at this
    exact ⟨this.1, this.2, b⟩
  have key : ∀ (n : Nat) (l : List Int), (∀ v ∈ l, 0 ≤ v ∧ v < (n : Int)) → l.Nodup → l.length ≤ n := by
    intro n
    induction n with
    | zero => intro l h _; cases l with | nil => simp | cons a l => have := h a (by simp); omega
    | succ n ih =>
      intro l h hn
      have h1 := ih (l.filter (fun v => v ≠ (n : Int))) (fun v hv => by
        simp only [List.mem_filter, decide_eq_true_eq, ne_eq] at hv
        have := h v hv.1
        omega) (hn.filter _)
      have h2 : l.length ≤ (l.filter (fun v => v ≠ (n : Int))).length + 1 := by
        have hc : l.count (n : Int) ≤ 1 := List.nodup_iff_count.1 hn _
        have h3 := List.length_eq_countP_add_countP (fun v => decide (v ≠ (n : Int))) (l := l)
        rw [← List.countP_eq_length_filter]
        have h4 : l.countP (fun a => ¬ (decide (a ≠ (n : Int))) = true) = l.count (n : Int) := by
          rw [List.count]
          congr 1
          funext a
          by_cases e : a = (n : Int) <;> simp [e]
        omega
      omega
  have hlist : (source :: st.by_.map (·.1)).length ≤ nodes := by
    refine key nodes _ (fun v hv => ?_) ?_
    · rcases List.mem_cons.1 hv with rfl | hv
      · exact ⟨hI.src0, hs⟩
      · obtain ⟨p, hp, rfl⟩ := List.mem_map.1 hv
        obtain ⟨j, hj⟩ := List.getElem?_of_mem hp
        obtain ⟨v, s⟩ := p
        have := hb j v s hj
        exact ⟨this.1, this.2.1⟩
    · refine List.nodup_cons.2 ⟨fun hv => ?_, ?_⟩
      · obtain ⟨p, hp, e⟩ := List.mem_map.1 hv
        obtain ⟨j, hj⟩ := List.getElem?_of_mem hp
        obtain ⟨v, s⟩ := p
        exact (hb j v s hj).2.2 e
      · rw [List.Nodup, List.pairwise_iff_getElem]
        intro i j hi hj hij e
        simp only [List.length_map] at hi hj
        simp only [List.getElem_map] at e
        have h1 : st.by_[i]? = some ((st.by_[i]).1, (st.by_[i]).2) := List.getElem?_eq_getElem hi
        have h2 : st.by_[j]? = some ((st.by_[i]).1, (st.by_[j]).2) := by rw [e]; exact List.getElem?_eq_getElem hj
        have := hI.one i j _ _ _ h1 h2
        omega
  simp at hlist
  omega

/-! ### The whole -/

theorem start_inv {nodes : Nat} {es : List E} {fl : List Int} {source : Int} (s0 : 0 ≤ source) (s1 : source < nodes) : Inv nodes es fl source (start nodes source) := by
  have hs : ∀ v : Int, 0 ≤ v → sees (start nodes source).seen v = if v = source then true else sees (List.replicate nodes false) v := fun v hv => sees_set s0 (by simpa using s1) v hv
  have hr : ∀ v : Int, sees (List.replicate nodes false) v = false := fun v => by
    unfold sees
    rw [List.getD_eq_getElem?_getD, List.getElem?_replicate]
    split <;> rfl
  refine ⟨s0, by simp [start], by rw [hs _ s0, if_pos rfl], ?_, ?_, ?_, ?_⟩
  · intro j v s h; simp [start] at h
  · intro j j' v s s' h; simp [start] at h
  · intro v h0 _ hv
    rw [hs v h0, hr] at hv
    by_cases e : v = source
    · exact .inl e
    · rw [if_neg e] at hv; cases hv
  · intro v hv
    simp [start] at hv
    subst hv
    exact ⟨s0, s1, by rw [hs _ s0, if_pos rfl]⟩

theorem search_ok {nodes : Nat} {es : List E} (ok : Ok nodes es) {fl : List Int} {source sink : Int} (s0 : 0 ≤ source) (s1 : source < nodes) (t0 : 0 ≤ sink) (hst : source ≠ sink) :
    ∃ st, bfs es fl sink (nodes + 1) (start nodes source) = some st ∧ Inv nodes es fl source st ∧
      (sees st.seen sink = false → ∀ v : Int, 0 ≤ v → v < nodes → sees st.seen v = true → Closed es fl st.seen v) := by
  have hI := start_inv (es := es) (fl := fl) s0 s1
  have hr : ∀ v : Int, sees (List.replicate nodes false) v = false := fun v => by
    unfold sees
    rw [List.getD_eq_getElem?_getD, List.getElem?_replicate]
    split <;> rfl
  refine bfs_inv ok t0 (nodes + 1) _ ?_ hI ?_ ?_
  · have := count_set (List.replicate nodes false) source.toNat (by simp; omega) (hr source)
    simp [start] at this ⊢
    omega
  · have := sees_set (l := List.replicate nodes false) s0 (by simpa using s1) sink t0
    show sees (List.set _ _ _) sink = false
    rw [this, if_neg (fun e => hst e.symm), hr]
  · intro v h0 _ hv
    have := sees_set (l := List.replicate nodes false) s0 (by simpa using s1) v h0
    rw [show sees (start nodes source).seen v = _ from this, hr] at hv
    by_cases e : v = source
    · left; simp [start, e]
    · rw [if_neg e] at hv; cases hv

/-- Seen nodes whose offers are all seen: the cut is full. -/
theorem closed_full {nodes : Nat} {es : List E} (ok : Ok nodes es) {fl : List Int} {source sink : Int} {S : List Bool}
    (hf : IsFlow es.length nodes (frF es) (toF es) (capF es) source sink (flF fl)) (s0 : 0 ≤ source) (s1 : source < nodes)
    (hs : IsCut source sink (sees S)) (hc : ∀ v : Int, 0 ≤ v → v < nodes → sees S v = true → Closed es fl S v) :
    net es.length (frF es) (toF es) (flF fl) source = capOf es.length (frF es) (toF es) (capF es) (sees S) := by
  refine full ok.ends hf hs s0 s1 (fun i hi a b => ?_) (fun i hi a b => ?_)
  · obtain ⟨e0, e1, e2, e3⟩ := ok.ends i hi
    cases ho : offer es fl (frF es i) i with
    | none =>
      rcases offer_none hi ho with h | h
      · rw [h] at a; rw [a] at b; cases b
      · have := h.1 rfl
        have := hf.hi i hi
        omega
    | some s =>
      have h1 := hc _ e0 e1 a i s ho
      obtain ⟨_, _, _, hne, _, h | h⟩ := offer_some ho
      · rw [← h.2.2.1, b] at h1; cases h1
      · exact absurd h.2.2.1 hne
  · obtain ⟨e0, e1, e2, e3⟩ := ok.ends i hi
    cases ho : offer es fl (toF es i) i with
    | none =>
      rcases offer_none hi ho with h | h
      · rw [← h] at a; rw [a] at b; cases b
      · have := h.2 rfl (fun x => by rw [x.1] at b; rw [a] at b; cases b)
        have := hf.lo i hi
        omega
    | some s =>
      have h1 := hc _ e2 e3 a i s ho
      obtain ⟨_, _, _, hne, _, h | h⟩ := offer_some ho
      · exact absurd h.2.2.1 hne
      · rw [← h.2.2.1, b] at h1; cases h1

def capSum (es : List E) : Int := sumN es.length (capF es)

theorem amount_le {nodes : Nat} {es : List E} (ok : Ok nodes es) {f : Nat → Int} {source sink : Int} (s0 : 0 ≤ source) (s1 : source < nodes) (hst : source ≠ sink)
    (hf : IsFlow es.length nodes (frF es) (toF es) (capF es) source sink f) : net es.length (frF es) (toF es) f source ≤ capSum es := by
  have h := weak ok.ends hf (S := fun v => decide (v = source)) ⟨by simp, by simp; exact fun e => hst e.symm⟩ s0 s1
  refine Int.le_trans h (sumN_le fun i hi => ?_)
  have := (ok.cap i hi).1
  split <;> omega

/-- A result that proves itself. -/
structure Good (nodes : Nat) (es : List E) (source sink n : Int) (fl : List Int) (S : List Bool) : Prop where
  flen : fl.length = es.length
  slen : S.length = nodes
  flow : IsFlow es.length nodes (frF es) (toF es) (capF es) source sink (flF fl)
  cut : IsCut source sink (sees S)
  amount : net es.length (frF es) (toF es) (flF fl) source = n
  cap : capOf es.length (frF es) (toF es) (capF es) (sees S) = n

theorem most_ok {nodes : Nat} {es : List E} (ok : Ok nodes es) {source sink : Int} (s0 : 0 ≤ source) (s1 : source < nodes) (t0 : 0 ≤ sink) (t1 : sink < nodes) (hst : source ≠ sink) :
    ∀ (k : Nat) (fl : List Int) (a : Int), fl.length = es.length → IsFlow es.length nodes (frF es) (toF es) (capF es) source sink (flF fl) →
    net es.length (frF es) (toF es) (flF fl) source = a → capSum es - a < k → ∃ n f S, most nodes es source sink k fl a = some (n, f, S) ∧ Good nodes es source sink n f S := by
  intro k
  induction k with
  | zero =>
    intro fl a _ hf ha hk
    have := amount_le ok s0 s1 hst hf
    omega
  | succ k ih =>
    intro fl a hl hf ha hk
    obtain ⟨st, e, hI, hc⟩ := search_ok ok (fl := fl) s0 s1 t0 hst
    simp only [most]
    rw [e]
    simp only
    by_cases c : sees st.seen sink = true
    · rw [if_pos c]
      rcases hI.all sink t0 t1 c with h | ⟨j, s, h⟩
      · exact absurd h.symm hst
      · have hj : j < st.by_.length := by rcases Nat.lt_or_ge j st.by_.length with h' | h'; exact h'; rw [List.getElem?_eq_none h'] at h; cases h
        have hn := count_keys ok hI s1
        obtain ⟨p, hw, hp, hd, _⟩ := way_ok hI (nodes + 1) j sink s h (by omega)
        rw [hw]
        simp only
        obtain ⟨g1, g2, g3⟩ := push_ok hl hp hd hst hf
        refine ih _ _ (by rw [push_length]; exact hl) g1 (by rw [g3, ha]) (by omega)
    · rw [if_neg c]
      have c' : sees st.seen sink = false := by simpa using c
      refine ⟨a, fl, st.seen, rfl, hl, hI.len, hf, ⟨hI.src, c'⟩, ha, ?_⟩
      rw [← closed_full ok hf s0 s1 ⟨hI.src, c'⟩ (hc c')]; exact ha

theorem zero_flow {nodes : Nat} {es : List E} (ok : Ok nodes es) (source sink : Int) :
    IsFlow es.length nodes (frF es) (toF es) (capF es) source sink (flF (List.replicate es.length 0)) ∧ net es.length (frF es) (toF es) (flF (List.replicate es.length 0)) source = 0 := by
  have hz : ∀ i, flF (List.replicate es.length 0) i = 0 := fun i => by
    unfold flF
    rw [List.getD_eq_getElem?_getD, List.getElem?_replicate]
    split <;> rfl
  have hn : ∀ v, net es.length (frF es) (toF es) (flF (List.replicate es.length 0)) v = 0 := fun v => sumN_zero fun i _ => by simp [hz]
  exact ⟨⟨fun i _ => by rw [hz]; exact Int.le_refl _, fun i hi => by rw [hz]; exact (ok.cap i hi).1, fun v _ _ _ _ => hn v⟩, hn _⟩

def fuel (es : List E) : Nat := (capSum es).toNat + 1

theorem whole {nodes : Nat} {es : List E} (ok : Ok nodes es) {source sink : Int} (s0 : 0 ≤ source) (s1 : source < nodes) (t0 : 0 ≤ sink) (t1 : sink < nodes) (hst : source ≠ sink) :
    ∃ n f S, most nodes es source sink (fuel es) (List.replicate es.length 0) 0 = some (n, f, S) ∧ Good nodes es source sink n f S := by
  obtain ⟨z1, z2⟩ := zero_flow ok source sink
  exact most_ok ok s0 s1 t0 t1 hst _ _ 0 (by simp) z1 z2 (by unfold fuel; omega)

end Go.Proofs.Ytioglahnliajlaa.FlowM

/-! What holds in one round of Most. -/
namespace Go.Proofs.Ytioglahnliajlaa.FlowM
open Go.Proofs.Ytioglahnliajlaa.FlowTheory

theorem find_mem {l : List (Int × Step)} {v : Int} {s : Step} (h : find l v = some s) : ∃ j : Nat, l[j]? = some (v, s) := by
  unfold find at h
  cases hf : l.find? (fun p => p.1 == v) with
  | none => rw [hf] at h; cases h
  | some p =>
    rw [hf] at h
    obtain ⟨u, t⟩ := p
    have hu : u = v := by simpa using List.find?_some hf
    subst hu
    cases h
    exact List.getElem?_of_mem (List.mem_of_find?_eq_some hf)

theorem sumN_const_le {n : Nat} {f : Nat → Int} (c : Int) (h : ∀ i, i < n → f i ≤ c) : sumN n f ≤ n * c := by
  induction n with
  | zero => simp [sumN]
  | succ n ih =>
    have h1 := ih (fun i hi => h i (by omega))
    have h2 := h n (by omega)
    simp only [sumN]
    have : ((n + 1 : Nat) : Int) * c = n * c + c := by
      rw [show ((n + 1 : Nat) : Int) = (n : Int) + 1 by omega, Int.add_mul, Int.one_mul]
    omega

theorem capSum_le {nodes : Nat} {es : List E} (ok : Ok nodes es) (h : es.length ≤ 512) : capSum es ≤ 512000000 := by
  have h1 := sumN_const_le (n := es.length) (f := capF es) 1000000 (fun i hi => (ok.cap i hi).2)
  unfold capSum
  omega

structure Round (nodes : Nat) (es : List E) (source sink : Int) (fl : List Int) (st : St) : Prop where
  seen : st.seen.length = nodes
  go : sees st.seen sink = true → ∃ p, way es st.by_ source (nodes + 1) sink = some p ∧ 0 < roomOf p ∧ (∀ n s, find st.by_ n = some s → s.edge < es.length) ∧
    (∀ q s r, p = q ++ s :: r → s.edge < es.length ∧ 0 ≤ (q.foldl (bump (roomOf p)) fl).getD s.edge 0 ∧ (q.foldl (bump (roomOf p)) fl).getD s.edge 0 ≤ 1000000) ∧
    (p.foldl (bump (roomOf p)) fl).length = es.length ∧
    IsFlow es.length nodes (frF es) (toF es) (capF es) source sink (flF (p.foldl (bump (roomOf p)) fl)) ∧
    net es.length (frF es) (toF es) (flF (p.foldl (bump (roomOf p)) fl)) source = net es.length (frF es) (toF es) (flF fl) source + roomOf p

theorem round_ok {nodes : Nat} {es : List E} (ok : Ok nodes es) {source sink : Int} (s0 : 0 ≤ source) (s1 : source < nodes) (t0 : 0 ≤ sink) (t1 : sink < nodes) (hst : source ≠ sink)
    (fl : List Int) (hl : fl.length = es.length) (hf : IsFlow es.length nodes (frF es) (toF es) (capF es) source sink (flF fl)) :
    ∃ st, bfs es fl sink (nodes + 1) (start nodes source) = some st ∧ Round nodes es source sink fl st := by
  obtain ⟨st, e, hI, hc⟩ := search_ok ok (fl := fl) s0 s1 t0 hst
  refine ⟨st, e, hI.len, fun c => ?_⟩
  rcases hI.all sink t0 t1 c with h | ⟨j, s, h⟩
  · exact absurd h.symm hst
  · have hj : j < st.by_.length := by rcases Nat.lt_or_ge j st.by_.length with h' | h'; exact h'; rw [List.getElem?_eq_none h'] at h; cases h
    have hn := count_keys ok hI s1
    obtain ⟨p, hw, hp, hd, _⟩ := way_ok hI (nodes + 1) j sink s h (by omega)
    obtain ⟨g1, g2, g3⟩ := push_ok hl hp hd hst hf
    have hoff := path_offers hp
    refine ⟨p, hw, g2, fun n t ht => ?_, fun q t r hq => ?_, by rw [push_length]; exact hl, g1, g3⟩
    · obtain ⟨i, hi⟩ := find_mem ht
      exact (offer_some (hI.step i n t hi).2.2.2.1).1
    · have ht : t ∈ p := by rw [hq]; simp
      have hte := (offer_some (hoff t ht)).1
      have hmiss : ∀ u ∈ q, u.edge ≠ t.edge := by
        rw [hq, List.pairwise_append] at hd
        exact fun u hu => hd.2.2 u hu t (by simp)
      have hql : ∀ u ∈ q, u.edge < fl.length := fun u hu => by rw [hl]; exact (offer_some (hoff u (by rw [hq]; simp [hu]))).1
      have := push_miss (roomOf p) t.edge q fl hql hmiss
      unfold flF at this
      rw [this]
      have a := hf.lo _ hte
      have b := hf.hi _ hte
      have c := (ok.cap _ hte).2
      unfold flF at a b
      exact ⟨hte, a, by omega⟩
end Go.Proofs.Ytioglahnliajlaa.FlowM

/-! Plans and cuts: plain facts, no program in sight. -/
namespace Go.Proofs.Ytioglahnliajlaa.PlanTheory
open Go.Proofs.Ytioglahnliajlaa.FlowTheory Go.Proofs.Ytioglahnliajlaa.FlowM

structure Jb where
  fr : Int
  to : Int
  en : Int
  ra : Int
def j0 : Jb := ⟨0, 0, 0, 0⟩
def jb (js : List Jb) (i : Nat) : Jb := js.getD i j0
def sp (sup : List Int) (s : Nat) : Int := sup.getD s 0
/-- A slot of a job. -/
def Win (j : Jb) (s : Nat) : Prop := j.fr ≤ (s : Int) ∧ (s : Int) < j.to
instance (j : Jb) (s : Nat) : Decidable (Win j s) := by unfold Win; infer_instance

def JobOk (j : Jb) (n : Nat) : Prop := 0 ≤ j.fr ∧ j.fr ≤ j.to ∧ j.to ≤ n ∧ 0 ≤ j.en ∧ j.en ≤ 1000 ∧ 0 ≤ j.ra ∧ j.ra ≤ 1000

structure Ok2 (js : List Jb) (sup : List Int) : Prop where
  nj : js.length ≤ 12
  ns : sup.length ≤ 24
  supply : ∀ s, s < sup.length → 0 ≤ sp sup s ∧ sp sup s ≤ 1000
  job : ∀ i, i < js.length → JobOk (jb js i) sup.length

structure Feas (js : List Jb) (sup : List Int) (p : Nat → Nat → Int) : Prop where
  lo : ∀ i s, i < js.length → s < sup.length → 0 ≤ p i s
  hi : ∀ i s, i < js.length → s < sup.length → p i s ≤ (jb js i).ra
  win : ∀ i s, i < js.length → s < sup.length → 0 < p i s → Win (jb js i) s
  met : ∀ i, i < js.length → sumN sup.length (p i) = (jb js i).en
  room : ∀ s, s < sup.length → sumN js.length (fun i => p i s) ≤ sp sup s

def wanted (js : List Jb) : Int := sumN js.length (fun i => (jb js i).en)
def need (js : List Jb) (A : Nat → Bool) : Int := sumN js.length (fun i => if A i = true then (jb js i).en else 0)
def give (js : List Jb) (sup : List Int) (A B : Nat → Bool) : Int :=
  sumN sup.length (fun s => if B s = true then sp sup s else 0) +
    sumN js.length (fun i => if A i = true then sumN sup.length (fun s => if Win (jb js i) s ∧ B s = false then (jb js i).ra else 0) else 0)

/-- A plan and a cut are not both right. -/
theorem not_both {js : List Jb} {sup : List Int} {p : Nat → Nat → Int} (h : Feas js sup p) (A B : Nat → Bool) : need js A ≤ give js sup A B := by
  have h1 : need js A = sumN js.length (fun i => sumN sup.length (fun s => if A i = true then p i s else 0)) := by
    unfold need
    refine sumN_congr fun i hi => ?_
    rw [← h.met i hi]
    exact sumN_ite _ _ _
  have h2 : sumN js.length (fun i => sumN sup.length (fun s => if A i = true then p i s else 0)) ≤
      sumN js.length (fun i => sumN sup.length (fun s => (if B s = true then p i s else 0) + (if A i = true then (if Win (jb js i) s ∧ B s = false then (jb js i).ra else 0) else 0))) := by
    refine sumN_le fun i hi => sumN_le fun s hs => ?_
    have a := h.lo i s hi hs
    have b := h.hi i s hi hs
    have c := h.win i s hi hs
    cases hA : A i <;> cases hB : B s <;> simp <;> try omega
    split
    · exact b
    · rename_i hw
      rcases Int.lt_or_le 0 (p i s) with h' | h'
      · exact absurd (c h') hw
      · omega
  have h3 : sumN js.length (fun i => sumN sup.length (fun s => (if B s = true then p i s else 0) + (if A i = true then (if Win (jb js i) s ∧ B s = false then (jb js i).ra else 0) else 0))) =
      sumN sup.length (fun s => sumN js.length (fun i => if B s = true then p i s else 0)) + sumN js.length (fun i => if A i = true then sumN sup.length (fun s => if Win (jb js i) s ∧ B s = false then (jb js i).ra else 0) else 0) := by
    rw [sumN_congr (fun i _ => sumN_add sup.length _ _), sumN_add, sumN_comm]
    congr 1
    exact sumN_congr fun i _ => (sumN_ite _ _ _).symm
  have h4 : sumN sup.length (fun s => sumN js.length (fun i => if B s = true then p i s else 0)) ≤ sumN sup.length (fun s => if B s = true then sp sup s else 0) := by
    refine sumN_le fun s hs => ?_
    rw [← sumN_ite]
    split
    · exact h.room s hs
    · exact Int.le_refl _
  unfold give
  omega

/-! The graph. -/
def sumI : List Int → Int
  | [] => 0
  | x :: l => x + sumI l
theorem sumI_append (a b : List Int) : sumI (a ++ b) = sumI a + sumI b := by
  induction a with
  | nil => simp [sumI]
  | cons x a ih => simp only [List.cons_append, sumI, ih]; omega
theorem sumI_range (n : Nat) (g : Nat → Int) : sumI ((List.range n).map g) = sumN n g := by
  induction n with
  | zero => rfl
  | succ n ih => rw [List.range_succ, List.map_append, sumI_append, ih]; simp [sumI, sumN]
theorem sumN_list {α : Type} (d : α) (f : α → Int) (l : List α) : sumN l.length (fun k => f (l.getD k d)) = sumI (l.map f) := by
  have h : l.map f = (List.range l.length).map (fun k => f (l.getD k d)) := by
    apply List.ext_getElem (by simp)
    intro i h1 h2
    simp at h1
    simp [List.getD_eq_getElem?_getD, h1]
  rw [h, sumI_range]

def slotEdges (J i : Nat) (j : Jb) (n : Nat) : List E := (List.range n).map (fun d : Nat => (((1 + i : Nat) : Int), 1 + (J : Int) + (j.fr + (d : Int)), j.ra))
def jobEdges (J i : Nat) (j : Jb) : List E := (0, ((1 + i : Nat) : Int), j.en) :: slotEdges J i j (j.to - j.fr).toNat
def jobsFrom (J : Nat) : Nat → List Jb → List E
  | _, [] => []
  | i, j :: l => jobEdges J i j ++ jobsFrom J (i + 1) l
def supEdges (J S : Nat) (sup : List Int) (n : Nat) : List E := (List.range n).map (fun s : Nat => (1 + (J : Int) + (s : Int), 1 + (J : Int) + (S : Int), sp sup s))
def edges (js : List Jb) (sup : List Int) : List E := jobsFrom js.length 0 js ++ supEdges js.length sup.length sup sup.length

theorem jobsFrom_append (J : Nat) : ∀ (a b : List Jb) (i : Nat), jobsFrom J i (a ++ b) = jobsFrom J i a ++ jobsFrom J (i + a.length) b
  | [], b, i => by simp [jobsFrom]
  | x :: a, b, i => by
    simp only [List.cons_append, jobsFrom, jobsFrom_append J a b (i + 1), List.append_assoc, List.length_cons]
    rw [show i + 1 + a.length = i + (a.length + 1) by omega]
theorem jobsFrom_take (J : Nat) (js : List Jb) (i : Nat) (h : i < js.length) : jobsFrom J 0 (js.take (i + 1)) = jobsFrom J 0 (js.take i) ++ jobEdges J i (jb js i) := by
  have e : js.take (i + 1) = js.take i ++ [jb js i] := by
    rw [List.take_add_one, List.getElem?_eq_getElem h]
    simp [jb, List.getD_eq_getElem?_getD, h]
  rw [e, jobsFrom_append]
  simp [jobsFrom, Nat.min_eq_left (Nat.le_of_lt h)]

theorem sumN_window (a b S : Nat) (g : Nat → Int) (h1 : a ≤ b) (h2 : b ≤ S) : sumN (b - a) (fun d => g (a + d)) = sumN S (fun s => if a ≤ s ∧ s < b then g s else 0) := by
  induction S with
  | zero =>
    have : b - a = 0 := by omega
    rw [this]; rfl
  | succ S ih =>
    simp only [sumN]
    by_cases h : b ≤ S
    · rw [ih h, if_neg (by omega)]; omega
    · have hb : b = S + 1 := by omega
      subst hb
      clear ih h2
      by_cases ha : a ≤ S
      · rw [if_pos (by omega), show S + 1 - a = (S - a) + 1 by omega]
        simp only [sumN]
        rw [show a + (S - a) = S by omega]
        congr 1
        have : ∀ n, a ≤ n → n ≤ S → sumN (n - a) (fun d => g (a + d)) = sumN n (fun s => if a ≤ s ∧ s < S + 1 then g s else 0) := by
          intro n
          induction n with
          | zero => intro h _; rw [show 0 - a = 0 by omega]; rfl
          | succ n ih =>
            intro h h'
            by_cases e : a = n + 1
            · rw [show n + 1 - a = 0 by omega]
              exact (sumN_zero fun i hi => by rw [if_neg (by omega)]).symm
            · rw [show n + 1 - a = (n - a) + 1 by omega]
              simp only [sumN]
              rw [ih (by omega) (by omega), if_pos (by omega), show a + (n - a) = n by omega]
        exact this S ha (Nat.le_refl _)
      · rw [show S + 1 - a = 0 by omega, if_neg (by omega)]
        rw [sumN_zero (n := S) (fun i hi => by rw [if_neg (by omega)])]; rfl

theorem sum_slots (J i : Nat) (j : Jb) (S : Nat) (hj : JobOk j S) (h : E → Int) :
    sumI ((slotEdges J i j (j.to - j.fr).toNat).map h) = sumN S (fun s => if Win j s then h (((1 + i : Nat) : Int), 1 + (J : Int) + (s : Int), j.ra) else 0) := by
  obtain ⟨a0, a1, a2, _⟩ := hj
  obtain ⟨a, ha⟩ := Int.eq_ofNat_of_zero_le a0
  obtain ⟨b, hb⟩ := Int.eq_ofNat_of_zero_le (show 0 ≤ j.to by omega)
  unfold slotEdges
  rw [List.map_map, sumI_range, ha, hb, show ((b : Int) - (a : Int)).toNat = b - a by omega]
  have := sumN_window a b S (fun s => h (((1 + i : Nat) : Int), 1 + (J : Int) + (s : Int), j.ra)) (by omega) (by omega)
  refine Eq.trans ?_ (this.trans ?_)
  · refine sumN_congr fun d _ => ?_
    simp only [Function.comp]
    rw [show (a : Int) + (d : Int) = ((a + d : Nat) : Int) by omega]
  · refine sumN_congr fun s _ => ?_
    by_cases c : a ≤ s ∧ s < b
    · rw [if_pos c, if_pos (show Win j s from ⟨by omega, by omega⟩)]
    · rw [if_neg c, if_neg (show ¬ Win j s from fun hw => c ⟨by have := hw.1; omega, by have := hw.2; omega⟩)]

/-- A sum over all edges. -/
theorem sum_edges {js : List Jb} {sup : List Int} (ok : Ok2 js sup) (h : E → Int) :
    sumI ((edges js sup).map h) = sumN js.length (fun i => h (0, ((1 + i : Nat) : Int), (jb js i).en) +
        sumN sup.length (fun s => if Win (jb js i) s then h (((1 + i : Nat) : Int), 1 + (js.length : Int) + (s : Int), (jb js i).ra) else 0)) +
      sumN sup.length (fun s => h (1 + (js.length : Int) + (s : Int), 1 + (js.length : Int) + (sup.length : Int), sp sup s)) := by
  unfold edges supEdges
  rw [List.map_append, sumI_append, List.map_map, sumI_range]
  congr 1
  have : ∀ n, n ≤ js.length → sumI ((jobsFrom js.length 0 (js.take n)).map h) = sumN n (fun i => h (0, ((1 + i : Nat) : Int), (jb js i).en) +
        sumN sup.length (fun s => if Win (jb js i) s then h (((1 + i : Nat) : Int), 1 + (js.length : Int) + (s : Int), (jb js i).ra) else 0)) := by
    intro n
    induction n with
    | zero => intro _; rfl
    | succ n ih =>
      intro hn
      rw [jobsFrom_take _ _ _ (by omega), List.map_append, sumI_append, ih (by omega)]
      simp only [sumN]
      congr 1
      unfold jobEdges
      simp only [List.map_cons, sumI]
      rw [sum_slots _ _ _ _ (ok.job n (by omega))]
  have := this js.length (Nat.le_refl _)
  rwa [List.take_length] at this

/-- What an edge is. -/
theorem edge_cls {js : List Jb} {sup : List Int} (ok : Ok2 js sup) {e : E} (he : e ∈ edges js sup) :
    (∃ i, i < js.length ∧ e = (0, ((1 + i : Nat) : Int), (jb js i).en)) ∨
    (∃ i s, i < js.length ∧ s < sup.length ∧ Win (jb js i) s ∧ e = (((1 + i : Nat) : Int), 1 + (js.length : Int) + (s : Int), (jb js i).ra)) ∨
    (∃ s, s < sup.length ∧ e = (1 + (js.length : Int) + (s : Int), 1 + (js.length : Int) + (sup.length : Int), sp sup s)) := by
  unfold edges supEdges at he
  rcases List.mem_append.1 he with he | he
  · have : ∀ n, n ≤ js.length → e ∈ jobsFrom js.length 0 (js.take n) → (∃ i, i < js.length ∧ e = (0, ((1 + i : Nat) : Int), (jb js i).en)) ∨
        (∃ i s, i < js.length ∧ s < sup.length ∧ Win (jb js i) s ∧ e = (((1 + i : Nat) : Int), 1 + (js.length : Int) + (s : Int), (jb js i).ra)) := by
      intro n
      induction n with
      | zero => intro _ h; simp [jobsFrom] at h
      | succ n ih =>
        intro hn h
        rw [jobsFrom_take _ _ _ (by omega)] at h
        rcases List.mem_append.1 h with h | h
        · exact ih (by omega) h
        · unfold jobEdges at h
          rcases List.mem_cons.1 h with h | h
          · exact .inl ⟨n, by omega, h⟩
          · obtain ⟨a0, a1, a2, _⟩ := ok.job n (by omega)
            unfold slotEdges at h
            obtain ⟨d, hd, rfl⟩ := List.mem_map.1 h
            have hd' := List.mem_range.1 hd
            obtain ⟨a, ha⟩ := Int.eq_ofNat_of_zero_le a0
            refine .inr ⟨n, a + d, by omega, by omega, ⟨by omega, by omega⟩, ?_⟩
            rw [ha]; simp
    have h := this js.length (Nat.le_refl _) (by rwa [List.take_length])
    exact h.elim .inl (fun h => .inr (.inl h))
  · obtain ⟨s, hs, rfl⟩ := List.mem_map.1 he
    exact .inr (.inr ⟨s, List.mem_range.1 hs, rfl⟩)

theorem edge_at {es : List E} {k : Nat} (h : k < es.length) : ∃ e, e ∈ es ∧ frF es k = e.1 ∧ toF es k = e.2.1 ∧ capF es k = e.2.2 := by
  refine ⟨es[k], List.getElem_mem h, ?_, ?_, ?_⟩ <;> simp [frF, toF, capF, List.getD_eq_getElem?_getD, h]

def nodesOf (js : List Jb) (sup : List Int) : Nat := js.length + sup.length + 2

theorem edges_ok {js : List Jb} {sup : List Int} (ok : Ok2 js sup) : Ok (nodesOf js sup) (edges js sup) := by
  have hns := ok.ns
  have hnj := ok.nj
  refine ⟨fun k hk => ?_, fun k hk => ?_⟩
  · obtain ⟨e, he, h1, h2, h3⟩ := edge_at hk
    rw [h1, h2]
    unfold nodesOf
    rcases edge_cls ok he with ⟨i, hi, rfl⟩ | ⟨i, s, hi, hs, _, rfl⟩ | ⟨s, hs, rfl⟩ <;> simp only <;> omega
  · obtain ⟨e, he, h1, h2, h3⟩ := edge_at hk
    rw [h3]
    rcases edge_cls ok he with ⟨i, hi, rfl⟩ | ⟨i, s, hi, hs, _, rfl⟩ | ⟨s, hs, rfl⟩ <;> simp only
    · obtain ⟨_, _, _, a, b, _⟩ := ok.job i hi; omega
    · obtain ⟨_, _, _, _, _, a, b⟩ := ok.job i hi; omega
    · have := ok.supply s hs; omega

theorem slotEdges_length (J i : Nat) (j : Jb) (n : Nat) : (slotEdges J i j n).length = n := by simp [slotEdges]
theorem jobsFrom_length {js : List Jb} {sup : List Int} (ok : Ok2 js sup) : ∀ n, n ≤ js.length → (jobsFrom js.length 0 (js.take n)).length ≤ n * 25 := by
  intro n
  induction n with
  | zero => intro _; simp [jobsFrom]
  | succ n ih =>
    intro hn
    rw [jobsFrom_take _ _ _ (by omega), List.length_append]
    have := ih (by omega)
    obtain ⟨a0, a1, a2, _⟩ := ok.job n (by omega)
    have hns := ok.ns
    simp only [jobEdges, List.length_cons, slotEdges_length]
    omega
theorem edges_length {js : List Jb} {sup : List Int} (ok : Ok2 js sup) : (edges js sup).length ≤ 324 := by
  have h := jobsFrom_length ok js.length (Nat.le_refl _)
  rw [List.take_length] at h
  have := ok.nj
  have := ok.ns
  simp only [edges, supEdges, List.length_append, List.length_map, List.length_range]
  omega
end Go.Proofs.Ytioglahnliajlaa.PlanTheory

/-! What a greatest flow says of a plan. -/
namespace Go.Proofs.Ytioglahnliajlaa.PlanTheory
open Go.Proofs.Ytioglahnliajlaa.FlowTheory Go.Proofs.Ytioglahnliajlaa.FlowM

section
variable {js : List Jb} {sup : List Int} {fl : List Int}

/-- The sum of a weight over the edges whose ends are so. -/
def capX (js : List Jb) (sup : List Int) (X : Int → Int → Prop) [∀ a b, Decidable (X a b)] : Int := sumN (edges js sup).length (fun k => if X (frF (edges js sup) k) (toF (edges js sup) k) then capF (edges js sup) k else 0)
def flowX (js : List Jb) (sup : List Int) (fl : List Int) (X : Int → Int → Prop) [∀ a b, Decidable (X a b)] : Int := sumN (edges js sup).length (fun k => if X (frF (edges js sup) k) (toF (edges js sup) k) then flF fl k else 0)

theorem weight_sum (ok : Ok2 js sup) (h : E → Int) : sumN (edges js sup).length (fun k => h ((edges js sup).getD k (0, 0, 0))) = sumI ((edges js sup).map h) := sumN_list _ _ _

theorem capX_sum (ok : Ok2 js sup) (X : Int → Int → Prop) [∀ a b, Decidable (X a b)] :
    capX js sup X = sumN js.length (fun i => (if X 0 ((1 + i : Nat) : Int) then (jb js i).en else 0) +
        sumN sup.length (fun s => if Win (jb js i) s then (if X ((1 + i : Nat) : Int) (1 + (js.length : Int) + (s : Int)) then (jb js i).ra else 0) else 0)) +
      sumN sup.length (fun s => if X (1 + (js.length : Int) + (s : Int)) (1 + (js.length : Int) + (sup.length : Int)) then sp sup s else 0) := by
  have := sum_edges ok (fun e => if X e.1 e.2.1 then e.2.2 else 0)
  rw [← weight_sum ok] at this
  exact this

theorem flowX_le (hf : IsFlow (edges js sup).length (nodesOf js sup) (frF (edges js sup)) (toF (edges js sup)) (capF (edges js sup)) 0 (1 + (js.length : Int) + (sup.length : Int)) (flF fl)) (X : Int → Int → Prop) [∀ a b, Decidable (X a b)] :
    0 ≤ flowX js sup fl X ∧ flowX js sup fl X ≤ capX js sup X := by
  refine ⟨sumN_nonneg fun k hk => ?_, sumN_le fun k hk => ?_⟩
  · split
    · exact hf.lo k hk
    · exact Int.le_refl _
  · split
    · exact hf.hi k hk
    · exact Int.le_refl _

theorem flowX_congr (ok : Ok2 js sup) (X Y : Int → Int → Prop) [∀ a b, Decidable (X a b)] [∀ a b, Decidable (Y a b)] (h : ∀ e ∈ edges js sup, X e.1 e.2.1 ↔ Y e.1 e.2.1) : flowX js sup fl X = flowX js sup fl Y := by
  refine sumN_congr fun k hk => ?_
  obtain ⟨e, he, h1, h2, _⟩ := edge_at hk
  rw [h1, h2]
  have := h e he
  by_cases c : X e.1 e.2.1
  · rw [if_pos c, if_pos (this.1 c)]
  · rw [if_neg c, if_neg (fun c' => c (this.2 c'))]

theorem flowX_sum (n : Nat) (X : Nat → Int → Int → Prop) [∀ v a b, Decidable (X v a b)] (Y : Int → Int → Prop) [∀ a b, Decidable (Y a b)]
    (h : ∀ e ∈ edges js sup, (Y e.1 e.2.1 → ∃ v, v < n ∧ ∀ u, X u e.1 e.2.1 ↔ u = v) ∧ (¬ Y e.1 e.2.1 → ∀ u, u < n → ¬ X u e.1 e.2.1)) : sumN n (fun v => flowX js sup fl (X v)) = flowX js sup fl Y := by
  unfold flowX
  rw [sumN_comm]
  refine sumN_congr fun k hk => ?_
  obtain ⟨e, he, h1, h2, _⟩ := edge_at hk
  rw [h1, h2]
  obtain ⟨ha, hb⟩ := h e he
  by_cases c : Y e.1 e.2.1
  · rw [if_pos c]
    obtain ⟨v, hv, hu⟩ := ha c
    refine Eq.trans ?_ (sumN_single hv (flF fl k))
    refine sumN_congr fun u _ => ?_
    by_cases e' : u = v
    · rw [if_pos ((hu u).2 e'), if_pos e']
    · rw [if_neg (fun c' => e' ((hu u).1 c')), if_neg e']
  · rw [if_neg c]
    exact sumN_zero fun u hu => by rw [if_neg (hb c u hu)]

theorem keep_eq (hf : IsFlow (edges js sup).length (nodesOf js sup) (frF (edges js sup)) (toF (edges js sup)) (capF (edges js sup)) 0 (1 + (js.length : Int) + (sup.length : Int)) (flF fl)) (v : Int) (h0 : 0 < v) (h1 : v < 1 + (js.length : Int) + (sup.length : Int)) :
    flowX js sup fl (fun a _ => a = v) = flowX js sup fl (fun _ b => b = v) := by
  have h := hf.keep v (by omega) (by unfold nodesOf; omega) (by omega) (by omega)
  unfold net at h
  rw [sumN_sub] at h
  unfold flowX
  dsimp only
  omega

/-- The units of a job in a slot. -/
def unit (js : List Jb) (sup fl : List Int) (i s : Nat) : Int := flowX js sup fl (fun a b => a = ((1 + i : Nat) : Int) ∧ b = 1 + (js.length : Int) + (s : Int))

theorem capX_job (ok : Ok2 js sup) (i : Nat) (hi : i < js.length) : capX js sup (fun _ b => b = ((1 + i : Nat) : Int)) = (jb js i).en := by
  rw [capX_sum ok]
  rw [sumN_zero (n := sup.length) (f := fun s => if 1 + (js.length : Int) + (sup.length : Int) = ((1 + i : Nat) : Int) then sp sup s else 0) (fun s _ => by rw [if_neg (by omega)])]
  have : ∀ i', i' < js.length → (if ((1 + i' : Nat) : Int) = ((1 + i : Nat) : Int) then (jb js i').en else 0) +
        sumN sup.length (fun s => if Win (jb js i') s then (if 1 + (js.length : Int) + (s : Int) = ((1 + i : Nat) : Int) then (jb js i').ra else 0) else 0) = if i' = i then (jb js i).en else 0 := by
    intro i' hi'
    rw [sumN_zero (n := sup.length) (fun s _ => by rw [if_neg (show ¬ (1 + (js.length : Int) + (s : Int) = ((1 + i : Nat) : Int)) by omega)]; simp)]
    by_cases e : i' = i
    · subst e; simp
    · rw [if_neg (by omega), if_neg e]; rfl
  rw [sumN_congr this, sumN_single hi]
  omega

theorem capX_slot (ok : Ok2 js sup) (s : Nat) (hs : s < sup.length) : capX js sup (fun a _ => a = 1 + (js.length : Int) + (s : Int)) = sp sup s := by
  rw [capX_sum ok]
  rw [sumN_zero (n := js.length) (fun i hi => by
    rw [if_neg (show ¬ ((0 : Int) = 1 + (js.length : Int) + (s : Int)) by omega), sumN_zero (fun s' _ => by rw [if_neg (show ¬ (((1 + i : Nat) : Int) = 1 + (js.length : Int) + (s : Int)) by omega)]; simp)]; rfl)]
  rw [← sumN_single hs (sp sup s), Int.zero_add]
  refine sumN_congr fun s' _ => ?_
  by_cases e : s' = s
  · subst e; simp
  · rw [if_neg (by omega), if_neg e]

theorem pair_sum (ok : Ok2 js sup) (i s : Nat) (hi : i < js.length) (hs : s < sup.length) (g : E → Int) :
    sumI ((edges js sup).map (fun e => if e.1 = ((1 + i : Nat) : Int) ∧ e.2.1 = 1 + (js.length : Int) + (s : Int) then g e else 0)) = if Win (jb js i) s then g (((1 + i : Nat) : Int), 1 + (js.length : Int) + (s : Int), (jb js i).ra) else 0 := by
  rw [sum_edges ok]
  simp only
  rw [sumN_zero (n := sup.length) (f := fun s' => if 1 + (js.length : Int) + (s' : Int) = ((1 + i : Nat) : Int) ∧ 1 + (js.length : Int) + (sup.length : Int) = 1 + (js.length : Int) + (s : Int) then _ else 0) (fun s' _ => by rw [if_neg (by omega)])]
  have : ∀ i', i' < js.length → (if (0 : Int) = ((1 + i : Nat) : Int) ∧ ((1 + i' : Nat) : Int) = 1 + (js.length : Int) + (s : Int) then g (0, ((1 + i' : Nat) : Int), (jb js i').en) else 0) +
        sumN sup.length (fun s' => if Win (jb js i') s' then (if ((1 + i' : Nat) : Int) = ((1 + i : Nat) : Int) ∧ 1 + (js.length : Int) + (s' : Int) = 1 + (js.length : Int) + (s : Int) then g (((1 + i' : Nat) : Int), 1 + (js.length : Int) + (s' : Int), (jb js i').ra) else 0) else 0) =
      if i' = i then (if Win (jb js i) s then g (((1 + i : Nat) : Int), 1 + (js.length : Int) + (s : Int), (jb js i).ra) else 0) else 0 := by
    intro i' hi'
    rw [if_neg (by omega), Int.zero_add]
    by_cases e : i' = i
    · subst e
      rw [if_pos rfl, ← sumN_single hs (if Win (jb js i') s then g (((1 + i' : Nat) : Int), 1 + (js.length : Int) + (s : Int), (jb js i').ra) else 0)]
      refine sumN_congr fun s' _ => ?_
      by_cases e' : s' = s
      · subst e'; simp
      · rw [if_neg e']
        rw [if_neg (show ¬ (((1 + i' : Nat) : Int) = ((1 + i' : Nat) : Int) ∧ 1 + (js.length : Int) + (s' : Int) = 1 + (js.length : Int) + (s : Int)) by omega)]
        simp
    · rw [if_neg e]
      exact sumN_zero fun s' _ => by rw [if_neg (show ¬ (((1 + i' : Nat) : Int) = ((1 + i : Nat) : Int) ∧ 1 + (js.length : Int) + (s' : Int) = 1 + (js.length : Int) + (s : Int)) by omega)]; simp
  rw [sumN_congr this, sumN_single hi]
  omega

theorem capX_pair (ok : Ok2 js sup) (i s : Nat) (hi : i < js.length) (hs : s < sup.length) :
    capX js sup (fun a b => a = ((1 + i : Nat) : Int) ∧ b = 1 + (js.length : Int) + (s : Int)) = if Win (jb js i) s then (jb js i).ra else 0 := by
  have := pair_sum ok i s hi hs (fun e => e.2.2)
  rw [← weight_sum ok] at this
  exact this

/-- No two edges of jobs and slots have the same ends. -/
theorem pair_one (ok : Ok2 js sup) (i s : Nat) (hi : i < js.length) (hs : s < sup.length) {k k' : Nat} (hk : k < (edges js sup).length) (hk' : k' < (edges js sup).length)
    (h1 : frF (edges js sup) k = ((1 + i : Nat) : Int) ∧ toF (edges js sup) k = 1 + (js.length : Int) + (s : Int)) (h2 : frF (edges js sup) k' = ((1 + i : Nat) : Int) ∧ toF (edges js sup) k' = 1 + (js.length : Int) + (s : Int)) : k = k' := by
  have h := pair_sum ok i s hi hs (fun _ => 1)
  rw [← weight_sum ok] at h
  rcases Nat.decEq k k' with hne | he
  · exfalso
    have h3 : sumN (edges js sup).length (fun v => (if v = k then (1 : Int) else 0) + (if v = k' then 1 else 0)) ≤
        sumN (edges js sup).length (fun k => if ((edges js sup).getD k (0, 0, 0)).1 = ((1 + i : Nat) : Int) ∧ ((edges js sup).getD k (0, 0, 0)).2.1 = 1 + (js.length : Int) + (s : Int) then 1 else 0) := by
      refine sumN_le fun v _ => ?_
      by_cases e1 : v = k
      · subst e1
        rw [if_pos rfl, if_neg hne]; exact (if_pos (c := ((edges js sup).getD v (0, 0, 0)).1 = ((1 + i : Nat) : Int) ∧ ((edges js sup).getD v (0, 0, 0)).2.1 = 1 + (js.length : Int) + (s : Int)) h1) ▸ Int.le_refl _
      · by_cases e2 : v = k'
        · subst e2
          rw [if_neg e1, if_pos rfl]; exact (if_pos (c := ((edges js sup).getD v (0, 0, 0)).1 = ((1 + i : Nat) : Int) ∧ ((edges js sup).getD v (0, 0, 0)).2.1 = 1 + (js.length : Int) + (s : Int)) h2) ▸ Int.le_refl _
        · rw [if_neg e1, if_neg e2]; split <;> omega
    rw [sumN_add, sumN_single hk, sumN_single hk', h] at h3
    split at h3 <;> omega
  · exact he

theorem feas_of (ok : Ok2 js sup) {S : List Bool} {amount : Int} (hg : Good (nodesOf js sup) (edges js sup) 0 (1 + (js.length : Int) + (sup.length : Int)) amount fl S) (hw : wanted js ≤ amount) : Feas js sup (unit js sup fl) := by
  have hf := hg.flow
  have hin : ∀ i, i < js.length → flowX js sup fl (fun _ b => b = ((1 + i : Nat) : Int)) ≤ (jb js i).en := fun i hi => by
    have := (flowX_le hf (fun _ b => b = ((1 + i : Nat) : Int))).2
    rwa [capX_job ok i hi] at this
  have hamt : sumN js.length (fun i => flowX js sup fl (fun _ b => b = ((1 + i : Nat) : Int))) = amount := by
    have h := hg.amount
    unfold net at h
    rw [sumN_sub] at h
    have h1 : flowX js sup fl (fun _ b => b = 0) = 0 := by
      unfold flowX
      refine sumN_zero fun k hk => ?_
      obtain ⟨e, he, h1, h2, _⟩ := edge_at hk
      rw [h2]
      rw [if_neg]
      rcases edge_cls ok he with ⟨i, hi, rfl⟩ | ⟨i, s, hi, hs, _, rfl⟩ | ⟨s, hs, rfl⟩ <;> simp only <;> omega
    have h2 : sumN js.length (fun i => flowX js sup fl (fun _ b => b = ((1 + i : Nat) : Int))) = flowX js sup fl (fun a _ => a = 0) := by
      refine flowX_sum js.length (fun i _ b => b = ((1 + i : Nat) : Int)) (fun a _ => a = 0) fun e he => ?_
      rcases edge_cls ok he with ⟨i, hi, rfl⟩ | ⟨i, s, hi, hs, _, rfl⟩ | ⟨s, hs, rfl⟩
      · exact ⟨fun _ => ⟨i, hi, fun u => by simp only; omega⟩, fun h => absurd rfl h⟩
      · exact ⟨fun h => by simp only at h; omega, fun _ u hu => by simp only; omega⟩
      · exact ⟨fun h => by simp only at h; omega, fun _ u hu => by simp only; omega⟩
    rw [h2]
    unfold flowX at h1 ⊢
    dsimp only at h1 ⊢
    omega
  have hall : ∀ i, i < js.length → flowX js sup fl (fun _ b => b = ((1 + i : Nat) : Int)) = (jb js i).en := by
    intro i hi
    have hsub : sumN js.length (fun i => (jb js i).en - flowX js sup fl (fun _ b => b = ((1 + i : Nat) : Int))) = wanted js - amount := by
      rw [sumN_sub, hamt]; rfl
    have hge : sumN js.length (fun v => if v = i then (jb js i).en - flowX js sup fl (fun _ b => b = ((1 + i : Nat) : Int)) else 0) ≤ sumN js.length (fun i => (jb js i).en - flowX js sup fl (fun _ b => b = ((1 + i : Nat) : Int))) := by
      refine sumN_le fun v hv => ?_
      have := hin v hv
      split
      · rename_i e; subst e; exact Int.le_refl _
      · omega
    rw [sumN_single hi, hsub] at hge
    have := hin i hi
    omega
  refine ⟨fun i s _ _ => (flowX_le hf _).1, fun i s hi hs => ?_, fun i s hi hs h0 => ?_, fun i hi => ?_, fun s hs => ?_⟩
  · have h := (flowX_le hf (fun a b => a = ((1 + i : Nat) : Int) ∧ b = 1 + (js.length : Int) + (s : Int))).2
    rw [capX_pair ok i s hi hs] at h
    obtain ⟨_, _, _, _, _, a, _⟩ := ok.job i hi
    unfold unit
    split at h <;> omega
  · have h := (flowX_le hf (fun a b => a = ((1 + i : Nat) : Int) ∧ b = 1 + (js.length : Int) + (s : Int))).2
    rw [capX_pair ok i s hi hs] at h
    unfold unit at h0
    by_cases c : Win (jb js i) s
    · exact c
    · rw [if_neg c] at h; omega
  · rw [← hall i hi, ← keep_eq hf ((1 + i : Nat) : Int) (by omega) (by omega)]
    refine flowX_sum sup.length (fun s a b => a = ((1 + i : Nat) : Int) ∧ b = 1 + (js.length : Int) + (s : Int)) (fun a _ => a = ((1 + i : Nat) : Int)) fun e he => ?_
    rcases edge_cls ok he with ⟨i', hi', rfl⟩ | ⟨i', s, hi', hs, _, rfl⟩ | ⟨s, hs, rfl⟩
    · exact ⟨fun h => by simp only at h; omega, fun _ u hu => by simp only; omega⟩
    · exact ⟨fun h => ⟨s, hs, fun u => by simp only at h ⊢; omega⟩, fun h u hu => by simp only at h ⊢; omega⟩
    · exact ⟨fun h => by simp only at h; omega, fun _ u hu => by simp only; omega⟩
  · have h1 : sumN js.length (fun i => unit js sup fl i s) = flowX js sup fl (fun _ b => b = 1 + (js.length : Int) + (s : Int)) := by
      refine flowX_sum js.length (fun i a b => a = ((1 + i : Nat) : Int) ∧ b = 1 + (js.length : Int) + (s : Int)) (fun _ b => b = 1 + (js.length : Int) + (s : Int)) fun e he => ?_
      rcases edge_cls ok he with ⟨i', hi', rfl⟩ | ⟨i', s', hi', hs', _, rfl⟩ | ⟨s', hs', rfl⟩
      · exact ⟨fun h => by simp only at h; omega, fun _ u hu => by simp only; omega⟩
      · exact ⟨fun h => ⟨i', hi', fun u => by simp only at h ⊢; omega⟩, fun h u hu => by simp only at h ⊢; omega⟩
      · exact ⟨fun h => by simp only at h; omega, fun _ u hu => by simp only; omega⟩
    rw [h1, ← keep_eq hf _ (by omega) (by omega), ← capX_slot ok s hs]
    exact (flowX_le hf _).2

theorem cut_of (ok : Ok2 js sup) {S : List Bool} {amount : Int} (hg : Good (nodesOf js sup) (edges js sup) 0 (1 + (js.length : Int) + (sup.length : Int)) amount fl S) :
    need js (fun i => sees S ((1 + i : Nat) : Int)) - give js sup (fun i => sees S ((1 + i : Nat) : Int)) (fun s => sees S (1 + (js.length : Int) + (s : Int))) = wanted js - amount := by
  have hc := hg.cap
  have h0 := hg.cut.src
  have h1 := hg.cut.snk
  have hx : capOf (edges js sup).length (frF (edges js sup)) (toF (edges js sup)) (capF (edges js sup)) (sees S) = capX js sup (fun a b => sees S a = true ∧ sees S b = false) := rfl
  rw [hx, capX_sum ok] at hc
  have e1 : sumN js.length (fun i => (if sees S 0 = true ∧ sees S ((1 + i : Nat) : Int) = false then (jb js i).en else 0) +
        sumN sup.length (fun s => if Win (jb js i) s then (if sees S ((1 + i : Nat) : Int) = true ∧ sees S (1 + (js.length : Int) + (s : Int)) = false then (jb js i).ra else 0) else 0)) =
      sumN js.length (fun i => ((jb js i).en - if sees S ((1 + i : Nat) : Int) = true then (jb js i).en else 0) +
        (if sees S ((1 + i : Nat) : Int) = true then sumN sup.length (fun s => if Win (jb js i) s ∧ sees S (1 + (js.length : Int) + (s : Int)) = false then (jb js i).ra else 0) else 0)) := by
    refine sumN_congr fun i _ => ?_
    congr 1
    · rw [h0]
      cases sees S ((1 + i : Nat) : Int) <;> simp
    · rw [sumN_ite]
      refine sumN_congr fun s _ => ?_
      by_cases c1 : Win (jb js i) s <;> cases c2 : sees S ((1 + i : Nat) : Int) <;> cases c3 : sees S (1 + (js.length : Int) + (s : Int)) <;> simp [c1]
  have e2 : sumN sup.length (fun s => if sees S (1 + (js.length : Int) + (s : Int)) = true ∧ sees S (1 + (js.length : Int) + (sup.length : Int)) = false then sp sup s else 0) =
      sumN sup.length (fun s => if sees S (1 + (js.length : Int) + (s : Int)) = true then sp sup s else 0) := by
    refine sumN_congr fun s _ => ?_
    rw [h1]; simp
  rw [e1, e2, sumN_add, sumN_sub] at hc
  unfold need give wanted
  dsimp only
  omega

/-- Greater than what is wanted no amount is. -/
theorem amount_le (ok : Ok2 js sup) {S : List Bool} {amount : Int} (hg : Good (nodesOf js sup) (edges js sup) 0 (1 + (js.length : Int) + (sup.length : Int)) amount fl S) : amount ≤ wanted js := by
  have hf := hg.flow
  have h := hg.amount
  unfold net at h
  rw [sumN_sub] at h
  have h1 : 0 ≤ flowX js sup fl (fun _ b => b = 0) := (flowX_le hf _).1
  have h2 := (flowX_le hf (fun a _ => a = 0)).2
  have h3 : capX js sup (fun a _ => a = 0) = wanted js := by
    rw [capX_sum ok]
    rw [sumN_zero (n := sup.length) (f := fun s => if 1 + (js.length : Int) + (s : Int) = 0 then sp sup s else 0) (fun s _ => by rw [if_neg (by omega)]), Int.add_zero]
    refine sumN_congr fun i _ => ?_
    rw [if_pos rfl, sumN_zero (fun s' _ => by rw [if_neg (show ¬ (((1 + i : Nat) : Int) = 0) by omega)]; simp)]
    omega
  unfold flowX at h1 h2
  dsimp only at h1 h2
  omega
end
end Go.Proofs.Ytioglahnliajlaa.PlanTheory

/-! A part of what there is: plain facts of sums. -/
namespace Go.Proofs.Ytioglahnliajlaa.PlanTheory
open Go.Proofs.Ytioglahnliajlaa.FlowTheory Go.Proofs.Ytioglahnliajlaa.FlowM

/-- Of what is there as much as is wanted can be taken. -/
theorem split_sum : ∀ (n : Nat) (g : Nat → Int) (en : Int), (∀ s, s < n → 0 ≤ g s) → 0 ≤ en → en ≤ sumN n g → ∃ q : Nat → Int, (∀ s, s < n → 0 ≤ q s ∧ q s ≤ g s) ∧ sumN n q = en
  | 0, g, en, _, h0, h1 => ⟨fun _ => 0, fun s hs => absurd hs (Nat.not_lt_zero _), by simp only [sumN] at h1 ⊢; omega⟩
  | n + 1, g, en, hg, h0, h1 => by
    simp only [sumN] at h1
    have hn := hg n (by omega)
    rcases Int.le_total en (sumN n g) with h | h
    · obtain ⟨q, hq, e⟩ := split_sum n g en (fun s hs => hg s (by omega)) h0 h
      refine ⟨fun s => if s < n then q s else 0, fun s hs => ?_, ?_⟩
      · by_cases c : s < n
        · simp only [if_pos c]; exact hq s c
        · have : s = n := by omega
          subst this
          simp only [if_neg c]
          omega
      · simp only [sumN]
        rw [sumN_congr (g := q) (fun i hi => if_pos hi), e]
        simp
    · refine ⟨fun s => if s < n then g s else en - sumN n g, fun s hs => ?_, ?_⟩
      · by_cases c : s < n
        · simp only [if_pos c]; exact ⟨hg s (by omega), Int.le_refl _⟩
        · have : s = n := by omega
          subst this
          simp only [if_neg c]
          omega
      · simp only [sumN]
        rw [sumN_congr (g := g) (fun i hi => if_pos hi)]
        simp
        omega

/-- One job alone. -/
theorem one_job {j : Jb} {sup : List Int} (hj : JobOk j sup.length) (hs : ∀ s, s < sup.length → 0 ≤ sp sup s) :
    (∃ p, Feas [j] sup p) ↔ j.en ≤ sumN sup.length (fun s => if Win j s then min j.ra (sp sup s) else 0) := by
  obtain ⟨_, _, _, e0, _, r0, _⟩ := hj
  have hjb : jb [j] 0 = j := rfl
  constructor
  · rintro ⟨p, hp⟩
    have hm := hp.met 0 (by simp)
    rw [hjb] at hm
    rw [← hm]
    refine sumN_le fun s hs' => ?_
    have h1 := hp.hi 0 s (by simp) hs'
    have h2 := hp.room s hs'
    have h3 := hp.win 0 s (by simp) hs'
    rw [hjb] at h1 h3
    simp only [List.length_cons, List.length_nil, sumN] at h2
    split
    · omega
    · rename_i hw
      rcases Int.lt_or_le 0 (p 0 s) with h | h
      · exact absurd (h3 h) hw
      · exact h
  · intro h
    obtain ⟨q, hq, e⟩ := split_sum sup.length _ j.en (fun s hs' => by
      have := hs s hs'
      split <;> omega) e0 h
    refine ⟨fun _ s => q s, fun i s _ hs' => (hq s hs').1, fun i s hi hs' => ?_, fun i s hi hs' hpos => ?_, fun i hi => ?_, fun s hs' => ?_⟩
    · have hi' : i = 0 := by simp at hi; omega
      subst hi'
      rw [hjb]
      have := (hq s hs').2
      have := hs s hs'
      split at * <;> omega
    · have hi' : i = 0 := by simp at hi; omega
      subst hi'
      rw [hjb]
      have := (hq s hs').2
      split at this
      · assumption
      · omega
    · have hi' : i = 0 := by simp at hi; omega
      subst hi'
      rw [hjb]
      exact e
    · simp only [List.length_cons, List.length_nil, sumN]
      have := (hq s hs').2
      have := hs s hs'
      split at * <;> omega
end Go.Proofs.Ytioglahnliajlaa.PlanTheory

/-! One job less, one job eased. -/
namespace Go.Proofs.Ytioglahnliajlaa.PlanTheory
open Go.Proofs.Ytioglahnliajlaa.FlowTheory Go.Proofs.Ytioglahnliajlaa.FlowM

def skip (i a : Nat) : Nat := if a < i then a else a + 1
theorem sumN_skip (f : Nat → Int) (i : Nat) : ∀ m : Nat, i ≤ m → sumN (m + 1) f = sumN m (fun a => f (skip i a)) + f i := by
  intro m
  induction m with
  | zero => intro h; have : i = 0 := by omega
            subst this; simp [sumN]
  | succ m ih =>
    intro h
    rcases Nat.eq_or_lt_of_le h with e | e
    · subst e
      rw [sumN]
      congr 1
      exact sumN_congr fun a ha => by unfold skip; rw [if_pos ha]
    · have ih' := ih (by omega)
      rw [sumN, ih', sumN]
      have : skip i m = m + 1 := by unfold skip; rw [if_neg (by omega)]
      rw [this]
      omega

theorem jb_less (js : List Jb) (i a : Nat) (hi : i < js.length) : jb (js.take i ++ js.drop (i + 1)) a = jb js (skip i a) := by
  unfold jb skip
  simp only [List.getD_eq_getElem?_getD, List.getElem?_append, List.length_take, Nat.min_eq_left (Nat.le_of_lt hi)]
  by_cases c : a < i
  · rw [if_pos c, if_pos c, List.getElem?_take_of_lt c]
  · rw [if_neg c, if_neg c, List.getElem?_drop]
    congr 2
    omega

theorem feas_less {js : List Jb} {sup : List Int} {p : Nat → Nat → Int} (h : Feas js sup p) (i : Nat) (hi : i < js.length) : Feas (js.take i ++ js.drop (i + 1)) sup (fun a s => p (skip i a) s) := by
  have hl : (js.take i ++ js.drop (i + 1)).length = js.length - 1 := by simp; omega
  have hk : ∀ a, a < js.length - 1 → skip i a < js.length := fun a ha => by unfold skip; split <;> omega
  refine ⟨fun a s ha hs => h.lo _ s (hk a (by omega)) hs, fun a s ha hs => ?_, fun a s ha hs => ?_, fun a ha => ?_, fun s hs => ?_⟩
  · rw [jb_less js i a hi]; exact h.hi _ s (hk a (by omega)) hs
  · rw [jb_less js i a hi]; exact h.win _ s (hk a (by omega)) hs
  · rw [jb_less js i a hi]; exact h.met _ (hk a (by omega))
  · have h1 := h.room s hs
    have h2 := sumN_skip (fun a => p a s) i (js.length - 1) (by omega)
    rw [show js.length - 1 + 1 = js.length by omega] at h2
    have h3 := h.lo i s hi hs
    rw [hl]
    omega

theorem feas_ease {js js' : List Jb} {sup sup' : List Int} {p : Nat → Nat → Int} (h : Feas js sup p) (i : Nat) (hi : i < js.length) (hl : js'.length = js.length) (hne : ∀ a, a ≠ i → jb js' a = jb js a)
    (e0 : 0 ≤ (jb js' i).en) (e1 : (jb js' i).en ≤ (jb js i).en) (r1 : (jb js i).ra ≤ (jb js' i).ra) (hw : ∀ s, s < sup.length → Win (jb js i) s → Win (jb js' i) s) (hs : sup'.length = sup.length) (hle : ∀ s, s < sup.length → sp sup s ≤ sp sup' s) :
    ∃ q, Feas js' sup' q := by
  have hm := h.met i hi
  obtain ⟨q, hq, e⟩ := split_sum sup.length (p i) (jb js' i).en (fun s hs' => h.lo i s hi hs') e0 (by omega)
  refine ⟨fun a s => if a = i then q s else p a s, fun a s ha hs' => ?_, fun a s ha hs' => ?_, fun a s ha hs' => ?_, fun a ha => ?_, fun s hs' => ?_⟩
  · by_cases c : a = i
    · rw [if_pos c]; exact (hq s (by omega)).1
    · rw [if_neg c]; exact h.lo a s (by omega) (by omega)
  · by_cases c : a = i
    · subst c
      rw [if_pos rfl]
      have := (hq s (by omega)).2
      have := h.hi a s hi (by omega)
      omega
    · rw [if_neg c, hne a c]; exact h.hi a s (by omega) (by omega)
  · by_cases c : a = i
    · subst c
      rw [if_pos rfl]
      intro h0
      have := (hq s (by omega)).2
      exact hw s (by omega) (h.win a s hi (by omega) (by omega))
    · rw [if_neg c, hne a c]; exact h.win a s (by omega) (by omega)
  · by_cases c : a = i
    · subst c
      rw [hs, ← e]
      exact sumN_congr fun s _ => by simp
    · rw [hs, hne a c, ← h.met a (by omega)]
      exact sumN_congr fun s _ => by simp [c]
  · rw [hl]
    have h1 := h.room s (by omega)
    have h2 := hle s (by omega)
    have h3 : sumN js.length (fun a => if a = i then q s else p a s) ≤ sumN js.length (fun a => p a s) := sumN_le fun a ha => by
      by_cases c : a = i
      · subst c
        rw [if_pos rfl]; exact (hq s (by omega)).2
      · rw [if_neg c]; exact Int.le_refl _
    omega
end Go.Proofs.Ytioglahnliajlaa.PlanTheory

/-! Jobs turned, mirrored, scaled. -/
namespace Go.Proofs.Ytioglahnliajlaa.PlanTheory
open Go.Proofs.Ytioglahnliajlaa.FlowTheory Go.Proofs.Ytioglahnliajlaa.FlowM

theorem sumN_first (n : Nat) (f : Nat → Int) : sumN (n + 1) f = f 0 + sumN n (fun i => f (i + 1)) := by
  induction n with
  | zero => simp [sumN]
  | succ n ih =>
    rw [sumN, ih]
    simp only [sumN]
    omega
theorem sumN_rot1 (n : Nat) (f : Nat → Int) : sumN n (fun i => f ((i + 1) % n)) = sumN n f := by
  cases n with
  | zero => rfl
  | succ n =>
    rw [sumN_first n f, sumN]
    rw [sumN_congr (g := fun i => f (i + 1)) (fun i hi => by rw [Nat.mod_eq_of_lt (by omega)]), Nat.mod_self]
    omega
theorem sumN_rot (n : Nat) (f : Nat → Int) : ∀ t : Nat, sumN n (fun i => f ((i + t) % n)) = sumN n f := by
  intro t
  induction t with
  | zero => exact sumN_congr fun i hi => by rw [Nat.add_zero, Nat.mod_eq_of_lt hi]
  | succ t ih =>
    rw [← ih, ← sumN_rot1 n (fun i => f ((i + t) % n))]
    refine sumN_congr fun i _ => ?_
    rw [Nat.mod_add_mod]
    congr 2
    omega
theorem sumN_rev (f : Nat → Int) : ∀ n : Nat, sumN n (fun s => f (n - 1 - s)) = sumN n f := by
  intro n
  induction n with
  | zero => rfl
  | succ n ih =>
    rw [sumN_first, sumN, ← ih]
    rw [show n + 1 - 1 - 0 = n by omega]
    rw [sumN_congr (g := fun s => f (n - 1 - s)) (fun s _ => by rw [show n + 1 - 1 - (s + 1) = n - 1 - s by omega])]
    omega

theorem turn_can {js js' : List Jb} {sup : List Int} {p : Nat → Nat → Int} (h : Feas js sup p) (t : Nat) (hl : js'.length = js.length) (he : ∀ i, i < js.length → jb js' i = jb js ((i + t) % js.length)) :
    Feas js' sup (fun i s => p ((i + t) % js.length) s) := by
  have hk : ∀ i, i < js.length → (i + t) % js.length < js.length := fun i hi => Nat.mod_lt _ (by omega)
  refine ⟨fun i s hi hs => h.lo _ s (hk i (by omega)) hs, fun i s hi hs => ?_, fun i s hi hs => ?_, fun i hi => ?_, fun s hs => ?_⟩
  · rw [he i (by omega)]; exact h.hi _ s (hk i (by omega)) hs
  · rw [he i (by omega)]; exact h.win _ s (hk i (by omega)) hs
  · rw [he i (by omega)]; exact h.met _ (hk i (by omega))
  · rw [hl, sumN_rot js.length (fun i => p i s) t]; exact h.room s hs

theorem mirror_can {js js' : List Jb} {sup sup' : List Int} {p : Nat → Nat → Int} (h : Feas js sup p) (hl : js'.length = js.length) (hs' : sup'.length = sup.length)
    (he : ∀ i, i < js.length → (jb js' i).fr = (sup.length : Int) - (jb js i).to ∧ (jb js' i).to = (sup.length : Int) - (jb js i).fr ∧ (jb js' i).en = (jb js i).en ∧ (jb js' i).ra = (jb js i).ra)
    (hsp : ∀ s, s < sup.length → sp sup' s = sp sup (sup.length - 1 - s)) :
    Feas js' sup' (fun i s => p i (sup.length - 1 - s)) := by
  refine ⟨fun i s hi hs => h.lo i _ (by omega) (by omega), fun i s hi hs => ?_, fun i s hi hs h0 => ?_, fun i hi => ?_, fun s hs => ?_⟩
  · rw [(he i (by omega)).2.2.2]; exact h.hi i _ (by omega) (by omega)
  · have := h.win i _ (by omega) (by omega) h0
    have e := he i (by omega)
    unfold Win at this ⊢
    omega
  · rw [hs', (he i (by omega)).2.2.1, sumN_rev (p i)]; exact h.met i (by omega)
  · rw [hl, hsp s (by omega)]; exact h.room _ (by omega)

structure Scaled (c : Int) (js js' : List Jb) (sup sup' : List Int) : Prop where
  len : js'.length = js.length
  slen : sup'.length = sup.length
  job : ∀ i, i < js.length → jb js' i = ⟨(jb js i).fr, (jb js i).to, (jb js i).en * c, (jb js i).ra * c⟩
  sp_ : ∀ s, s < sup.length → sp sup' s = sp sup s * c

theorem scale_can {c : Int} {js js' : List Jb} {sup sup' : List Int} (x : Scaled c js js' sup sup') (hc : 1 ≤ c) {p : Nat → Nat → Int} (h : Feas js sup p) : Feas js' sup' (fun i s => c * p i s) := by
  have hl := x.len
  have hs := x.slen
  have mono : ∀ a b : Int, a ≤ b → c * a ≤ b * c := fun a b hab => by rw [Int.mul_comm b c]; exact Int.mul_le_mul_of_nonneg_left hab (by omega)
  refine ⟨fun i s hi hs => ?_, fun i s hi hs => ?_, fun i s hi hs h0 => ?_, fun i hi => ?_, fun s hs => ?_⟩
  · exact Int.mul_nonneg (by omega) (h.lo i s (by omega) (by omega))
  · rw [x.job i (by omega)]; exact mono _ _ (h.hi i s (by omega) (by omega))
  · rw [x.job i (by omega)]
    refine h.win i s (by omega) (by omega) ?_
    rcases Int.lt_or_le 0 (p i s) with h' | h'
    · exact h'
    · have := Int.mul_nonpos_of_nonneg_of_nonpos (show 0 ≤ c by omega) h'
      omega
  · rw [hs, x.job i (by omega), sumN_mul, h.met i (by omega)]
    exact Int.mul_comm _ _
  · rw [hl, x.sp_ s (by omega), sumN_mul]
    exact mono _ _ (h.room s (by omega))

theorem scale_need {c : Int} {js js' : List Jb} {sup sup' : List Int} (x : Scaled c js js' sup sup') (A : Nat → Bool) : need js' A = c * need js A := by
  unfold need
  rw [x.len, ← sumN_mul]
  refine sumN_congr fun i hi => ?_
  rw [x.job i hi]
  split
  · exact Int.mul_comm _ _
  · simp
theorem scale_give {c : Int} {js js' : List Jb} {sup sup' : List Int} (x : Scaled c js js' sup sup') (A B : Nat → Bool) : give js' sup' A B = c * give js sup A B := by
  unfold give
  rw [x.len, x.slen, Int.mul_add, ← sumN_mul, ← sumN_mul]
  congr 1
  · refine sumN_congr fun s hs => ?_
    rw [x.sp_ s hs]
    split
    · exact Int.mul_comm _ _
    · simp
  · refine sumN_congr fun i hi => ?_
    rw [x.job i hi]
    split
    · rw [← sumN_mul]
      refine sumN_congr fun s _ => ?_
      have hw : Win (⟨(jb js i).fr, (jb js i).to, (jb js i).en * c, (jb js i).ra * c⟩ : Jb) s ↔ Win (jb js i) s := Iff.rfl
      by_cases q : Win (jb js i) s ∧ B s = false
      · rw [if_pos q, if_pos ⟨hw.2 q.1, q.2⟩]
        exact Int.mul_comm _ _
      · rw [if_neg q, if_neg (fun h => q ⟨hw.1 h.1, h.2⟩)]
        simp
    · simp
/-- A cut stays a cut. -/
theorem scale_cut {c : Int} {js js' : List Jb} {sup sup' : List Int} (x : Scaled c js js' sup sup') (hc : 1 ≤ c) {A B : Nat → Bool} (h : give js sup A B < need js A) {p : Nat → Nat → Int} : ¬ Feas js' sup' p := fun hf => by
  have h1 := not_both hf A B
  rw [scale_need x, scale_give x] at h1
  have := Int.mul_lt_mul_of_pos_left h (show 0 < c by omega)
  omega
end Go.Proofs.Ytioglahnliajlaa.PlanTheory
