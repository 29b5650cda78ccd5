/-! The greatest flow, as the code finds it: plain functions. -/
namespace Go.Proofs.Ytfjbbmgnfpeogaa.FlowM
abbrev E := Int × Int × Int

structure Step where
  edge : Nat
  back : Bool
  to : Int
  room : Int

/-- What edge i offers from a node. -/
def offer (es : List E) (fl : List Int) (fr : Int) (i : Nat) : Option Step :=
  match es[i]? with
  | none => none
  | some e =>
    if e.1 = e.2.1 then none
    else if e.1 = fr ∧ fl.getD i 0 < e.2.2 then some ⟨i, false, e.2.1, e.2.2 - fl.getD i 0⟩
    else if e.2.1 = fr ∧ 0 < fl.getD i 0 then some ⟨i, true, e.1, fl.getD i 0⟩
    else none

structure St where
  seen : List Bool
  by_ : List (Int × Step)
  q : List Int

def sees (l : List Bool) (v : Int) : Bool := l.getD v.toNat false

/-- One step is met; true: the sink is reached. -/
def meet (sink : Int) (st : St) (s : Step) : St × Bool :=
  if sees st.seen s.to = true then (st, false)
  else ({ seen := st.seen.set s.to.toNat true, by_ := st.by_ ++ [(s.to, s)], q := st.q ++ [s.to] }, decide (s.to = sink))

/-- The edges from place i on, d of them. -/
def scan (es : List E) (fl : List Int) (fr sink : Int) : Nat → Nat → St → St × Bool
  | 0, _, st => (st, false)
  | d + 1, i, st =>
    match offer es fl fr i with
    | none => scan es fl fr sink d (i + 1) st
    | some s => if (meet sink st s).2 = true then ((meet sink st s).1, true) else scan es fl fr sink d (i + 1) (meet sink st s).1

def bfs (es : List E) (fl : List Int) (sink : Int) : Nat → St → Option St
  | 0, _ => none
  | k + 1, st =>
    match st.q with
    | [] => some st
    | n :: q =>
      if (scan es fl n sink es.length 0 { st with q := q }).2 = true then some (scan es fl n sink es.length 0 { st with q := q }).1
      else bfs es fl sink k (scan es fl n sink es.length 0 { st with q := q }).1

def find (l : List (Int × Step)) (v : Int) : Option Step := (l.find? (fun p => p.1 == v)).map (·.2)

/-- The node from which a step leads. -/
def other (es : List E) (s : Step) : Int := let e := es.getD s.edge (0, 0, 0); if s.back = true then e.2.1 else e.1

/-- The way back from a node to the source. -/
def way (es : List E) (by_ : List (Int × Step)) (source : Int) : Nat → Int → Option (List Step)
  | 0, _ => none
  | k + 1, n =>
    if n = source then some []
    else match find by_ n with
      | none => none
      | some s => (way es by_ source k (other es s)).map (s :: ·)

def roomOf (p : List Step) : Int := p.foldl (fun r s => min r s.room) 1000000

def bump (room : Int) (fl : List Int) (s : Step) : List Int :=
  fl.set s.edge (if s.back = true then fl.getD s.edge 0 - room else fl.getD s.edge 0 + room)

def start (nodes : Nat) (source : Int) : St := { seen := (List.replicate nodes false).set source.toNat true, by_ := [], q := [source] }

def most (nodes : Nat) (es : List E) (source sink : Int) : Nat → List Int → Int → Option (Int × List Int × List Bool)
  | 0, _, _ => none
  | k + 1, fl, amount =>
    match bfs es fl sink (nodes + 1) (start nodes source) with
    | none => none
    | some st =>
      if sees st.seen sink = true then
        match way es st.by_ source (nodes + 1) sink with
        | none => none
        | some p => most nodes es source sink k (p.foldl (bump (roomOf p)) fl) (amount + roomOf p)
      else some (amount, fl, st.seen)

end Go.Proofs.Ytfjbbmgnfpeogaa.FlowM
