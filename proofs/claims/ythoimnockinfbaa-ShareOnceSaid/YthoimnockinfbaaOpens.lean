import Derived.Test.YthoimnockinfbaaWWords
import Derived.Deep.Slices
import Derived.WideShapes
import Derived.ChangeArms
/-! Arguments of a law, opened: rows of states, states with rows. -/
namespace Go.Proofs.Ythoimnockinfbaa.Pr
open Go.RowKit Go.Proofs.YthoimnockinfbaaW.PrintWords
open Go.ChangeShapes Go.WideShapes

/-- What is read at type T is of the kind d, and good. -/
def Opens {α : Type} (P : Program) (T : TypeId) (d : Kd α) (G : α → Prop) : Prop :=
  ∀ (H : Type) (enc : TypeId × Value → H) (w : World) (spare : Nat → Bool) (held : Bool) (fuel : Nat) (cs : List Value) (x : DataW H × List MemPlace), DataW.trod enc P w 0 spare held fuel T cs = some x → ∃ y, d.K w y cs ∧ G y

def OpensF {α : Type} (P : Program) (fs : List Field) (off : Nat) (d : Kd α) (G : α → Prop) : Prop :=
  ∀ (H : Type) (enc : TypeId × Value → H) (w : World) (spare : Nat → Bool) (held : Bool) (n : Nat) (cs : List Value), cs.length = off + d.sz →
    (∀ f ∈ fs, ∃ x, DataW.trod enc P w 0 spare held n f.type ((cs.drop f.offset).take (P.cellsOf f.type)) = some x) → ∃ y, d.K w y (cs.drop off) ∧ G y

def Int64 (k : IntKind) (n : Int) : Prop := (Lit.int k n).wf = true

theorem opens_int {P : Program} {T : TypeId} {k : IntKind} (h : P.underlying T = some (.int k)) : Opens P T (Kd.int k) (Int64 k) := by
  intro H enc w spare held fuel cs x hx
  obtain ⟨n, rfl, rfl, hw⟩ := DataW.trod_int h hx
  exact ⟨n, rfl, hw⟩
theorem opens_bool {P : Program} {T : TypeId} (h : P.underlying T = some .bool) : Opens P T Kd.bool (fun _ => True) := by
  intro H enc w spare held fuel cs x hx
  obtain ⟨n, rfl, rfl⟩ := DataW.trod_bool h hx
  exact ⟨n, rfl, trivial⟩
theorem opens_string {P : Program} {T : TypeId} (h : P.underlying T = some .string) : Opens P T Kd.string (fun s => s.size ≤ maxLen) := by
  intro H enc w spare held fuel cs x hx
  obtain ⟨s, rfl, rfl, hs⟩ := DataW.trod_string h hx
  exact ⟨s, rfl, hs⟩
theorem opens_iso {P : Program} {T : TypeId} {α β : Type} {d : Kd α} {G : α → Prop} (f : β → α) (g : α → β) (hg : ∀ y, f (g y) = y) (h : Opens P T d G) : Opens P T (Kd.iso d f) (fun x => G (f x)) := by
  intro H enc w spare held fuel cs x hx
  obtain ⟨y, hk, hG⟩ := h H enc w spare held fuel cs x hx
  exact ⟨g y, by show d.K w (f (g y)) cs; rw [hg]; exact hk, by show G (f (g y)); rw [hg]; exact hG⟩
theorem opensF_one {P : Program} {f : Field} {off : Nat} {α : Type} {d : Kd α} {G : α → Prop} (ho : f.offset = off) (hc : P.cellsOf f.type = d.sz) (h : Opens P f.type d G) : OpensF P [f] off d G := by
  intro H enc w spare held n cs hl hx
  obtain ⟨x, hx⟩ := hx f (by simp)
  rw [ho, hc, List.take_of_length_le (by simp; omega)] at hx
  exact h H enc w spare held n _ x hx
theorem opensF_cons {P : Program} {f : Field} {fs : List Field} {off : Nat} {α β : Type} {d : Kd α} {G : α → Prop} {d2 : Kd β} {G2 : β → Prop} (ho : f.offset = off) (hc : P.cellsOf f.type = d.sz) (h : Opens P f.type d G) (h2 : OpensF P fs (off + d.sz) d2 G2) :
    OpensF P (f :: fs) off (Kd.pair d d2) (fun x => G x.1 ∧ G2 x.2) := by
  intro H enc w spare held n cs hl hx
  have hsz : (Kd.pair d d2).sz = d.sz + d2.sz := rfl
  rw [hsz] at hl
  obtain ⟨y2, k2, g2⟩ := h2 H enc w spare held n cs (by omega) (fun f' hf => hx f' (by simp [hf]))
  obtain ⟨x, hx⟩ := hx f (by simp)
  rw [ho, hc] at hx
  obtain ⟨y1, k1, g1⟩ := h H enc w spare held n _ x hx
  refine ⟨(y1, y2), ⟨(cs.drop off).take d.sz, cs.drop (off + d.sz), ?_, k1, k2⟩, g1, g2⟩
  rw [← List.drop_drop, List.take_append_drop]
theorem opens_struct {P : Program} {T : TypeId} {fs : Array Field} {α : Type} {d : Kd α} {G : α → Prop} (hu : P.underlying T = some (.struct fs)) (hc : P.cellsOf T = d.sz) (h : OpensF P fs.toList 0 d G) : Opens P T d G := by
  intro H enc w spare held fuel cs x hx
  obtain ⟨xs, n, rfl, rfl, hl, hsz, hf⟩ := DataW.trod_struct hu hx
  obtain ⟨y, hk, hG⟩ := h H enc w spare held n cs (by omega) (fun f hfm => by
    obtain ⟨i, hi⟩ := List.getElem?_of_mem hfm
    have hi2 : fs[i]? = some f := by simpa using hi
    have hlt : i < xs.length := by
      rcases Nat.lt_or_ge i fs.size with h' | h'
      · omega
      · rw [Array.getElem?_eq_none h'] at hi2; cases hi2
    exact ⟨xs[i], by rw [hf i f hi2, List.getElem?_eq_getElem hlt]⟩)
  rw [List.drop_zero] at hk
  exact ⟨y, hk, hG⟩
theorem opens_slice {P : Program} {T e : TypeId} {e' : Nat} {α : Type} [Inhabited α] {d : Kd α} {G : α → Prop} (hu : P.underlying T = some (.slice e)) (hc : P.cellsOf e = d.sz) (h : Opens P e d G) :
    Opens P T (Kd.slice e' d) (fun l => l.length ≤ maxLen ∧ ∀ y ∈ l, G y) := by
  intro H enc w spare held fuel cs x hx
  rcases Go.Deep.open_slice hu hx with ⟨rfl, _⟩ | ⟨a, len, cap, m, n, D, Pl, rfl, _, hl, hm, hmm, _, hi⟩
  · exact ⟨[], ⟨none, 0, rfl, Nat.le_refl _, ⟨rfl, by simp, fun h => by simp at h⟩⟩, by simp, fun y hy => by cases hy⟩
  · have hlm : len ≤ m := by rw [hmm]; split <;> omega
    obtain ⟨f, hf⟩ := Go.Deep.choose_lt (n := len) (p := fun i y => ∃ cs', w.cells? 0 (a.add (i * P.cellsOf e)) (P.cellsOf e) = some cs' ∧ d.K w y cs' ∧ G y) (fun i hlt => by
      obtain ⟨cs', h1, h2⟩ := hi i (by omega)
      obtain ⟨y, h3, h4⟩ := h H enc w spare held n cs' _ h2
      exact ⟨y, cs', h1, h3, h4⟩)
    have hlen : ((List.range len).map f).length = len := by simp
    refine ⟨(List.range len).map f, ⟨some a, cap, by rw [hlen], by rw [hlen]; exact hl, ⟨by rw [hlen], by rw [hlen]; exact Nat.le_trans hl hm, fun _ => ⟨a, rfl, fun j p hp => ?_⟩⟩⟩, by rw [hlen]; exact Nat.le_trans hl hm, fun y hy => ?_⟩
    · have hj : j < len := by
        rcases Nat.lt_or_ge j len with h' | h'
        · exact h'
        · rw [List.getElem?_eq_none (by rw [hlen]; exact h')] at hp; cases hp
      have hp' : p = f j := by
        rw [List.getElem?_map, List.getElem?_range hj] at hp
        exact (Option.some.inj hp).symm
      subst hp'
      obtain ⟨cs', h1, h2, h3⟩ := hf j hj
      obtain ⟨_, h4, h5⟩ := World.cells?_some h1
      rw [hc] at h1 h4 h5
      refine ⟨cs', h4, h2, fun i u hu => ?_⟩
      have hi2 : i < d.sz := by
        rcases Nat.lt_or_ge i d.sz with h' | h'
        · exact h'
        · rw [List.getElem?_eq_none (by omega)] at hu; cases hu
      have := h5 i hi2
      rw [hu] at this
      rw [← this]
      congr 1
      by_cases a1 : j * d.sz = 0 <;> by_cases b1 : i = 0 <;> simp [Addr.add, a1, b1, Nat.add_assoc]
    · obtain ⟨i, hi', rfl⟩ := List.mem_map.1 hy
      obtain ⟨_, _, _, hg⟩ := hf i (List.mem_range.1 hi')
      exact hg

theorem arg_struct {H : Type} {enc : TypeId × Value → H} {P : Program} {w : World} {r : Reach} {b0 : Nat} {spare : Nat → Bool} {held : Bool} {T : TypeId} {fs : Array Field} {v : Value} {x : DataW H} {p : List MemPlace} {α : Type} {d : Kd α} {G : α → Prop}
    (hu : P.underlying T = some (.struct fs)) (ho : Opens P T d G) (hv : Value.okWide P w r b0 T v) (h : DataW.Trod enc P w 0 spare held T v x p) : ∃ (cs : List Value) (y : α), v = .agg cs.toArray ∧ d.K w y cs ∧ G y := by
  obtain ⟨cs, rfl, _⟩ := okWide_struct hu hv
  obtain ⟨fuel, hf⟩ := h
  obtain ⟨y, hk, hG⟩ := ho H enc w spare held fuel _ _ hf
  exact ⟨cs.toList, y, by simp, hk, hG⟩
theorem arg_slice {H : Type} {enc : TypeId × Value → H} {P : Program} {w : World} {r : Reach} {b0 : Nat} {spare : Nat → Bool} {held : Bool} {T e : TypeId} {e' : Nat} {v : Value} {x : DataW H} {p : List MemPlace} {α : Type} {d : Kd α} {G : List α → Prop}
    (hu : P.underlying T = some (.slice e)) (ho : Opens P T (Kd.slice e' d) G) (hv : Value.okWide P w r b0 T v) (h : DataW.Trod enc P w 0 spare held T v x p) : ∃ (A : Option Addr) (c : Nat) (l : List α), v = .slice A l.length c ∧ l.length ≤ c ∧ d.C w A l.length l ∧ G l := by
  obtain ⟨a, len, cap, rfl⟩ := okWide_slice hu hv
  obtain ⟨fuel, hf⟩ := h
  obtain ⟨y, ⟨A, c, he, hl, hC⟩, hG⟩ := ho H enc w spare held fuel _ _ hf
  exact ⟨A, c, y, by simpa [Value.cells] using he, hl, hC, hG⟩
end Go.Proofs.Ythoimnockinfbaa.Pr
