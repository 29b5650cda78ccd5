import Derived.Test.YtfjbbmgnfpeogaaPr4
import Derived.Test.YtfjbbmgnfpeogaaFlowCheck
/-! The head of the laws; Good in the code's words. -/
namespace Go.Proofs.Ytfjbbmgnfpeogaa.Pr
open Go.RowKit Go.Proofs.YtfjbbmgnfpeogaaW.PrintWords Go.Proofs.YtfjbbmgnfpeogaaW.PrintLast Go.Proofs.YtfjbbmgnfpeogaaW.PrintMore
open Go.Proofs.Ytfjbbmgnfpeogaa.FlowTheory

theorem head_1000 : chargeparklaw21_head.f 1000 = some true := by decide +kernel
theorem head_f (k : Nat) (hk : 1000 ≤ k) : chargeparklaw21_head.f k = some true := at_rounds (fun k => chargeparklaw21_head.mono k) hk head_1000

structure Proves (n : Nat) (l : List S39) (s t a : Int) (fl : List Int) (S : List Bool) : Prop where
  flow : flowOk n l s t fl
  cut : cutOk n s t S
  amount : tnet l fl l.length s = a
  cap : tcap l S l.length = a

theorem most_proves {n : Int} {l : List S39} {s t : Int} (h : endsOk n l s t) : ∃ a f S, flow_Most.f n l s t = some (a, f, S, 0) ∧ Proves n.toNat l s t a f S ∧ FlowM.Good n.toNat (esOf l) s t a f S := by
  obtain ⟨a, f, S, e, g⟩ := most_good h
  have hlen : (esOf l).length = l.length := by simp [esOf]
  refine ⟨a, f, S, e, ⟨flow_of.2 ⟨by rw [g.flen, hlen], g.flow⟩, ⟨g.slen, g.cut.src, g.cut.snk⟩, ?_, ?_⟩, g⟩
  · have := g.amount; rwa [hlen] at this
  · have := g.cap; rwa [hlen] at this

theorem flowOk_cells {n : Nat} {l : List S39} {s t : Int} {fl : List Int} (hf : flowOk n l s t fl) (hg : ∀ e ∈ l, e.f2 ≤ 1000000) : ∀ i : Nat, i < l.length → 0 ≤ rd fl (i : Int) ∧ rd fl (i : Int) ≤ 1000000 := by
  intro i hi
  have h1 := hf.2.1 i (by omega) hi
  have h2 := hg _ (rd_mem l i hi)
  omega
end Go.Proofs.Ytfjbbmgnfpeogaa.Pr
