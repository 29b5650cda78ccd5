-- Out of the print's words; what no text of this claim reaches is cut by a program of this session.
import Derived.Test.YtfjbbmgnfpeogaaWTab
namespace Go.Proofs.YtfjbbmgnfpeogaaW.PrintLast
section
variable {P : Program} {ops : Array Oper} {Q : Exit → Act → World → Prop} {md : Region.Mode} {T : Bool × List (List Nat × List Nat)} {B : List Nat} {O : List Nat} {b : Nat → Bool} {i j n : Nat}
def Closed (T : List (List Nat × List Nat)) (O : List Nat) (b : Nat → Bool) : Prop := ∀ d r, T[d]? = some r → O.contains d = true → b d = true → ∀ n ∈ r.1, O.contains n = true → b n = true
end
end Go.Proofs.YtfjbbmgnfpeogaaW.PrintLast
