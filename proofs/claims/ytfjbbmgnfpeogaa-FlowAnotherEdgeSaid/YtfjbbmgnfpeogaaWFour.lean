-- Out of the print's words; what no text of this claim reaches is cut by a program of this session.
import Derived.Test.YtfjbbmgnfpeogaaWTab
namespace Go.Proofs.YtfjbbmgnfpeogaaW.PrintLast
section
variable {P : Program} {ops : Array Oper} {Q : Exit → Act → World → Prop} {md : Region.Mode} {S : World → Prop} {ds : List Nat} {T : Bool × List (List Nat × List Nat)}
end
end Go.Proofs.YtfjbbmgnfpeogaaW.PrintLast
