-- Out of the print's words; what no text of this claim reaches is cut by a program of this session.
import Derived.Test.YtfjbbmgnfpeogaaWInv
import Derived.Test.YtfjbbmgnfpeogaaWFootNe
namespace Go.Proofs.YtfjbbmgnfpeogaaW.PrintWords
open Go.RowKit
end Go.Proofs.YtfjbbmgnfpeogaaW.PrintWords
namespace Go.Proofs.YtfjbbmgnfpeogaaW.PrintLast
section
variable {ops : Array Oper} {a : Act} {o og : Oper} {g : Nat} {t : Tmp} {u : Bool}
end
end Go.Proofs.YtfjbbmgnfpeogaaW.PrintLast
