-- Out of the print's words; what no text of this claim reaches is cut by a program of this session.
import Derived.Test.YtfjbbmgnfpeogaaWWords
import Derived.Laws.StructEq
namespace Go.Proofs.YtfjbbmgnfpeogaaW.PrintWords
open Go.RowKit
section
variable {P : Program} {d : Nat} {xs ys : Array Value} {f : Field} {fs : List Field} {a b : Value} {r s : Bool} {w : World}
end
end Go.Proofs.YtfjbbmgnfpeogaaW.PrintWords
