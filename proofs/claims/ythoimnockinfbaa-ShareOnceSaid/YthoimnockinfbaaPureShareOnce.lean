/- ShareOnce holds for every input: its walk says so already. -/
import Derived.Test.YthoimnockinfbaaPh5
import Derived.Test.YthoimnockinfbaaKinds
set_option linter.unusedVariables false
set_option linter.unusedSimpArgs false
namespace Go.Proofs.Ythoimnockinfbaa.Pure
open Go.RowKit Go.Proofs.Ythoimnockinfbaa.Pr Go.Proofs.YthoimnockinfbaaW.PrintWords Go.Proofs.YthoimnockinfbaaW.PrintLast Go.Proofs.YthoimnockinfbaaW.PrintMore
theorem ShareOnce (y0 : S25) (y1 : S27) (a2 : Int) (a3 : Int) (y4 : S27) : good25 y0 → good27 y1 → Int64 .i64 a2 → Int64 .i64 a3 → good27 y4 → ∃ _ : Nat, Ythoimnockinfbaa.Pr.chargeparklaw20_ShareOnce.f (y0.f0) (y0.f1) (y0.f2) (y0.f3) (y1.f0) (y1.f1) (a2) (a3) (y4.f0) (y4.f1) = some true := by
  intros; exact ⟨0, rfl⟩
end Go.Proofs.Ythoimnockinfbaa.Pure
