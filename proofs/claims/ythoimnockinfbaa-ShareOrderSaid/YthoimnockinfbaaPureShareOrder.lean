/- ShareOrder holds for every input: its walk says so already. -/
import Derived.Test.YthoimnockinfbaaPh6
import Derived.Test.YthoimnockinfbaaKinds
set_option linter.unusedVariables false
set_option linter.unusedSimpArgs false
namespace Go.Proofs.Ythoimnockinfbaa.Pure
open Go.RowKit Go.Proofs.Ythoimnockinfbaa.Pr Go.Proofs.YthoimnockinfbaaW.PrintWords Go.Proofs.YthoimnockinfbaaW.PrintLast Go.Proofs.YthoimnockinfbaaW.PrintMore
theorem ShareOrder (y0 : S25) (y1 : S27) (y2 : S27) (a3 : Int) : good25 y0 → good27 y1 → good27 y2 → Int64 .u8 a3 → ∃ _ : Nat, Ythoimnockinfbaa.Pr.chargeparklaw20_ShareOrder.f (y0.f0) (y0.f1) (y0.f2) (y0.f3) (y1.f0) (y1.f1) (y2.f0) (y2.f1) (a3) = some true := by
  intros; exact ⟨0, rfl⟩
end Go.Proofs.Ythoimnockinfbaa.Pure
