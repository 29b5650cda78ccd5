-- Written by a program of this session.
import Derived.Test.YthoimnockinfbaaPr0
import Derived.Test.YthoimnockinfbaaOpens
import Derived.KernelRfl
namespace Go.Proofs.Ythoimnockinfbaa.Pr
open Go.RowKit Go.Proofs.YthoimnockinfbaaW.PrintWords Go.Proofs.YthoimnockinfbaaW.PrintLast Go.Proofs.YthoimnockinfbaaW.PrintMore
instance : Inhabited S27 := ⟨z27⟩
def good27 (x : S27) : Prop := Int64 .i64 x.f0 ∧ Int64 .i64 x.f1
theorem opens_T27 : Opens Try.prog 27 k27 good27 := opens_iso (fun x : S27 => (x.f0, x.f1)) (fun y => ⟨y.1, y.2⟩) (fun _ => rfl) (opens_struct (fs := _) Try.underlying27 (by kernel_rfl) (opensF_cons (d := (Kd.int .i64)) rfl (by kernel_rfl) (opens_int Try.underlying3) (opensF_one rfl (by kernel_rfl) (opens_int Try.underlying3))))
instance : Inhabited S25 := ⟨z25⟩
def good25 (x : S25) : Prop := Int64 .i64 x.f0 ∧ Int64 .i64 x.f1 ∧ (x.f2.length ≤ maxLen ∧ ∀ y ∈ x.f2, good27 y) ∧ (x.f3.length ≤ maxLen ∧ ∀ y ∈ x.f3, Int64 .i64 y)
theorem opens_T25 : Opens Try.prog 25 k25 good25 := opens_iso (fun x : S25 => (x.f0, x.f1, x.f2, x.f3)) (fun y => ⟨y.1, y.2.1, y.2.2.1, y.2.2.2⟩) (fun _ => rfl) (opens_struct (fs := _) Try.underlying25 (by kernel_rfl) (opensF_cons (d := (Kd.int .i64)) rfl (by kernel_rfl) (opens_int Try.underlying3) (opensF_cons (d := (Kd.int .i64)) rfl (by kernel_rfl) (opens_int Try.underlying3) (opensF_cons (d := (Kd.slice 27 k27)) rfl (by kernel_rfl) (opens_slice (e' := 27) (d := k27) Try.underlying22 (by kernel_rfl) opens_T27) (opensF_one rfl (by kernel_rfl) (opens_slice (e' := 3) (d := (Kd.int .i64)) Try.underlying23 (by kernel_rfl) (opens_int Try.underlying3)))))))
end Go.Proofs.Ythoimnockinfbaa.Pr
