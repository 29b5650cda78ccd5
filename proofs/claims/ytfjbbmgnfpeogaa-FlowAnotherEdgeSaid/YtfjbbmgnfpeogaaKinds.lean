-- Written by a program of this session.
import Derived.Test.YtfjbbmgnfpeogaaPr0
import Derived.Test.YtfjbbmgnfpeogaaOpens
import Derived.KernelRfl
namespace Go.Proofs.Ytfjbbmgnfpeogaa.Pr
open Go.RowKit Go.Proofs.YtfjbbmgnfpeogaaW.PrintWords Go.Proofs.YtfjbbmgnfpeogaaW.PrintLast Go.Proofs.YtfjbbmgnfpeogaaW.PrintMore
instance : Inhabited S39 := ⟨z39⟩
def good39 (x : S39) : Prop := Int64 .i64 x.f0 ∧ Int64 .i64 x.f1 ∧ Int64 .i64 x.f2
theorem opens_T39 : Opens Try.prog 39 k39 good39 := opens_iso (fun x : S39 => (x.f0, x.f1, x.f2)) (fun y => ⟨y.1, y.2.1, y.2.2⟩) (fun _ => rfl) (opens_struct (fs := _) Try.underlying39 (by kernel_rfl) (opensF_cons (d := (Kd.int .i64)) rfl (by kernel_rfl) (opens_int Try.underlying3) (opensF_cons (d := (Kd.int .i64)) rfl (by kernel_rfl) (opens_int Try.underlying3) (opensF_one rfl (by kernel_rfl) (opens_int Try.underlying3)))))
instance : Inhabited S24 := ⟨z24⟩
def good24 (x : S24) : Prop := Int64 .i64 x.f0 ∧ (x.f1.length ≤ maxLen ∧ ∀ y ∈ x.f1, good39 y)
theorem opens_T24 : Opens Try.prog 24 k24 good24 := opens_iso (fun x : S24 => (x.f0, x.f1)) (fun y => ⟨y.1, y.2⟩) (fun _ => rfl) (opens_struct (fs := _) Try.underlying24 (by kernel_rfl) (opensF_cons (d := (Kd.int .i64)) rfl (by kernel_rfl) (opens_int Try.underlying3) (opensF_one rfl (by kernel_rfl) (opens_slice (e' := 39) (d := k39) Try.underlying22 (by kernel_rfl) opens_T39))))
end Go.Proofs.Ytfjbbmgnfpeogaa.Pr
