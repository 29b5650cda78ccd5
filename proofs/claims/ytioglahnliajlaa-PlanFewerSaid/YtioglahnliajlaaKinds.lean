-- Written by a program of this session.
import Derived.Test.YtioglahnliajlaaPr0
import Derived.Test.YtioglahnliajlaaOpens
import Derived.KernelRfl
namespace Go.Proofs.Ytioglahnliajlaa.Pr
open Go.RowKit Go.Proofs.YtioglahnliajlaaW.PrintWords Go.Proofs.YtioglahnliajlaaW.PrintLast Go.Proofs.YtioglahnliajlaaW.PrintMore
instance : Inhabited S38 := ⟨z38⟩
def good38 (x : S38) : Prop := Int64 .i64 x.f0 ∧ Int64 .i64 x.f1 ∧ Int64 .i64 x.f2 ∧ Int64 .i64 x.f3 ∧ Int64 .i64 x.f4
theorem opens_T38 : Opens Try.prog 38 k38 good38 := opens_iso (fun x : S38 => (x.f0, x.f1, x.f2, x.f3, x.f4)) (fun y => ⟨y.1, y.2.1, y.2.2.1, y.2.2.2.1, y.2.2.2.2⟩) (fun _ => rfl) (opens_struct (fs := _) Try.underlying38 (by kernel_rfl) (opensF_cons (d := (Kd.int .i64)) rfl (by kernel_rfl) (opens_int Try.underlying3) (opensF_cons (d := (Kd.int .i64)) rfl (by kernel_rfl) (opens_int Try.underlying3) (opensF_cons (d := (Kd.int .i64)) rfl (by kernel_rfl) (opens_int Try.underlying3) (opensF_cons (d := (Kd.int .i64)) rfl (by kernel_rfl) (opens_int Try.underlying3) (opensF_one rfl (by kernel_rfl) (opens_int Try.underlying3)))))))
instance : Inhabited S26 := ⟨z26⟩
def good26 (x : S26) : Prop := (x.f0.length ≤ maxLen ∧ ∀ y ∈ x.f0, Int64 .i64 y) ∧ (x.f1.length ≤ maxLen ∧ ∀ y ∈ x.f1, Int64 .i64 y)
theorem opens_T26 : Opens Try.prog 26 k26 good26 := opens_iso (fun x : S26 => (x.f0, x.f1)) (fun y => ⟨y.1, y.2⟩) (fun _ => rfl) (opens_struct (fs := _) Try.underlying26 (by kernel_rfl) (opensF_cons (d := (Kd.slice 3 (Kd.int .i64))) rfl (by kernel_rfl) (opens_slice (e' := 3) (d := (Kd.int .i64)) Try.underlying23 (by kernel_rfl) (opens_int Try.underlying3)) (opensF_one rfl (by kernel_rfl) (opens_slice (e' := 3) (d := (Kd.int .i64)) Try.underlying23 (by kernel_rfl) (opens_int Try.underlying3)))))
end Go.Proofs.Ytioglahnliajlaa.Pr
