/- An acknowledgement changes nothing but Out, from which exactly one transfer is missing, for every valid share with short lists and every number. -/
import Derived.Test.YthoimnockinfbaaPr6
import Derived.Test.YthoimnockinfbaaKinds
import Derived.Test.YthoimnockinfbaaShPlain
import Derived.Test.YthoimnockinfbaaShRef
set_option linter.unusedVariables false
set_option linter.unusedSimpArgs false
namespace Go.Proofs.Ythoimnockinfbaa.Pure
open Go.RowKit Go.Proofs.Ythoimnockinfbaa.Pr Go.Proofs.YthoimnockinfbaaW.PrintWords Go.Proofs.YthoimnockinfbaaW.PrintLast Go.Proofs.YthoimnockinfbaaW.PrintMore

theorem acked_l0 (n : Int) (e : Int) (out : List S27) (h0 h1 : Int) (inn : List Int) (b0 b1 : Int) (b2 : List S27) (b3 : List Int) (ho : out.length ≤ 1000) : ∀ (d i k : Nat) (acc : List S27), i + d = out.length → acc.length ≤ i →
    chargeparklaw20_ShareAcked.l0 (k + d + 1) n true e acc out (out.length : Int) (i : Int) h0 h1 out inn b0 b1 b2 b3 =
      chargeparklaw20_ShareAcked.l0 (k + 1) n true e (acc ++ (out.drop i).filter (fun t => !isNum n t)) out (out.length : Int) (out.length : Int) h0 h1 out inn b0 b1 b2 b3 := by
  intro d
  induction d with
  | zero =>
    intro i k acc hi _
    rw [List.drop_of_length_le (by omega)]
    have : i = out.length := by omega
    subst this
    simp
  | succ d ih =>
    intro i k acc hi ha
    rw [show k + (d + 1) + 1 = (k + d + 1) + 1 by omega]
    conv => lhs; rw [chargeparklaw20_ShareAcked.l0]
    rw [if_pos (by omega), if_pos (by omega), if_pos (by omega), rd_dropT out i (by omega), w_up i (by omega)]
    by_cases hn : (rd_T27 out (i : Int)).f0 = n
    · rw [if_pos hn, ih (i + 1) k acc (by omega) (by omega), List.filter_cons_of_neg (by simp [isNum, hn])]
    · rw [if_neg hn, if_pos (by omega), ih (i + 1) k _ (by omega) (by simp; omega), List.filter_cons_of_pos (by simp [isNum, hn]), List.append_assoc]
      rfl

theorem ShareAcked (y0 : S25) (a1 : Int) : good25 y0 → Int64 .i64 a1 → ∃ k, Ythoimnockinfbaa.Pr.chargeparklaw20_ShareAcked.f k (y0.f0) (y0.f1) (y0.f2) (y0.f3) (a1) = some true := by
  intro _ _
  obtain ⟨h, n, out, inn⟩ := y0
  refine ⟨600 + out.length, ?_⟩
  unfold chargeparklaw20_ShareAcked.f chargeparklaw20_head.f
  simp only [Option.bind_some]
  rw [few_f]
  simp only [Option.bind_some]
  by_cases hf : out.length ≤ 80 ∧ inn.length ≤ 80
  rotate_left
  · rw [if_neg (by simpa using hf)]
    rw [show 600 + out.length = (599 + out.length) + 1 by omega]
    simp only [chargeparklaw20_ShareAcked.j0, if_true]
  rw [if_pos (by simpa using hf), rValid_f h n out inn hf.1 hf.2 _ (by omega)]
  simp only [Option.bind_some]
  rw [show 600 + out.length = (599 + out.length) + 1 by omega]
  simp only [chargeparklaw20_ShareAcked.j0]
  by_cases hv : shOk h n out inn = true
  rotate_left
  · rw [if_pos (by simpa using hv)]
  rw [if_neg (by simpa using hv), acked_says a1 hv]
  simp only [Option.bind_some]
  have hl : ∀ e b0 b1 b2 b3, chargeparklaw20_ShareAcked.l0 (598 + out.length + 1) a1 true e [] out (out.length : Int) 0 h n out inn b0 b1 b2 b3 = chargeparklaw20_ShareAcked.l0 (598 + 1) a1 true e ([] ++ (out.drop 0).filter (fun t => !isNum a1 t)) out (out.length : Int) (out.length : Int) h n out inn b0 b1 b2 b3 :=
    fun e b0 b1 b2 b3 => acked_l0 a1 e out h n inn b0 b1 b2 b3 (by omega) out.length 0 598 [] (by omega) (by simp)
  have e0 : 599 + out.length = 598 + out.length + 1 := by omega
  rw [e0, hl]
  simp only [List.nil_append, List.drop_zero]
  rw [chargeparklaw20_ShareAcked.l0, if_neg (by omega)]
  by_cases hn : ∀ t ∈ out, isNum a1 t = false
  · have hfl : (out.filter (fun t => !isNum a1 t)).length = out.length := (filter_all _ _).2 (fun t ht => by simp [hn t ht])
    rw [if_pos hn, if_pos (by rw [hfl]), if_pos rfl, if_pos rfl]
    simp only
    rw [show chargeparkref20_Same.f 598 0 0 [] [] 0 0 [] [] = some true from rSame_f 0 0 [] [] (by simp) (by simp) 598 (by simp)]
    rfl
  · have hfl : ¬ ((out.filter (fun t => !isNum a1 t)).length : Int) = (out.length : Int) := fun hh => hn (fun t ht => by
      have := (filter_all (fun t => !isNum a1 t) out).1 (by omega) t ht
      simpa using this)
    have hle := List.length_filter_le (fun t => !isNum a1 t) out
    rw [if_neg hn, if_neg hfl, if_pos rfl, if_pos rfl]
    simp only [share_Valid.f]
    rw [shOk_filter _ hv]
    simp only [Option.bind_some, if_true]
    rw [rSame_f h n _ inn (by omega) (by omega) 598 (by omega)]
    rfl
end Go.Proofs.Ythoimnockinfbaa.Pure
