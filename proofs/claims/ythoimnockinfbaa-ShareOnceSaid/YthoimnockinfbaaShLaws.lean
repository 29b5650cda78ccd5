import Derived.Test.YthoimnockinfbaaShPlain
set_option linter.unusedVariables false
set_option linter.unusedSimpArgs false
/-! The plain laws of Send, Receive and Acked. -/
namespace Go.Proofs.Ythoimnockinfbaa.Pr
open Go.RowKit Go.Proofs.YthoimnockinfbaaW.PrintWords Go.Proofs.YthoimnockinfbaaW.PrintLast Go.Proofs.YthoimnockinfbaaW.PrintMore

theorem putIn_nil (x : Int) : putIn [] x = [x] := rfl
theorem putIn_cons (y : Int) (l : List Int) (x : Int) : putIn (y :: l) x = if y < x then y :: putIn l x else x :: y :: l := by
  unfold putIn posOf
  by_cases h : y < x
  · simp [List.takeWhile_cons, h]
  · simp [List.takeWhile_cons, h]
theorem mem_putIn {z x : Int} : ∀ {l : List Int}, z ∈ putIn l x ↔ z = x ∨ z ∈ l
  | [] => by simp [putIn_nil]
  | y :: l => by
    rw [putIn_cons]
    by_cases h : y < x
    · rw [if_pos h, List.mem_cons, mem_putIn, List.mem_cons]
      constructor
      · rintro (h | h | h)
        · exact .inr (.inl h)
        · exact .inl h
        · exact .inr (.inr h)
      · rintro (h | h | h)
        · exact .inr (.inl h)
        · exact .inl h
        · exact .inr (.inr h)
    · rw [if_neg h]; simp
theorem putIn_length (x : Int) : ∀ l : List Int, (putIn l x).length = l.length + 1
  | [] => rfl
  | y :: l => by
    rw [putIn_cons]
    by_cases h : y < x
    · rw [if_pos h]; simp [putIn_length x l]
    · rw [if_neg h]; simp
theorem incB_putIn {m x : Int} (hm : x ≤ m) : ∀ {l : List Int} {last : Int}, last < x → ¬ x ∈ l → incB m last l = true → incB m last (putIn l x) = true
  | [], last, h1, _, _ => by rw [putIn_nil, incB_cons]; exact ⟨h1, hm, rfl⟩
  | y :: l, last, h1, hn, h => by
    rw [incB_cons] at h
    have hne : y ≠ x := fun e => hn (by simp [e])
    rw [putIn_cons]
    by_cases hy : y < x
    · rw [if_pos hy, incB_cons]
      exact ⟨h.1, h.2.1, incB_putIn hm hy (fun hx => hn (by simp [hx])) h.2.2⟩
    · rw [if_neg hy, incB_cons, incB_cons]
      exact ⟨h1, hm, by omega, h.2.1, h.2.2⟩
theorem putIn_comm {a b : Int} (hab : a ≠ b) : ∀ l : List Int, putIn (putIn l a) b = putIn (putIn l b) a
  | [] => by
    rw [putIn_nil, putIn_nil, putIn_cons, putIn_cons, putIn_nil, putIn_nil]
    by_cases h : a < b
    · rw [if_pos h, if_neg (by omega)]
    · rw [if_neg h, if_pos (by omega)]
  | y :: l => by
    have ih := putIn_comm hab l
    rw [putIn_cons y l a, putIn_cons y l b]
    by_cases h1 : y < a
    · rw [if_pos h1, putIn_cons]
      by_cases h2 : y < b
      · rw [if_pos h2, if_pos h2, putIn_cons, if_pos h1, ih]
      · rw [if_neg h2, if_neg h2, putIn_cons, if_pos (by omega), putIn_cons, if_pos h1]
    · rw [if_neg h1]
      by_cases h2 : y < b
      · rw [if_pos h2, putIn_cons, if_pos (by omega), putIn_cons, if_pos h2, putIn_cons, if_neg h1]
      · rw [if_neg h2]
        by_cases h3 : a < b
        · rw [putIn_cons, if_pos h3, putIn_cons y l b, if_neg h2, putIn_cons, if_neg (by omega)]
        · rw [putIn_cons, if_neg h3, putIn_cons, if_pos (by omega), putIn_cons, if_neg h1]

theorem recv_iff {h n : Int} {out : List S27} {inn : List Int} {t : S27} : recvE h n out inn t = 0 ↔ shOk h n out inn = true ∧ trOk t ∧ ¬ t.f0 ∈ inn ∧ inn.length < 64 ∧ h + t.f1 ≤ 1000 := by
  constructor
  · intro he
    obtain ⟨h1, h2, h3, h4, h5⟩ := recvE_zero he
    exact ⟨h1, h2, h3, by omega, by omega⟩
  · rintro ⟨h1, h2, h3, h4, h5⟩
    unfold recvE
    rw [if_pos h1, if_pos h2, if_neg h3, if_neg (by omega), if_neg (by omega)]
theorem send_iff {h n : Int} {out : List S27} {inn : List Int} {a : Int} : sendE h n out inn a = 0 ↔ shOk h n out inn = true ∧ (1 ≤ a ∧ a ≤ 1000) ∧ a ≤ h ∧ out.length < 64 ∧ n ≤ 1000000 := by
  constructor
  · intro he
    obtain ⟨h1, h2, h3, h4, h5⟩ := sendE_zero he
    exact ⟨h1, h2, by omega, by omega, by omega⟩
  · rintro ⟨h1, h2, h3, h4, h5⟩
    unfold sendE
    rw [if_pos h1, if_pos h2, if_neg (by omega), if_neg (by omega), if_neg (by omega)]
theorem recv_ok {h n : Int} {out : List S27} {inn : List Int} {t : S27} (he : recvE h n out inn t = 0) : shOk (h + t.f1) n out (putIn inn t.f0) = true := by
  obtain ⟨h1, h2, h3, h4, h5⟩ := recv_iff.1 he
  rw [shOk_iff] at h1 ⊢
  obtain ⟨g1, g2, g3, g4⟩ := h1
  obtain ⟨⟨k1, k2⟩, k3, k4⟩ := h2
  exact ⟨⟨by omega, g1.2⟩, g2, ⟨incB_putIn k2 (by omega) h3 g3.1, by rw [putIn_length]; omega⟩, g4⟩
theorem send_ok {h n : Int} {out : List S27} {inn : List Int} {a : Int} (he : sendE h n out inn a = 0) : shOk (h - a) (n + 1) (out ++ [⟨n, a⟩]) inn = true := by
  obtain ⟨h1, h2, h3, h4, h5⟩ := send_iff.1 he
  rw [shOk_iff] at h1 ⊢
  obtain ⟨g1, g2, g3, g4⟩ := h1
  refine ⟨⟨by omega, by omega⟩, ⟨?_, by simp; omega⟩, g3, fun t ht => ?_⟩
  · rw [List.map_append, List.map_cons, List.map_nil]
    have ha := incB_above g2.1
    exact incB_append (incB_most (by omega) g2.1) (by show 0 < n; omega) (fun y hy => by have := ha y hy; show y < n; omega) (by show n ≤ n + 1 - 1; omega)
  · rcases List.mem_append.1 ht with ht | ht
    · exact g4 t ht
    · obtain rfl : t = ⟨n, a⟩ := by simpa using ht
      exact ⟨⟨g1.2.1, h5⟩, h2⟩
theorem ack_ok {h n : Int} {out : List S27} {inn : List Int} {a : Int} (he : ackE h n out inn a = 0) : shOk h n (out.eraseIdx (idxFrom (isNum a) 0 out).toNat) inn = true := by
  obtain ⟨h1, h2⟩ := ackE_zero he
  rw [erase_filter _ a out 0 (shOk_iff.1 h1).2.1.1 h2]
  exact shOk_filter _ h1
/-- A transfer that was received is refused. -/
theorem recv_twice {h n : Int} {out : List S27} {inn : List Int} {t : S27} (hs : shOk h n out inn = true) (ht : trOk t) (hm : t.f0 ∈ inn) : recvE h n out inn t = 5 := by
  unfold recvE
  rw [if_pos hs, if_pos ht, if_pos hm]
/-- Two transfers, received in the other order. -/
theorem recv_swap {h n : Int} {out : List S27} {inn : List Int} {t u : S27} (h1 : recvE h n out inn t = 0) (h2 : recvE (h + t.f1) n out (putIn inn t.f0) u = 0) :
    recvE h n out inn u = 0 ∧ recvE (h + u.f1) n out (putIn inn u.f0) t = 0 ∧ putIn (putIn inn u.f0) t.f0 = putIn (putIn inn t.f0) u.f0 := by
  obtain ⟨a1, a2, a3, a4, a5⟩ := recv_iff.1 h1
  obtain ⟨b1, b2, b3, b4, b5⟩ := recv_iff.1 h2
  rw [putIn_length] at b4
  rw [mem_putIn] at b3
  have hne : u.f0 ≠ t.f0 := fun e => b3 (.inl e)
  have hn : ¬ u.f0 ∈ inn := fun e => b3 (.inr e)
  have t1 : 1 ≤ t.f1 := a2.2.1
  have u1 : 1 ≤ u.f1 := b2.2.1
  have hu : recvE h n out inn u = 0 := recv_iff.2 ⟨a1, b2, hn, a4, by omega⟩
  refine ⟨hu, recv_iff.2 ⟨recv_ok hu, a2, ?_, by rw [putIn_length]; omega, by omega⟩, putIn_comm hne inn⟩
  rw [mem_putIn]
  rintro (e | e)
  · exact hne e.symm
  · exact a3 e
theorem send_swap {h n : Int} {out : List S27} {inn : List Int} {t : S27} {a : Int} (h1 : recvE h n out inn t = 0) (h2 : sendE h n out inn a = 0) :
    recvE (h - a) (n + 1) (out ++ [⟨n, a⟩]) inn t = 0 ∧ sendE (h + t.f1) n out (putIn inn t.f0) a = 0 := by
  obtain ⟨a1, a2, a3, a4, a5⟩ := recv_iff.1 h1
  obtain ⟨b1, b2, b3, b4, b5⟩ := send_iff.1 h2
  have t1 : 1 ≤ t.f1 := a2.2.1
  exact ⟨recv_iff.2 ⟨send_ok h2, a2, a3, a4, by omega⟩, send_iff.2 ⟨recv_ok h1, b2, by omega, b4, b5⟩⟩
theorem shOk_small {h n : Int} {out : List S27} {inn : List Int} (hs : shOk h n out inn = true) : out.length ≤ 64 ∧ inn.length ≤ 64 := by
  rw [shOk_iff] at hs
  exact ⟨hs.2.1.2, hs.2.2.1.2⟩
end Go.Proofs.Ythoimnockinfbaa.Pr
