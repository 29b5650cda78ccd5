import Derived.Test.YtioglahnliajlaaSchedU
set_option linter.unusedVariables false
set_option linter.unusedSimpArgs false
/-! Schedule's second loop: an edge for each slot. -/
namespace Go.Proofs.Ytioglahnliajlaa.Pr
open Go.RowKit Go.Proofs.YtioglahnliajlaaW.PrintWords Go.Proofs.YtioglahnliajlaaW.PrintLast Go.Proofs.YtioglahnliajlaaW.PrintMore
attribute [local go_sem] Oper.semAt_some

/-- The blocks that one more edge may turn. -/
def EdgeBlk (W : World) (b10 k : Nat) : Prop := k = b10 ∨ ∃ cells, W.heap[k]? = some (.cells cells 49 (0, 0))

/-- Schedule's variables while the graph grows. -/
structure LM (w0 W : World) (b2 b5 b7 b8 b10 b11 : Nat) (A0 : Option Addr) (J c0 : Nat) (nodes : Int) (es : List S49) : Prop where
  m2 : W.heap[b2]? = some (.cells #[.slice A0 J c0] 22 (0, 0))
  m5 : W.heap[b5]? = some (.cells #[.slice none 0 0, .slice none 0 0] 26 (0, 0))
  m7 : W.heap[b7]? = some (.cells #[.func (.func 22) #[] #[]] 44 (0, 0))
  m8 : W.heap[b8]? = some (.cells #[.func (.func 23) #[] #[.pointer (some ⟨b2, 0, none⟩)]] 44 (0, 0))
  m11 : W.heap[b11]? = some (.cells #[.func (.func 24) #[] #[.pointer (some ⟨b10, 0, none⟩)]] 50 (0, 0))
  m10 : ∃ v, W.heap[b10]? = some (.cells #[.int .i64 nodes, v] 47 (0, 0)) ∧ Kd.R k49 49 W w0.heap.size (fun _ => True) v es
  lo : w0.heap.size ≤ b10
  b : Below w0.heap.size w0 W

section
variable {w0 W W1 : World} {b2 b5 b7 b8 b10 b11 : Nat} {A0 : Option Addr} {J c0 : Nat} {nodes : Int} {es : List S49}
theorem LM.below (h : LM w0 W b2 b5 b7 b8 b10 b11 A0 J c0 nodes es) (hb : Below W.heap.size W W1) : LM w0 W1 b2 b5 b7 b8 b10 b11 A0 J c0 nodes es := by
  obtain ⟨v, h1, h2⟩ := h.m10
  exact ⟨blk_below h.m2 hb, blk_below h.m5 hb, blk_below h.m7 hb, blk_below h.m8 hb, blk_below h.m11 hb, ⟨v, blk_below h1 hb, Kd.R_below h2 hb⟩, h.lo, below_then h.b h.b.size hb⟩

theorem LM.push (h : LM w0 W b2 b5 b7 b8 b10 b11 A0 J c0 nodes es) (x y z : Int) (hl : es.length < 1000000) :
    Calls Try.prog 24 #[.int .i64 x, .int .i64 y, .int .i64 z, .pointer (some ⟨b10, 0, none⟩)] W fun e W' => e = .returned (.tuple #[]) ∧ LM w0 W' b2 b5 b7 b8 b10 b11 A0 J c0 nodes (es ++ [⟨x, y, z⟩]) ∧ Kept W W' (EdgeBlk W b10) ∧ Silent W W' := by
  obtain ⟨v, h1, h2⟩ := h.m10
  refine (s3_calls W b10 w0.heap.size nodes v es x y z h1 h2 h.b.size hl).mono ?_
  rintro e W' ⟨rfl, v', g1, g2, g3, g4⟩
  have hk : Kept W W' (EdgeBlk W b10) := g3.mono (fun k hk => hk.elim .inl (fun hk => .inr (Kd.R_typed h2 k hk.symm)))
  have hb := g4 w0.heap.size h.lo (Nat.le_refl _)
  have keep : ∀ (g : Nat) (cs : Array Value) (t : TypeId), W.heap[g]? = some (.cells cs t (0, 0)) → t ≠ 47 → t ≠ 49 → W'.heap[g]? = some (.cells cs t (0, 0)) := fun g cs t hg ht1 ht2 => blk_kept hg hk (fun hE => by
    rcases hE with rfl | ⟨cells, hc⟩
    · rw [h1] at hg; injection hg with hg; injection hg with _ hg; exact ht1 hg.symm
    · rw [hc] at hg; injection hg with hg; injection hg with _ hg; exact ht2 hg.symm)
  exact ⟨rfl, ⟨keep _ _ _ h.m2 (by decide) (by decide), keep _ _ _ h.m5 (by decide) (by decide), keep _ _ _ h.m7 (by decide) (by decide), keep _ _ _ h.m8 (by decide) (by decide), keep _ _ _ h.m11 (by decide) (by decide), ⟨v', g1, g2⟩, h.lo, h.b.trans hb⟩, hk, ⟨hb.os, hb.tape, hb.output⟩⟩
end

theorem edgeBlk_back {w0 W X : World} {b2 b5 b7 b8 b10 b11 : Nat} {A0 : Option Addr} {J c0 : Nat} {nodes : Int} {es : List S49} (hk : Kept W X (EdgeBlk W b10)) (_ : LM w0 X b2 b5 b7 b8 b10 b11 A0 J c0 nodes es) {k : Nat} (h : EdgeBlk X b10 k) : EdgeBlk W b10 k ∨ W.heap.size ≤ k := by
  rcases Nat.lt_or_ge k W.heap.size with hlt | hge
  · rcases h with h | ⟨cells, hc⟩
    · exact .inl (.inl h)
    · by_cases hE : EdgeBlk W b10 k
      · exact .inl hE
      · refine .inl (.inr ⟨cells, ?_⟩)
        rw [← hk.2 k hlt hE]; exact hc
  · exact .inr hge

def supE (J : Nat) (sink : Int) (sup : List Int) (n : Nat) : List S49 := (List.range n).map (fun s : Nat => (⟨1 + (J : Int) + (s : Int), sink, rd sup (s : Int)⟩ : S49))
theorem supE_succ (J : Nat) (sink : Int) (sup : List Int) (n : Nat) : supE J sink sup (n + 1) = supE J sink sup n ++ [⟨1 + (J : Int) + (n : Int), sink, rd sup (n : Int)⟩] := by simp [supE, List.range_succ]

theorem s2_still (W : World) (b2 : Nat) (A : Option Addr) (c J : Nat) (s : Int) (h0 : 0 ≤ s) (h1 : s ≤ 1000) (hJ : J ≤ 1000) (hb : W.heap[b2]? = some (.cells #[.slice A J c] 22 (0, 0))) :
    Calls Try.prog 23 #[.int .i64 s, .pointer (some ⟨b2, 0, none⟩)] W fun e W' => e = .returned (.int .i64 (1 + (J : Int) + s)) ∧ W' = W := (s2_calls W b2 A c J s h0 h1 hJ hb).mono (fun _ _ h => ⟨h.1, h.2.symm⟩)
theorem s1_still (W : World) (i : Int) (h0 : 0 ≤ i) (h1 : i ≤ 1000) : Calls Try.prog 22 #[.int .i64 i] W fun e W' => e = .returned (.int .i64 (1 + i)) ∧ W' = W := (s1_calls W i h0 h1).mono (fun _ _ h => ⟨h.1, h.2.symm⟩)

set_option maxRecDepth 1000000 in
set_option maxHeartbeats 4000000 in
theorem sched_sup (w0 W : World) (b2 b5 b7 b8 b10 b11 : Nat) (A0 A1 : Option Addr) (J c0 c1 : Nat) (nodes sink wanted : Int) (es : List S49) (sup : List Int) (ds : List Deferred)
    (hM : LM w0 W b2 b5 b7 b8 b10 b11 A0 J c0 nodes es) (hC : Kd.C (Kd.int .i64) w0 A1 sup.length sup) (hJ : J ≤ 1000) (hS : sup.length ≤ 1000) (hle : es.length ≤ 1000)
    (Q : Exit → Act → World → Prop) (z0 z3 z4 z6 z13 z14 z15 z16 z17 z18 z19 z20 z21 z22 z23 z24 z25 z26 z27 z28 z29 z30 z31 z32 z33 z34 z35 z36 z37 z38 z39 z40 z41 z42 z43 z44 z45 z46 z47 z48 z49 z50 z51 z52 z53 z54 z55 z56 z57 z58 z59 z60 z61 z62 z63 z64 z65 z66 z67 z68 z69 z70 z71 z72 z73 z74 z75 z76 z77 z78 z79 z80 z81 z82 z83 z84 z85 z86 z87 z88 z89 z90 z91 z92 z93 z94 z95 z96 z97 z98 z99 z100 z101 z102 z103 z104 z105 z106 z107 z108 z109 z110 z111 z112 z113 z114 z115 z116 z117 z118 z119 z120 z121 z122 z123 z124 z125 z126 z127 z128 z129 z130 z131 z132 z133 z134 z135 z136 z137 z138 z139 z140 z141 z142 z143 z144 z145 z146 z147 z148 z149 z150 z151 z152 z153 z154 z155 z156 z157 z158 z159 z160 z161 z162 z163 z164 z165 z166 z167 : Value)
    (hQ : ∀ (y0 y3 y4 y6 y13 y14 y15 y16 y17 y18 y19 y20 y21 y22 y23 y24 y25 y26 y27 y28 y29 y30 y31 y32 y33 y34 y35 y36 y37 y38 y39 y40 y41 y42 y43 y44 y45 y46 y47 y48 y49 y50 y51 y52 y53 y54 y55 y56 y57 y58 y59 y60 y61 y62 y63 y64 y65 y66 y67 y68 y69 y70 y71 y72 y73 y74 y75 y76 y77 y78 y79 y80 y81 y82 y83 y84 y85 y86 y87 y88 y89 y90 y91 y92 y93 y94 y95 y96 y97 y98 y99 y100 y101 y102 y103 y104 y105 y106 y107 y108 y109 y110 y111 y112 y113 y114 y115 y116 y117 y118 y119 y120 y121 y122 y123 y124 y125 y126 y127 y128 y129 y130 y131 y132 y133 y134 y135 y136 y137 y138 y139 y140 y141 y142 y143 y144 y145 y146 y147 y148 y149 y150 y151 y152 y153 y154 y155 y156 y157 y158 y159 y160 y161 y162 y163 y164 y165 y166 y167 : Value) (W' : World), LM w0 W' b2 b5 b7 b8 b10 b11 A0 J c0 nodes (es ++ supE J sink sup sup.length) → Kept W W' (EdgeBlk W b10) → Code.wp Try.prog sched23 Q ⟨#[y0, (.slice A1 sup.length c1), (.pointer (some ⟨b2, 0, none⟩)), y3, y4, (.pointer (some ⟨b5, 0, none⟩)), y6, (.pointer (some ⟨b7, 0, none⟩)), (.pointer (some ⟨b8, 0, none⟩)), (.int .i64 sink), (.pointer (some ⟨b10, 0, none⟩)), (.pointer (some ⟨b11, 0, none⟩)), (.int .i64 wanted), y13, y14, y15, y16, y17, y18, y19, y20, y21, y22, y23, y24, y25, y26, y27, y28, y29, y30, y31, y32, y33, y34, y35, y36, y37, y38, y39, y40, y41, y42, y43, y44, y45, y46, y47, y48, y49, y50, y51, y52, y53, y54, y55, y56, y57, y58, y59, y60, y61, y62, y63, y64, y65, y66, y67, y68, y69, y70, y71, y72, y73, y74, y75, y76, y77, y78, y79, y80, y81, y82, y83, y84, y85, y86, y87, y88, y89, y90, y91, y92, y93, y94, y95, y96, y97, y98, y99, y100, y101, y102, y103, y104, y105, y106, y107, y108, y109, y110, y111, y112, y113, y114, y115, y116, y117, y118, y119, y120, y121, y122, y123, y124, y125, y126, y127, y128, y129, y130, y131, y132, y133, y134, y135, y136, y137, y138, y139, y140, y141, y142, y143, y144, y145, y146, y147, y148, y149, y150, y151, y152, y153, y154, y155, y156, y157, y158, y159, y160, y161, y162, y163, y164, y165, y166, y167], ds⟩ W') :
    Code.wp Try.prog sched18 Q ⟨#[z0, (.slice A1 sup.length c1), (.pointer (some ⟨b2, 0, none⟩)), z3, z4, (.pointer (some ⟨b5, 0, none⟩)), z6, (.pointer (some ⟨b7, 0, none⟩)), (.pointer (some ⟨b8, 0, none⟩)), (.int .i64 sink), (.pointer (some ⟨b10, 0, none⟩)), (.pointer (some ⟨b11, 0, none⟩)), (.int .i64 wanted), z13, z14, z15, z16, z17, z18, z19, z20, z21, z22, z23, z24, z25, z26, z27, z28, z29, z30, z31, z32, z33, z34, z35, z36, z37, z38, z39, z40, z41, z42, z43, z44, z45, z46, z47, z48, z49, z50, z51, z52, z53, z54, z55, z56, z57, z58, z59, z60, z61, z62, z63, z64, z65, z66, z67, z68, z69, z70, z71, z72, z73, z74, z75, z76, z77, z78, z79, z80, z81, z82, z83, z84, z85, z86, z87, z88, z89, z90, z91, z92, z93, z94, z95, z96, z97, z98, z99, z100, z101, z102, z103, z104, z105, z106, z107, z108, z109, z110, z111, z112, z113, z114, z115, z116, z117, z118, z119, z120, z121, z122, z123, z124, z125, z126, z127, z128, z129, z130, z131, z132, z133, z134, z135, z136, z137, z138, z139, z140, z141, z142, z143, z144, z145, z146, z147, z148, z149, z150, z151, z152, z153, z154, z155, z156, z157, z158, z159, z160, z161, z162, z163, z164, z165, z166, z167], ds⟩ W := by
  conv => arg 2; whnf
  have hM' := Aside0.mk hM
  have hC' := Aside0.mk hC
  have hQ' := Aside0.mk hQ
  clear hM hC hQ
  refine wp_seq_k (fun K1 hK1 => ?_)
  have hK1' := Aside0.mk hK1
  clear hK1
  go_wp2
  go_loopw [74] (fun t wr => ∃ i : Nat, t = .int .i64 i ∧ i ≤ sup.length ∧ LM w0 wr b2 b5 b7 b8 b10 b11 A0 J c0 nodes (es ++ supE J sink sup i) ∧ Kept W wr (EdgeBlk W b10)) (fun t _ => sup.length - (intOf t).toNat)
  case atStart => exact ⟨0, rfl, by omega, by simpa [supE] using hM'.out, Kept.refl _ _⟩
  case round =>
    obtain ⟨i, rfl, hi, hL, hk⟩ := hrel
    have hL' := Aside0.mk hL
    have hk' := Aside0.mk hk
    clear hk
    by_cases hlt : i < sup.length
    · obtain ⟨ad, hA, ef⟩ := Kd.at_int (Kd.C_below hC'.out hL.b) (i : Int) (by omega) (by omega)
      subst hA
      simp only [Int.toNat_natCast] at ef
      have q8 := blk_cell hL.m8 0
      have q11 := blk_cell hL.m11 0
      simp at q8 q11
      have q8l := blk_lt hL.m8
      have q11l := blk_lt hL.m11
      clear hL
      generalize hxf : rd sup (i : Int) = xf at *
      have hxf' := Aside0.mk hxf
      clear hxf
      go_wp2
      refine tail_wp 6 (by kernel_rfl) (by kernel_rfl) ?_
      simp only [List.take_succ_cons, List.take_zero, List.drop_succ_cons, List.drop_zero]
      repeat still_step
      still_call (s2_still wr.drew b2 A0 c0 J (i : Int) (by omega) (by omega) hJ hL'.out.m2)
      repeat still_step
      refine wpStill_nil ?_
      go_wp2_with fail
      have hLd : LM w0 wr.drew b2 b5 b7 b8 b10 b11 A0 J c0 nodes (es ++ supE J sink sup i) := hL'.out.below (below_drew (Below.refl _ _))
      refine (hLd.push (1 + (J : Int) + (i : Int)) sink xf (by simp [supE]; omega)).mono ?_
      rintro e W4 ⟨rfl, hL4, hk4, hs4⟩
      have hfin := Aside0.mk (And.intro hL4 hk4)
      clear hL4 hk4 hs4 hLd
      go_wp2
      refine ⟨⟨i + 1, rfl, hlt, ?_, ?_⟩, by simp [intOf]; omega⟩
      · rw [supE_succ, hxf'.out, ← List.append_assoc]; exact hfin.out.1
      · exact hk'.out.then_ hfin.out.2 (fun k hk => edgeBlk_back hk'.out hL'.out hk)
    · have hge : i = sup.length := by omega
      subst hge
      clear hlt hL
      go_wp2
      refine hK1'.out _ _ ?_
      exact hQ'.out _ _ _ _ _ _ _ _ _ _ _ _ _ _ _ _ _ _ _ _ _ _ _ _ _ _ _ _ _ _ _ _ _ _ _ _ _ _ _ _ _ _ _ _ _ _ _ _ _ _ _ _ _ _ _ _ _ _ _ _ _ _ _ _ _ _ _ _ _ _ _ _ _ _ _ _ _ _ _ _ _ _ _ _ _ _ _ _ _ _ _ _ _ _ _ _ _ _ _ _ _ _ _ _ _ _ _ _ _ _ _ _ _ _ _ _ _ _ _ _ _ _ _ _ _ _ _ _ _ _ _ _ _ _ _ _ _ _ _ _ _ _ _ _ _ _ _ _ _ _ _ _ _ _ _ _ _ _ _ _ hL'.out hk'.out
end Go.Proofs.Ytioglahnliajlaa.Pr
