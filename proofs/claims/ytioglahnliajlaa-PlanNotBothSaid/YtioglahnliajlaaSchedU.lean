import Derived.Test.YtioglahnliajlaaSchedT
import Derived.Test.YtioglahnliajlaaMost
set_option linter.unusedVariables false
set_option linter.unusedSimpArgs false
/-! Schedule, from Most on. -/
namespace Go.Proofs.Ytioglahnliajlaa.Pr
open Go.RowKit Go.Proofs.YtioglahnliajlaaW.PrintWords Go.Proofs.YtioglahnliajlaaW.PrintLast Go.Proofs.YtioglahnliajlaaW.PrintMore
attribute [local go_sem] Oper.semAt_some

theorem frozen_below {w w1 : World} {a : Addr} {v : Value} (hb : Below w.heap.size w w1) (hc : w.cell? a = some v) : w1.frozen? a = w.frozen? a := by
  simp [World.frozen?, hb.block a.block (World.block_lt_of_cell? w a hc)]

theorem cut3 (t e : TypeId) (ht : Try.prog.underlying t = some (.slice e)) {z : Value} {bytes : Nat} (hi : (Try.prog.info? e).map (fun i => (i.zero, i.size, i.bytes)) = some (some z, 1, bytes)) (ad : Addr) (n c lo hi' : Nat) (h1 : lo ≤ hi') (h2 : hi' ≤ n) (hc : n ≤ c) :
    ∃ A', (∀ W : World, (Instr.slice t (.slice (some ad) n c) (some (.int .i64 (lo : Int))) (some (.int .i64 (hi' : Int))) (some (.int .i64 (hi' : Int)))).run Try.prog W = .ok (.slice A' (hi' - lo) (hi' - lo)) W) ∧
      ∀ (w : World) (xs : List Bool), xs.length = n → Kd.bool.C w (some ad) xs.length xs → Kd.bool.C w A' ((xs.take hi').drop lo).length ((xs.take hi').drop lo) := by
  obtain ⟨i, hi1, hi2⟩ := Option.map_eq_some_iff.1 hi
  simp only [Prod.mk.injEq] at hi2
  refine ⟨if hi' = lo then some ad else (some ad).map (·.add (lo * 1)), fun W => ?_, fun w xs hx hC => ?_⟩
  · have hel : Try.prog.elem t = e := by simp [Program.elem, ht]
    have hu : Try.prog.underlying t = some (.slice (Try.prog.elem t)) := by rw [hel]; exact ht
    rw [run_slice_lhm W t (some ad) n c hu .i64 .i64 .i64 (lo : Int) (hi' : Int) (hi' : Int) (by omega) (by omega) (Int.le_refl _) (by omega), hel]
    simp [sizeOf, typeInfo, hi1, hi2.2.1, sliced, Result.andThen]
  · by_cases c : hi' = lo
    · subst c
      have h0 : ((xs.take hi').drop hi') = [] := by
        apply List.drop_eq_nil_of_le; simp; omega
      rw [h0]
      exact ⟨rfl, by simp, fun h => absurd h (Nat.lt_irrefl 0)⟩
    · have := Kd.C_mid (c := n + lo + 1) hC h1 (by omega) (by omega)
      rw [if_neg (by omega)] at this
      rw [if_neg c]
      exact this

def placesFrom : Nat → List Bool → List Int
  | _, [] => []
  | i, b :: l => if b = true then (i : Int) :: placesFrom (i + 1) l else placesFrom (i + 1) l
theorem inside_l0 (l : List Bool) (hl : l.length ≤ 1000) : ∀ (d i k : Nat) (acc : List Int), i + d = l.length → d + 1 ≤ k → acc.length ≤ i → plan_inside.l0 k acc l (l.length : Int) (i : Int) = some (acc ++ placesFrom i (l.drop i)) := by
  intro d
  induction d with
  | zero =>
    intro i k acc hi hk _
    obtain ⟨k, rfl⟩ : ∃ m, k = m + 1 := ⟨k - 1, by omega⟩
    simp only [plan_inside.l0]
    rw [if_neg (by omega), List.drop_of_length_le (by omega)]
    simp [placesFrom]
  | succ d ih =>
    intro i k acc hi hk ha
    obtain ⟨k, rfl⟩ : ∃ m, k = m + 1 := ⟨k - 1, by omega⟩
    have hlt : i < l.length := by omega
    simp only [plan_inside.l0]
    rw [if_pos (by omega), if_pos (by omega), if_pos (by omega)]
    have hw : wrap64 ((i : Int) + 1) = ((i + 1 : Nat) : Int) := by unfold wrap64; omega
    have hr : rdOf false l (i : Int) = l[i] := by simp [rdOf, List.getD_eq_getElem?_getD, hlt]
    rw [hw, hr, List.drop_eq_getElem_cons hlt]
    simp only [placesFrom]
    cases hb : l[i] with
    | true =>
      rw [if_pos rfl, if_pos (by omega), if_pos rfl, ih (i + 1) k _ (by omega) (by omega) (by simp; omega)]
      simp
    | false =>
      rw [if_neg (by decide), if_neg (by decide), ih (i + 1) k _ (by omega) (by omega) (by omega)]
theorem plan_inside_some (l : List Bool) (hl : l.length ≤ 1000) : plan_inside.f 1001 l = some (placesFrom 0 l) := by
  have := inside_l0 l hl l.length 0 1001 [] (by omega) (by omega) (by simp)
  simpa [plan_inside.f] using this

set_option maxRecDepth 1000000 in
set_option maxHeartbeats 4000000 in
theorem sched_most (W : World) (b2 b5 b10 : Nat) (A0 A1 : Option Addr) (J S c0 c1 : Nat) (nodes sink wanted : Int) (Ae : Option Addr) (ce : Nat) (es : List S49) (ds : List Deferred)
    (n : Int) (fl : List Int) (sd : List Bool)
    (m2 : W.heap[b2]? = some (.cells #[.slice A0 J c0] 22 (0, 0))) (m5 : W.heap[b5]? = some (.cells #[.slice none 0 0, .slice none 0 0] 26 (0, 0)))
    (m10 : W.heap[b10]? = some (.cells #[.int .i64 nodes, .slice Ae es.length ce] 47 (0, 0))) (he : Kd.C k49 W Ae es.length es) (hce : es.length ≤ ce)
    (hJ : J ≤ 1000) (hS : S ≤ 1000) (hl : fl.length = es.length) (hle : es.length ≤ 1000000) (hsd : sd.length = J + S + 2) (hsink : sink = 1 + (J : Int) + (S : Int))
    (hes : ∀ i : Nat, i < es.length → (rd_T49 es (i : Int)).f0 ≠ 0 → (rd_T49 es (i : Int)).f1 ≠ sink → 1 ≤ (rd_T49 es (i : Int)).f0 ∧ (rd_T49 es (i : Int)).f0 ≤ J ∧ 1 + (J : Int) ≤ (rd_T49 es (i : Int)).f1 ∧ (rd_T49 es (i : Int)).f1 ≤ J + S)
    (hmost : flow_Most.f nodes es 0 sink = some (n, fl, sd, 0))
    (Q : Exit → Act → World → Prop) (z0 z3 z4 z6 z7 z8 z11 z13 z14 z15 z16 z17 z18 z19 z20 z21 z22 z23 z24 z25 z26 z27 z28 z29 z30 z31 z32 z33 z34 z35 z36 z37 z38 z39 z40 z41 z42 z43 z44 z45 z46 z47 z48 z49 z50 z51 z52 z53 z54 z55 z56 z57 z58 z59 z60 z61 z62 z63 z64 z65 z66 z67 z68 z69 z70 z71 z72 z73 z74 z75 z76 z77 z78 z79 z80 z81 z82 z83 z84 z85 z86 z87 z88 z89 z90 z91 z92 z93 z94 z95 z96 z97 z98 z99 z100 z101 z102 z103 z104 z105 z106 z107 z108 z109 z110 z111 z112 z113 z114 z115 z116 z117 z118 z119 z120 z121 z122 z123 z124 z125 z126 z127 z128 z129 z130 z131 z132 z133 z134 z135 z136 z137 z138 z139 z140 z141 z142 z143 z144 z145 z146 z147 z148 z149 z150 z151 z152 z153 z154 z155 z156 z157 z158 z159 z160 z161 z162 z163 z164 z165 z166 z167 : Value)
    (hQ1 : wanted ≤ n → ∀ g a' W', a'.defers = ds → a'.tmps[4]? = some (.slice (some ⟨g, 0, none⟩) J J) → a'.tmps[5]? = some (.pointer (some ⟨b5, 0, none⟩)) → a'.tmps[6]? = some (.int .i64 0) → W.heap.size ≤ g →
      RowsAt W' g J S J (matOf J S sink es fl es.length) → W'.heap[b5]? = some (.cells #[.slice none 0 0, .slice none 0 0] 26 (0, 0)) → Kept W W' (fun k => k = b5) → Silent W W' → Q .ret a' W')
    (hQ2 : n < wanted → ∀ va vb a' W', a'.defers = ds → a'.tmps[4]? = some (.slice none 0 0) → a'.tmps[5]? = some (.pointer (some ⟨b5, 0, none⟩)) → a'.tmps[6]? = some (.int .i64 10) →
      W'.heap[b5]? = some (.cells #[va, vb] 26 (0, 0)) → Kd.R (Kd.int .i64) 3 W' W.heap.size (fun _ => True) va (placesFrom 0 ((sd.take (1 + J)).drop 1)) → Kd.R (Kd.int .i64) 3 W' W.heap.size (fun _ => True) vb (placesFrom 0 ((sd.take (1 + J + S)).drop (1 + J))) → (∀ k, va.ownBlock = some k → some k ≠ vb.ownBlock) →
      Kept W W' (fun k => k = b5) → Silent W W' → Q .ret a' W') :
    Code.wp Try.prog sched23 Q ⟨#[z0, (.slice A1 S c1), (.pointer (some ⟨b2, 0, none⟩)), z3, z4, (.pointer (some ⟨b5, 0, none⟩)), z6, z7, z8, (.int .i64 sink), (.pointer (some ⟨b10, 0, none⟩)), z11, (.int .i64 wanted), z13, z14, z15, z16, z17, z18, z19, z20, z21, z22, z23, z24, z25, z26, z27, z28, z29, z30, z31, z32, z33, z34, z35, z36, z37, z38, z39, z40, z41, z42, z43, z44, z45, z46, z47, z48, z49, z50, z51, z52, z53, z54, z55, z56, z57, z58, z59, z60, z61, z62, z63, z64, z65, z66, z67, z68, z69, z70, z71, z72, z73, z74, z75, z76, z77, z78, z79, z80, z81, z82, z83, z84, z85, z86, z87, z88, z89, z90, z91, z92, z93, z94, z95, z96, z97, z98, z99, z100, z101, z102, z103, z104, z105, z106, z107, z108, z109, z110, z111, z112, z113, z114, z115, z116, z117, z118, z119, z120, z121, z122, z123, z124, z125, z126, z127, z128, z129, z130, z131, z132, z133, z134, z135, z136, z137, z138, z139, z140, z141, z142, z143, z144, z145, z146, z147, z148, z149, z150, z151, z152, z153, z154, z155, z156, z157, z158, z159, z160, z161, z162, z163, z164, z165, z166, z167], ds⟩ W := by
  conv => arg 2; whnf
  have hM' := Aside0.mk (And.intro m2 (And.intro m5 (And.intro m10 he)))
  have hes' := Aside0.mk hes
  have hQ1' := Aside0.mk hQ1
  have hQ2' := Aside0.mk hQ2
  have hmost' := Aside0.mk hmost
  have hsink' := Aside0.mk hsink
  have hsd' := Aside0.mk hsd
  have hl' := Aside0.mk hl
  have g0 := blk_cell m10 0
  have g1 := blk_cell m10 1
  have g2 := blk_lt m10
  simp at g0 g1
  clear m2 m5 m10 he hes hQ1 hQ2 hmost hsink hsd hl
  refine wp_seq_k (fun K1 hK1 => ?_)
  have hK1' := Aside0.mk hK1
  clear hK1
  go_wp2_with fail
  refine (flow_Most.calls nodes Ae ce es 0 sink n fl sd 0 W hM'.out.2.2.2 hce hmost'.out).mono ?_
  rintro e w1 ⟨v1, v2, rfl, hr1, hr2, hb⟩
  obtain ⟨A19, c19, rfl, hc19, hC1⟩ := Kd.R_reads hr1
  obtain ⟨A20, c20, rfl, hc20, hC2⟩ := Kd.R_reads hr2
  have hb' := Aside0.mk hb
  have hC1' := Aside0.mk hC1
  have hC2' := Aside0.mk hC2
  clear hr1 hr2 hb hC1 hC2 g0 g1
  go_wp2
  refine hK1'.out _ _ ?_
  clear hK1'
  refine wp_seq_k (fun K2 hK2 => ?_)
  have hK2' := Aside0.mk hK2
  clear hK2
  by_cases hlt : n < wanted
  · go_upto_region 25 with (fail)
    have hsd2 := hsd'.out
    obtain ⟨ad, hA20, _⟩ := Kd.at_bool hC2'.out 0 (by omega) (by omega)
    subst hA20
    have q2 := blk_cell (blk_below hM'.out.1 hb'.out) 0
    have q3 := blk_cell (blk_below hM'.out.2.1 hb'.out) 0
    have q4 := blk_cell (blk_below hM'.out.2.1 hb'.out) 1
    have q5 := blk_frozen (blk_below hM'.out.2.1 hb'.out) 0
    have q6 := blk_frozen (blk_below hM'.out.2.1 hb'.out) 1
    simp at q2 q3 q4
    have hs1 := hsink'.out
    obtain ⟨T, rfl⟩ : ∃ T : Nat, sink = T := ⟨1 + J + S, by omega⟩
    obtain ⟨B1, c1s, hC1s⟩ := cut3 54 4 Try.underlying54 boolinfo ad sd.length c20 1 (1 + J) (by omega) (by omega) hc20
    obtain ⟨B2, c2s, hC2s⟩ := cut3 54 4 Try.underlying54 boolinfo ad sd.length c20 (1 + J) T (by omega) (by omega) hc20
    have v1 : IntKind.i64.wrap (1 + (J : Int)) = 1 + (J : Int) := w64s (by omega) (by omega)
    have r1 : ∀ W : World, (Instr.slice 54 (.slice (some ad) sd.length c20) (some (.int .i64 1)) (some (.int .i64 (1 + (J : Int)))) (some (.int .i64 (1 + (J : Int))))).run Try.prog W = .ok (.slice B1 J J) W := fun W => by
      have := c1s W
      rw [show 1 + J - 1 = J by omega, show ((1 + J : Nat) : Int) = 1 + (J : Int) by omega] at this
      exact this
    have r2 : ∀ W : World, (Instr.slice 54 (.slice (some ad) sd.length c20) (some (.int .i64 (1 + (J : Int)))) (some (.int .i64 (T : Int))) (some (.int .i64 (T : Int)))).run Try.prog W = .ok (.slice B2 S S) W := fun W => by
      have := c2s W
      rw [show T - (1 + J) = S by omega, show ((1 + J : Nat) : Int) = 1 + (J : Int) by omega] at this
      exact this
    have hC1s' := Aside0.mk hC1s
    have hC2s' := Aside0.mk hC2s
    obtain ⟨p1, hp1⟩ : ∃ p, Aside0 (p = placesFrom 0 ((sd.take (1 + J)).drop 1)) := ⟨_, ⟨rfl⟩⟩
    have hin1 : Aside0 (plan_inside.f 1001 ((sd.take (1 + J)).drop 1) = some p1) := ⟨by rw [hp1.out]; exact plan_inside_some ((sd.take (1 + J)).drop 1) (by simp; omega)⟩
    obtain ⟨p2, hp2⟩ : ∃ p, Aside0 (p = placesFrom 0 ((sd.take T).drop (1 + J))) := ⟨_, ⟨rfl⟩⟩
    have hin2 : Aside0 (plan_inside.f 1001 ((sd.take T).drop (1 + J)) = some p2) := ⟨by rw [hp2.out]; exact plan_inside_some ((sd.take T).drop (1 + J)) (by simp; omega)⟩
    clear hsd2 hs1 c1s c2s hC1s hC2s
    have hbz : Below w1.heap.size w1 w1 := Below.refl _ _
    have hTe' : Aside0 (T = 1 + J + S) := ⟨by have := hsink'.out; omega⟩
    have hsl : sd.length = J + S + 2 := hsd'.out
    have hTe := hsink'.out
    have l1 : ((sd.take (1 + J)).drop 1).length = J := by simp; omega
    have l2 : ((sd.take T).drop (1 + J)).length = S := by simp; omega
    have hne25 : b2 ≠ b5 := blk_ne hM'.out.1 hM'.out.2.1 (by decide)
    obtain ⟨φ0, hφ0⟩ : ∃ φ : World → Value, ∀ W : World, (W.cell? ⟨b5, 0, none⟩).isSome = true → W.cell? ⟨b5, 0, none⟩ = some (φ W) := ⟨fun W => (W.cell? ⟨b5, 0, none⟩).getD undef, fun W h => by
      obtain ⟨x, hx⟩ := Option.isSome_iff_exists.1 h
      simp only [hx, Option.getD_some]⟩
    obtain ⟨φ1, hφ1⟩ : ∃ φ : World → Value, ∀ W : World, (W.cell? ⟨b5, 1, none⟩).isSome = true → W.cell? ⟨b5, 1, none⟩ = some (φ W) := ⟨fun W => (W.cell? ⟨b5, 1, none⟩).getD undef, fun W h => by
      obtain ⟨x, hx⟩ := Option.isSome_iff_exists.1 h
      simp only [hx, Option.getD_some]⟩
    have hS1 : ∀ W' : World, Below w1.heap.size w1 W' → (W'.cell? ⟨b2, 0, none⟩ = some (.slice A0 J c0) ∧ W'.cell? ⟨b5, 0, none⟩ = some (φ0 W') ∧ W'.cell? ⟨b5, 1, none⟩ = some (φ1 W') ∧ W'.frozen? ⟨b5, 0, none⟩ = false ∧ W'.frozen? ⟨b5, 1, none⟩ = false) := fun W' hb => by
      have e3 := pw_cell_below hb q3
      have e4 := pw_cell_below hb q4
      exact ⟨pw_cell_below hb q2, hφ0 _ (by rw [e3]; rfl), hφ1 _ (by rw [e4]; rfl), (frozen_below hb q3).trans q5, (frozen_below hb q4).trans q6⟩
    have hS2 : ∀ (W' : World) (u v : Value), (W'.cell? ⟨b2, 0, none⟩ = some (.slice A0 J c0) ∧ W'.cell? ⟨b5, 0, none⟩ = some (φ0 W') ∧ W'.cell? ⟨b5, 1, none⟩ = some (φ1 W') ∧ W'.frozen? ⟨b5, 0, none⟩ = false ∧ W'.frozen? ⟨b5, 1, none⟩ = false) → (((W'.setCell ⟨b5, 0, none⟩ u).setCell ⟨b5, 1, none⟩ v).cell? ⟨b2, 0, none⟩ = some (.slice A0 J c0) ∧ ((W'.setCell ⟨b5, 0, none⟩ u).setCell ⟨b5, 1, none⟩ v).cell? ⟨b5, 0, none⟩ = some (φ0 ((W'.setCell ⟨b5, 0, none⟩ u).setCell ⟨b5, 1, none⟩ v)) ∧ ((W'.setCell ⟨b5, 0, none⟩ u).setCell ⟨b5, 1, none⟩ v).cell? ⟨b5, 1, none⟩ = some (φ1 ((W'.setCell ⟨b5, 0, none⟩ u).setCell ⟨b5, 1, none⟩ v)) ∧ ((W'.setCell ⟨b5, 0, none⟩ u).setCell ⟨b5, 1, none⟩ v).frozen? ⟨b5, 0, none⟩ = false ∧ ((W'.setCell ⟨b5, 0, none⟩ u).setCell ⟨b5, 1, none⟩ v).frozen? ⟨b5, 1, none⟩ = false) := by
      intro W' u v ⟨e1, e2, e3, e4, e5⟩
      refine ⟨?_, hφ0 _ ?_, hφ1 _ ?_, ?_, ?_⟩
      · rw [World.cell?_setCell_far _ _ _ _ (fun e => hne25 e.symm), World.cell?_setCell_far _ _ _ _ (fun e => hne25 e.symm)]; exact e1
      · rw [World.cell?_setCell_other _ _ _ _ (by simp), World.cell?_setCell_same _ _ _ e2]; rfl
      · have e3' : (W'.setCell ⟨b5, 0, none⟩ u).cell? ⟨b5, 1, none⟩ = some (φ1 W') := (World.cell?_setCell_other _ _ _ _ (by simp)).trans e3
        rw [World.cell?_setCell_same _ _ _ e3']; rfl
      · simpa using e4
      · simpa using e5
    have call1 : ∀ W' : World, Below w1.heap.size w1 W' → Calls Try.prog 27 #[.slice B1 J J] W' fun e w' =>
        ∃ A3 c3, e = .returned (.slice A3 p1.length c3) ∧ (w'.cell? ⟨b2, 0, none⟩ = some (.slice A0 J c0) ∧ w'.cell? ⟨b5, 0, none⟩ = some (φ0 w') ∧ w'.cell? ⟨b5, 1, none⟩ = some (φ1 w') ∧ w'.frozen? ⟨b5, 0, none⟩ = false ∧ w'.frozen? ⟨b5, 1, none⟩ = false) ∧ Aside0 (Kd.R (Kd.int .i64) 3 w' W'.heap.size (fun _ => True) (.slice A3 p1.length c3) p1) ∧ Aside0 (Below w1.heap.size w1 w') ∧ Aside0 (Below W'.heap.size W' w') := by
      intro W' h2
      have hc := Kd.C_below (hC1s'.out w1 sd rfl hC2'.out) h2
      have := plan_inside.calls 1001 B1 J _ p1 W' hc (by omega) hin1.out
      rw [l1] at this
      refine this.mono ?_
      rintro e w' ⟨v, rfl, hr, hb⟩
      obtain ⟨A3, c3, rfl, _⟩ := Kd.R_reads hr
      have hb3 := below_then h2 h2.size hb
      exact ⟨A3, c3, rfl, hS1 w' hb3, ⟨hr⟩, ⟨hb3⟩, ⟨hb⟩⟩
    have call2 : ∀ W' : World, Below w1.heap.size w1 W' → Calls Try.prog 27 #[.slice B2 S S] W' fun e w' =>
        ∃ A3 c3, e = .returned (.slice A3 p2.length c3) ∧ (w'.cell? ⟨b2, 0, none⟩ = some (.slice A0 J c0) ∧ w'.cell? ⟨b5, 0, none⟩ = some (φ0 w') ∧ w'.cell? ⟨b5, 1, none⟩ = some (φ1 w') ∧ w'.frozen? ⟨b5, 0, none⟩ = false ∧ w'.frozen? ⟨b5, 1, none⟩ = false) ∧ Aside0 (Kd.R (Kd.int .i64) 3 w' W'.heap.size (fun _ => True) (.slice A3 p2.length c3) p2) ∧ Aside0 (Below w1.heap.size w1 w') ∧ Aside0 (Below W'.heap.size W' w') := by
      intro W' h2
      have hc := Kd.C_below (hC2s'.out w1 sd rfl hC2'.out) h2
      have := plan_inside.calls 1001 B2 S _ p2 W' hc (by omega) hin2.out
      rw [l2] at this
      refine this.mono ?_
      rintro e w' ⟨v, rfl, hr, hb⟩
      obtain ⟨A3, c3, rfl, _⟩ := Kd.R_reads hr
      have hb3 := below_then h2 h2.size hb
      exact ⟨A3, c3, rfl, hS1 w' hb3, ⟨hr⟩, ⟨hb3⟩, ⟨hb⟩⟩
    clear hsl hTe l1 l2
    have hS1' := Aside0.mk hS1
    have hS2' := Aside0.mk hS2
    have hbz' := Aside0.mk hbz
    clear hS1 hS2 hbz hφ0 hφ1 q2 q3 q4 q5 q6
    go_region_held3 (fun w' => w'.cell? ⟨b2, 0, none⟩ = some (.slice A0 J c0) ∧ w'.cell? ⟨b5, 0, none⟩ = some (φ0 w') ∧ w'.cell? ⟨b5, 1, none⟩ = some (φ1 w') ∧ w'.frozen? ⟨b5, 0, none⟩ = false ∧ w'.frozen? ⟨b5, 1, none⟩ = false) (first | assumption | exact hS1'.out _ (below_drew hbz'.out) | exact hS2'.out _ _ _ (by assumption) | fail)
      (first | (go_at_call 27; with_reducible refine (call1 _ (below_drew hbz'.out)).mono ?_; rintro e wa ⟨A3, c3, rfl, hSa, hRa, hba, hba2⟩) | (go_at_call 27; with_reducible refine (call2 _ hba.out).mono ?_; rintro e wb ⟨A4, c4, rfl, hSb, hRb, hbb, hbb2⟩))
    go_wp2
    have hfin := blk_set (blk_set (blk_below (blk_below hM'.out.2.1 hb'.out) hbb.out) 0 (.slice A3 p1.length c3)) 1 (.slice A4 p2.length c4)
    have hs1 := hb'.out.size
    have hs2 := hba.out.size
    have hs3 := hbb.out.size
    have hbl := blk_lt hM'.out.2.1
    have hall : Below W.heap.size W wb := hb'.out.trans (hbb.out.mono hs1)
    refine hQ2'.out (by omega) _ _ _ _ ?_ ?_ ?_ ?_ hfin ?_ ?_ ?_ ?_ ?_
    · simp only []
    · simp only [List.getElem?_toArray, List.getElem?_cons_succ, List.getElem?_cons_zero]
    · simp only [List.getElem?_toArray, List.getElem?_cons_succ, List.getElem?_cons_zero]
    · simp only [List.getElem?_toArray, List.getElem?_cons_succ, List.getElem?_cons_zero]
    · have h1 := Kd.R_below (Kd.R_bound (Kd.R_lower hRa.out (show w1.heap.size ≤ w1.drew.heap.size from Nat.le_refl _))) hbb2.out
      rw [← hp1.out]
      exact Kd.R_lower (Kd.R_mono (Kd.R_far (p := ⟨b5, 1, none⟩) (Kd.R_far (p := ⟨b5, 0, none⟩) h1 (fun k hk => by have := hk.2.1; show k ≠ b5; omega) _) (fun k hk => by have := hk.2.1; show k ≠ b5; omega) _) (fun _ _ => trivial)) hs1
    · have h1 := Kd.R_bound (Kd.R_lower hRb.out (show w1.heap.size ≤ wa.heap.size from hs2))
      rw [← hTe'.out, ← hp2.out]
      exact Kd.R_lower (Kd.R_mono (Kd.R_far (p := ⟨b5, 1, none⟩) (Kd.R_far (p := ⟨b5, 0, none⟩) h1 (fun k hk => by have := hk.2.1; show k ≠ b5; omega) _) (fun k hk => by have := hk.2.1; show k ≠ b5; omega) _) (fun _ _ => trivial)) hs1
    · intro k hk e
      have u1 := ((Kd.R_bound hRa.out).1 k hk).2.2.1
      have u2 := ((Kd.R_bound hRb.out).1 k e.symm).2.1
      omega
    · exact Kept.setCell (S := fun k => k = b5) (p := ⟨b5, 1, none⟩) (Kept.setCell (S := fun k => k = b5) (p := ⟨b5, 0, none⟩) (Kept.of_below hall _) (.inl rfl) _) (.inl rfl) _
    · exact ⟨hall.os, hall.tape, hall.output⟩
  · go_wp2
    refine hK2'.out _ _ ?_
    clear hK2'
    obtain ⟨m2, m5, m10, he⟩ := hM'.out
    have hbs := hb'.out.size
    have hb2 := hb'.out
    refine sched_tail w1 b2 b5 b10 A0 A1 J S c0 c1 nodes sink Ae ce es A19 c19 fl ds ⟨blk_below m2 hb2, blk_below m5 hb2, blk_below m10 hb2, Kd.C_below he hb2, hC1'.out⟩ hJ hS hl'.out hle hes'.out Q _ _ _ _ _ _ _ _ _ _ _ _ _ _ _ _ _ _ _ _ _ _ _ _ _ _ _ _ _ _ _ _ _ _ _ _ _ _ _ _ _ _ _ _ _ _ _ _ _ _ _ _ _ _ _ _ _ _ _ _ _ _ _ _ _ _ _ _ _ _ _ _ _ _ _ _ _ _ _ _ _ _ _ _ _ _ _ _ _ _ _ _ _ _ _ _ _ _ _ _ _ _ _ _ _ _ _ _ _ _ _ _ _ _ _ _ _ _ _ _ _ _ _ _ _ _ _ _ _ _ _ _ _ _ _ _ _ _ _ _ _ _ _ _ _ _ _ _ _ _ _ _ _ _ _ _ _ _ _ _ _ _ ?_
    intro a' W' h1 h2 h3 h4 h5 h6 h7 h8
    exact hQ1'.out (by omega) _ a' W' h1 h2 h3 h4 hbs h5 h6 ((Kept.of_below hb2 _).then_ h7 (fun k hk => .inl hk)) ((Silent.refl _).below hb2 |>.trans h8)
end Go.Proofs.Ytioglahnliajlaa.Pr
