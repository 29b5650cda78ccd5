import Derived.Test.YtioglahnliajlaaCkCut0
import Derived.Test.YtioglahnliajlaaGBits
set_option linter.unusedVariables false
set_option linter.unusedSimpArgs false
/-! CheckCut's walk. -/
namespace Go.Proofs.Ytioglahnliajlaa.Pr
open Go.RowKit Go.Proofs.YtioglahnliajlaaW.PrintWords Go.Proofs.YtioglahnliajlaaW.PrintLast Go.Proofs.YtioglahnliajlaaW.PrintMore
attribute [local go_sem] Oper.semAt_some

set_option maxRecDepth 1000000 in
set_option maxHeartbeats 4000000 in
theorem cut_slots (w0 W : World) (b3 b7 b9 g7 : Nat) (A0 A1 A2 A3 : Option Addr) (c0 c1 c2 c3 : Nat) (l0 : List S38) (l1 cj cs : List Int) (ds : List Deferred)
    (hM : CM w0 W b3 b7 b9 g7 A0 A2 A3 l0.length c0 cj.length c2 cs.length c3 l1.length (List.replicate l1.length false) 0) (hC3 : Kd.C (Kd.int .i64) w0 A3 cs.length cs) (hC1 : Kd.C (Kd.int .i64) w0 A1 l1.length l1) (hv : validOk l0 l1) (hcs : choiceOk l1.length cs)
    (Q : Exit → Act → World → Prop) (z0 z2 z4 z6 z10 z11 z12 z13 z14 z15 z16 z17 z18 z19 z20 z21 z22 z23 z24 z25 z26 z27 z28 z29 z30 z31 z32 z33 z34 z35 z36 z37 z38 z39 z40 z41 z42 z43 z44 z45 z46 z47 z48 z49 z50 z51 z52 z53 z54 z55 z56 z57 z58 z59 z60 z61 z62 z63 z64 z65 z66 z67 z68 z69 z70 z71 z72 z73 z74 z75 z76 z77 z78 z79 z80 z81 z82 z83 z84 z85 z86 z87 z88 z89 z90 : Value)
    (hQ : ∀ (y0 y2 y4 y6 y10 y11 y12 y13 y14 y15 y16 y17 y18 y19 y20 y21 y22 y23 y24 y25 y26 y27 y28 y29 y30 y31 y32 y33 y34 y35 y36 y37 y38 y39 y40 y41 y42 y43 y44 y45 y46 y47 y48 y49 y50 y51 y52 y53 y54 y55 y56 y57 y58 y59 y60 y61 y62 y63 y64 y65 y66 y67 y68 y69 y70 y71 y72 y73 y74 y75 y76 y77 y78 y79 y80 y81 y82 y83 y84 y85 y86 y87 y88 y89 y90 : Value) (W' : World), CM w0 W' b3 b7 b9 g7 A0 A2 A3 l0.length c0 cj.length c2 cs.length c3 l1.length (markOf l1.length cs cs.length) (giveS l1 cs cs.length) → Code.wp Try.prog cut11c Q ⟨#[y0, (.slice A1 l1.length c1), y2, (.pointer (some ⟨b3, 0, none⟩)), y4, (.pointer (some ⟨b3 + 1, 0, none⟩)), y6, (.pointer (some ⟨b7, 0, none⟩)), (.int .i64 0), (.pointer (some ⟨b9, 0, none⟩)), y10, y11, y12, y13, y14, y15, y16, y17, y18, y19, y20, y21, y22, y23, y24, y25, y26, y27, y28, y29, y30, y31, y32, y33, y34, y35, y36, y37, y38, y39, y40, y41, y42, y43, y44, y45, y46, y47, y48, y49, y50, y51, y52, y53, y54, y55, y56, y57, y58, y59, y60, y61, y62, y63, y64, y65, y66, y67, y68, y69, y70, y71, y72, y73, y74, y75, y76, y77, y78, y79, y80, y81, y82, y83, y84, y85, y86, y87, y88, y89, y90], ds⟩ W') :
    Code.wp Try.prog cut5c Q ⟨#[z0, (.slice A1 l1.length c1), z2, (.pointer (some ⟨b3, 0, none⟩)), z4, (.pointer (some ⟨b3 + 1, 0, none⟩)), z6, (.pointer (some ⟨b7, 0, none⟩)), (.int .i64 0), (.pointer (some ⟨b9, 0, none⟩)), z10, z11, z12, z13, z14, z15, z16, z17, z18, z19, z20, z21, z22, z23, z24, z25, z26, z27, z28, z29, z30, z31, z32, z33, z34, z35, z36, z37, z38, z39, z40, z41, z42, z43, z44, z45, z46, z47, z48, z49, z50, z51, z52, z53, z54, z55, z56, z57, z58, z59, z60, z61, z62, z63, z64, z65, z66, z67, z68, z69, z70, z71, z72, z73, z74, z75, z76, z77, z78, z79, z80, z81, z82, z83, z84, z85, z86, z87, z88, z89, z90], ds⟩ W := by
  conv => arg 2; whnf
  have hM' := Aside0.mk hM
  have hA := Aside0.mk (And.intro hC3 (And.intro hC1 (And.intro hv hcs)))
  have hQ' := Aside0.mk hQ
  have q5 := blk_cell hM.m5 1
  simp at q5
  have hS24 := hv.1.2
  have hn3 := choice_small hcs
  clear hM hC3 hC1 hv hcs hQ
  refine wp_seq_k (fun K1 hK1 => ?_)
  have hK1' := Aside0.mk hK1
  clear hK1
  go_wp2
  go_loopw [41] (fun t wr => ∃ i : Nat, t = .int .i64 (i : Int) ∧ i ≤ cs.length ∧ CM w0 wr b3 b7 b9 g7 A0 A2 A3 l0.length c0 cj.length c2 cs.length c3 l1.length (markOf l1.length cs i) (giveS l1 cs i)) (fun t _ => cs.length - (intOf t).toNat)
  case atStart => exact ⟨0, rfl, by omega, hM'.out⟩
  case round =>
    clear q5
    obtain ⟨i, rfl, hi, hC⟩ := hrel
    have hC' := Aside0.mk hC
    by_cases hlt : i < cs.length
    · obtain ⟨ad, hA3, ec⟩ := Kd.at_int (Kd.C_below hA.out.1 hC.b) (i : Int) (by omega) (by omega)
      subst hA3
      obtain ⟨x0, x1⟩ := choice_at l1.length cs (-1) hA.out.2.2.2 i hlt
      obtain ⟨x, hx⟩ := Int.eq_ofNat_of_zero_le x0
      obtain ⟨ad1, hA1, es0⟩ := Kd.at_int hA.out.2.1 (x : Int) (by omega) (by omega)
      subst hA1
      simp only [Int.toNat_natCast] at ec es0
      rw [hx] at ec
      have hu := hA.out.2.2.1.2.1 _ (rd_memI l1 x (by omega))
      have hgb := giveS_le (cs := cs) hA.out.2.2.1.2.1 i
      have ms : Aside0 (markOf l1.length cs (i + 1) = (markOf l1.length cs i).set x true) := ⟨by simp only [markOf, hx, Int.toNat_natCast]⟩
      have gs : Aside0 (giveS l1 cs (i + 1) = giveS l1 cs i + rd l1 (x : Int)) := ⟨by simp only [giveS, hx]⟩
      have p7 := blk_cell hC.m7 0
      have p9 := blk_cell hC.m9 0
      have pm := blk_cell hC.mg x
      rw [boolCells_get _ _ (by rw [markOf_length]; omega)] at pm
      have pf := blk_frozen hC.mg x
      have pf9 := blk_frozen hC.m9 0
      simp at p7 p9
      have e7l := blk_lt hC.m7
      have e9l := blk_lt hC.m9
      have egl := blk_lt hC.mg
      have hne9 : b9 ≠ g7 := blk_ne hC.m9 hC.mg (by decide)
      have eC := World.block_lt_of_cell? _ _ ec
      have hxl : x < l1.length := by omega
      clear hC
      obtain ⟨u1, u2⟩ := hu
      generalize hux : rd l1 (x : Int) = ux at *
      generalize hgi : giveS l1 cs i = gi at *
      clear hux hgi
      have hCm := Aside0.mk (hC'.out.mark x)
      have p9' := blk_cell hCm.out.m9 0
      have pf9' := blk_frozen hCm.out.m9 0
      simp at p9'
      have es' : (wr.setCell ⟨g7, x, none⟩ (.bool true)).cell? (ad1.add x) = some (.int .i64 ux) := pw_cell_below hCm.out.b es0
      clear es0
      have eS := World.block_lt_of_cell? _ _ es'
      have e9m : b9 < (wr.setCell ⟨g7, x, none⟩ (.bool true)).heap.size := blk_lt hCm.out.m9
      go_wp2
      generalize (wr.setCell ⟨g7, x, none⟩ (.bool true)) = X at *
      have v1 : IntKind.i64.wrap (gi + ux) = gi + ux := w64s (by omega) (by omega)
      refine tail_wp 6 (by kernel_rfl) (by kernel_rfl) ?_
      simp only [List.take_succ_cons, List.take_zero, List.drop_succ_cons, List.drop_zero]
      repeat still_step
      refine wpStill_nil ?_
      go_wp2
      have hfin := (hCm.out.give (gi + ux)).below (below_drew (Below.refl _ _))
      exact ⟨⟨i + 1, rfl, hlt, by rw [ms.out, gs.out]; exact hfin⟩, by simp [intOf]; omega⟩
    · have hge : i = cs.length := by omega
      subst hge
      clear hlt hC
      go_wp2
      refine hK1'.out _ _ ?_
      exact hQ'.out _ _ _ _ _ _ _ _ _ _ _ _ _ _ _ _ _ _ _ _ _ _ _ _ _ _ _ _ _ _ _ _ _ _ _ _ _ _ _ _ _ _ _ _ _ _ _ _ _ _ _ _ _ _ _ _ _ _ _ _ _ _ _ _ _ _ _ _ _ _ _ _ _ _ _ _ _ _ _ _ _ _ _ _ _ _ hC'.out

theorem marks_set {l : List Nat} {lo b : Nat} {t : TypeId} {cs : Array Value} {W : World} (h : Marks l lo W) (hb : W.heap[b]? = some (.cells cs t (0, 0))) (j : Nat) (u : Value) : Marks l lo (W.setCell ⟨b, j, none⟩ u) := by
  refine ⟨h.nd, fun D hD => ⟨(Below.heap_setCell _ _ _ _ (fun e => ?_)).trans (h.at_ D hD).1, (h.at_ D hD).2⟩⟩
  have h1 := (h.at_ D hD).1
  have e' : D = b := e
  rw [e', hb] at h1
  cases h1

def valsOf {f : Int} {n : Nat} (xs : List (Slot f n)) : List Int := xs.map (·.1)
theorem need_le {jobs : List S38} {cj : List Int} (h : ∀ j ∈ jobs, 0 ≤ j.f2 ∧ j.f2 ≤ 1000) : ∀ k : Nat, 0 ≤ needOf jobs cj k ∧ needOf jobs cj k ≤ 1000 * k := by
  have hr : ∀ i : Int, 0 ≤ (rd_T38 jobs i).f2 ∧ (rd_T38 jobs i).f2 ≤ 1000 := fun i => by
    unfold rd_T38
    rw [List.getD_eq_getElem?_getD]
    cases e : jobs[i.toNat]? with
    | none => simp [z38]
    | some x => exact h x (List.mem_of_getElem? e)
  intro k
  induction k with
  | zero => simp [needOf]
  | succ k ih => simp only [needOf]; have := hr (rd cj (k : Int)); omega

set_option maxRecDepth 1000000 in
set_option maxHeartbeats 4000000 in
theorem cut_jobs (w0 W : World) (b3 b7 b9 g7 : Nat) (A0 A1 A2 A3 : Option Addr) (c0 c1 c2 c3 n3 : Nat) (l0 : List S38) (l1 cj : List Int) (mk : List Bool) (g0 : Int) (hmk : mk.length = l1.length) (hg0 : 0 ≤ g0 ∧ g0 ≤ 24000)
    (hM : CM w0 W b3 b7 b9 g7 A0 A2 A3 l0.length c0 cj.length c2 n3 c3 l1.length mk g0) (hC2 : Kd.C (Kd.int .i64) w0 A2 cj.length cj) (hC0 : Kd.C k38 w0 A0 l0.length l0) (hv : validOk l0 l1) (hcj : choiceOk l0.length cj)
    (Q : Exit → Act → World → Prop) (z0 z2 z4 z6 z10 z11 z12 z13 z14 z15 z16 z17 z18 z19 z20 z21 z22 z23 z24 z25 z26 z27 z28 z29 z30 z31 z32 z33 z34 z35 z36 z37 z38 z39 z40 z41 z42 z43 z44 z45 z46 z47 z48 z49 z50 z51 z52 z53 z54 z55 z56 z57 z58 z59 z60 z61 z62 z63 z64 z65 z66 z67 z68 z69 z70 z71 z72 z73 z74 z75 z76 z77 z78 z79 z80 z81 z82 z83 z84 z85 z86 z87 z88 z89 z90 : Value)
    (hQ : ∀ (y0 y2 y4 y6 y10 y11 y12 y13 y14 y15 y16 y17 y18 y19 y20 y21 y22 y23 y24 y25 y26 y27 y28 y29 y30 y31 y32 y33 y34 y35 y36 y37 y38 y39 y40 y41 y42 y43 y44 y45 y46 y47 y48 y49 y50 y51 y52 y53 y54 y55 y56 y57 y58 y59 y60 y61 y62 y63 y64 y65 y66 y67 y68 y69 y70 y71 y72 y73 y74 y75 y76 y77 y78 y79 y80 y81 y82 y83 y84 y85 y86 y87 y88 y89 y90 : Value) (l : List Nat) (W' : World), CM w0 W' b3 b7 b9 g7 A0 A2 A3 l0.length c0 cj.length c2 n3 c3 l1.length mk (giveJ l0 mk cj g0 cj.length) → Marks l w0.heap.size W' → Code.wp Try.prog cut20c Q ⟨#[y0, (.slice A1 l1.length c1), y2, (.pointer (some ⟨b3, 0, none⟩)), y4, (.pointer (some ⟨b3 + 1, 0, none⟩)), y6, (.pointer (some ⟨b7, 0, none⟩)), (.int .i64 (needOf l0 cj cj.length)), (.pointer (some ⟨b9, 0, none⟩)), y10, y11, y12, y13, y14, y15, y16, y17, y18, y19, y20, y21, y22, y23, y24, y25, y26, y27, y28, y29, y30, y31, y32, y33, y34, y35, y36, y37, y38, y39, y40, y41, y42, y43, y44, y45, y46, y47, y48, y49, y50, y51, y52, y53, y54, y55, y56, y57, y58, y59, y60, y61, y62, y63, y64, y65, y66, y67, y68, y69, y70, y71, y72, y73, y74, y75, y76, y77, y78, y79, y80, y81, y82, y83, y84, y85, y86, y87, y88, y89, y90], l.map mark⟩ W') :
    Code.wp Try.prog cut11c Q ⟨#[z0, (.slice A1 l1.length c1), z2, (.pointer (some ⟨b3, 0, none⟩)), z4, (.pointer (some ⟨b3 + 1, 0, none⟩)), z6, (.pointer (some ⟨b7, 0, none⟩)), (.int .i64 0), (.pointer (some ⟨b9, 0, none⟩)), z10, z11, z12, z13, z14, z15, z16, z17, z18, z19, z20, z21, z22, z23, z24, z25, z26, z27, z28, z29, z30, z31, z32, z33, z34, z35, z36, z37, z38, z39, z40, z41, z42, z43, z44, z45, z46, z47, z48, z49, z50, z51, z52, z53, z54, z55, z56, z57, z58, z59, z60, z61, z62, z63, z64, z65, z66, z67, z68, z69, z70, z71, z72, z73, z74, z75, z76, z77, z78, z79, z80, z81, z82, z83, z84, z85, z86, z87, z88, z89, z90], []⟩ W := by
  conv => arg 2; whnf
  have hM' := Aside0.mk hM
  have hA := Aside0.mk (And.intro hC2 (And.intro hC0 (And.intro hv hcj)))
  have hQ' := Aside0.mk hQ
  have q5 := blk_cell hM.m5 0
  simp at q5
  have hJ12 := hv.1.1
  have hS24 := hv.1.2
  have hn2 := choice_small hcj
  have hnb := Aside0.mk (need_le (cj := cj) (jobs := l0) (fun j hj => (hv.2.2 j hj).2.2.1))
  clear hM hC2 hC0 hv hcj hQ
  refine wp_seq_k (fun K1 hK1 => ?_)
  have hK1' := Aside0.mk hK1
  clear hK1
  go_wp2
  refine wp_loop_rounds (cj.length + 1) ?_
  refine (?kk55 : ∀ (d i : Nat) (u0 u2 u4 u6 u10 u11 u12 u13 u14 u15 u16 u17 u18 u19 u20 u21 u22 u23 u24 u25 u26 u27 u28 u29 u30 u31 u32 u33 u34 u35 u36 u37 u38 u39 u40 u41 u42 u43 u44 u45 u46 u47 u48 u49 u50 u51 u52 u53 u54 u55 u59 u60 u61 u62 u63 u64 u65 u66 u67 u68 u69 u70 u71 u72 u73 u74 u75 u76 u77 u78 u79 u80 u81 u82 u83 u84 u85 u86 u87 u88 u89 u90 : Value) (l : List Nat) (W : World), i + d = cj.length → CM w0 W b3 b7 b9 g7 A0 A2 A3 l0.length c0 cj.length c2 n3 c3 l1.length mk (giveJ l0 mk cj g0 i) → 0 ≤ giveJ l0 mk cj g0 i ∧ giveJ l0 mk cj g0 i ≤ 24000 + 24000 * i → Marks l w0.heap.size W → Code.rounds Try.prog ?cc55 ?qq55 (d + 1) ⟨#[u0, (.slice A1 l1.length c1), u2, (.pointer (some ⟨b3, 0, none⟩)), u4, (.pointer (some ⟨b3 + 1, 0, none⟩)), u6, (.pointer (some ⟨b7, 0, none⟩)), (.int .i64 (needOf l0 cj i)), (.pointer (some ⟨b9, 0, none⟩)), u10, u11, u12, u13, u14, u15, u16, u17, u18, u19, u20, u21, u22, u23, u24, u25, u26, u27, u28, u29, u30, u31, u32, u33, u34, u35, u36, u37, u38, u39, u40, u41, u42, u43, u44, u45, u46, u47, u48, u49, u50, u51, u52, u53, u54, u55, (.slice A2 cj.length c2), (.int .i64 (cj.length : Int)), (.int .i64 (i : Int)), u59, u60, u61, u62, u63, u64, u65, u66, u67, u68, u69, u70, u71, u72, u73, u74, u75, u76, u77, u78, u79, u80, u81, u82, u83, u84, u85, u86, u87, u88, u89, u90], l.map mark⟩ W) cj.length 0 _ _ _ _ _ _ _ _ _ _ _ _ _ _ _ _ _ _ _ _ _ _ _ _ _ _ _ _ _ _ _ _ _ _ _ _ _ _ _ _ _ _ _ _ _ _ _ _ _ _ _ _ _ _ _ _ _ _ _ _ _ _ _ _ _ _ _ _ _ _ _ _ _ _ _ _ _ _ _ _ _ _ [] W (by omega) hM'.out (by simp only [giveJ]; omega) ⟨List.nodup_nil, fun D h => by cases h⟩
  clear hM' q5
  intro d
  induction d with
  | zero =>
    intro i u0 u2 u4 u6 u10 u11 u12 u13 u14 u15 u16 u17 u18 u19 u20 u21 u22 u23 u24 u25 u26 u27 u28 u29 u30 u31 u32 u33 u34 u35 u36 u37 u38 u39 u40 u41 u42 u43 u44 u45 u46 u47 u48 u49 u50 u51 u52 u53 u54 u55 u59 u60 u61 u62 u63 u64 u65 u66 u67 u68 u69 u70 u71 u72 u73 u74 u75 u76 u77 u78 u79 u80 u81 u82 u83 u84 u85 u86 u87 u88 u89 u90 l W hi hL hgb hm
    have hie : i = cj.length := by omega
    subst hie
    rw [rounds_succ]
    have hL' := Aside0.mk hL
    have hm' := Aside0.mk hm
    clear hL hm
    go_wp2
    refine hK1'.out _ _ ?_
    exact hQ'.out _ _ _ _ _ _ _ _ _ _ _ _ _ _ _ _ _ _ _ _ _ _ _ _ _ _ _ _ _ _ _ _ _ _ _ _ _ _ _ _ _ _ _ _ _ _ _ _ _ _ _ _ _ _ _ _ _ _ _ _ _ _ _ _ _ _ _ _ _ _ _ _ _ _ _ _ _ _ _ _ _ _ _ _ _ l _ hL'.out hm'.out
  | succ d ih =>
    intro i u0 u2 u4 u6 u10 u11 u12 u13 u14 u15 u16 u17 u18 u19 u20 u21 u22 u23 u24 u25 u26 u27 u28 u29 u30 u31 u32 u33 u34 u35 u36 u37 u38 u39 u40 u41 u42 u43 u44 u45 u46 u47 u48 u49 u50 u51 u52 u53 u54 u55 u59 u60 u61 u62 u63 u64 u65 u66 u67 u68 u69 u70 u71 u72 u73 u74 u75 u76 u77 u78 u79 u80 u81 u82 u83 u84 u85 u86 u87 u88 u89 u90 l W hi hL hgb hm
    rw [rounds_succ]
    have ih' := Aside0.mk ih
    have hL' := Aside0.mk hL
    have hm' := Aside0.mk hm
    have hlt : i < cj.length := by omega
    obtain ⟨ad2, hA2, ec⟩ := Kd.at_int (Kd.C_below hA.out.1 hL.b) (i : Int) (by omega) (by omega)
    subst hA2
    obtain ⟨x0, x1⟩ := choice_at l0.length cj (-1) hA.out.2.2.2 i hlt
    obtain ⟨x, hx⟩ := Int.eq_ofNat_of_zero_le x0
    simp only [Int.toNat_natCast] at ec
    rw [hx] at ec
    have hxl : x < l0.length := by omega
    have ne : Aside0 (needOf l0 cj (i + 1) = needOf l0 cj i + (rd_T38 l0 (x : Int)).f2) := ⟨by simp only [needOf, hx]⟩
    have ge : Aside0 (giveJ l0 mk cj g0 (i + 1) = (slotList (rd_T38 l0 (x : Int)).f0 ((rd_T38 l0 (x : Int)).f1 - (rd_T38 l0 (x : Int)).f0).toNat).foldl (giveStep (rd_T38 l0 (x : Int)).f3 mk) (giveJ l0 mk cj g0 i)) := ⟨by simp only [giveJ, hx]⟩
    have hjb := hA.out.2.2.1.2.2 _ (rd_memJ l0 x hxl)
    obtain ⟨adj, hAj, e0, e1, e2, e3, e4⟩ := at_T38 hA.out.2.1 (x : Int) (by omega) (by omega)
    subst hAj
    simp only [Int.toNat_natCast] at e0 e1 e2 e3 e4
    have hni := hnb.out i
    have ec0 := World.block_lt_of_cell? _ _ ec
    have hf2 := Aside0.mk (foldl_give (rd_T38 l0 (x : Int)).f3 mk hjb.2.2.2.1.1 hjb.2.2.2.1.2)
    clear ih hL hm
    generalize hj : rd_T38 l0 (x : Int) = j at *
    clear hj
    generalize hwi : needOf l0 cj i = wi at *
    generalize hgi : giveJ l0 mk cj g0 i = gi at *
    have hgi' := Aside0.mk hgi
    clear hwi hgi
    have hX := blk_new W (.cells #[.int .i64 (x : Int)] 3)
    have hXb : Below W.heap.size W (W.alloc (.cells #[.int .i64 (x : Int)] 3)) := below_alloc (Below.refl _ _) _
    have hLX := hL'.out.below hXb
    have hmX := Aside0.mk (marks_below hm'.out hXb)
    have r3 := blk_cell hLX.m3 0
    have r13 : (W.alloc (.cells #[.int .i64 (x : Int)] 3)).cell? ⟨W.heap.size, 0, none⟩ = some (.int .i64 (x : Int)) := by rw [blk_cell hX 0]; rfl
    simp at r3
    have f0 := pw_cell_below hLX.b e0
    have f1 := pw_cell_below hLX.b e1
    have f2 := pw_cell_below hLX.b e2
    have f3 := pw_cell_below hLX.b e3
    have f4 := pw_cell_below hLX.b e4
    have d0 := World.block_lt_of_cell? _ _ f0
    have d1 := World.block_lt_of_cell? _ _ f1
    have d2 := World.block_lt_of_cell? _ _ f2
    have d3 := World.block_lt_of_cell? _ _ f3
    have d4 := World.block_lt_of_cell? _ _ f4
    have r3l := blk_lt hLX.m3
    have r13l := blk_lt hX
    have hLX' := Aside0.mk hLX
    have hX13 := Aside0.mk hX
    have e3' := Aside0.mk e3
    clear hLX hX hXb e0 e1 e2 e3 e4
    obtain ⟨⟨y0, y1⟩, y2, ⟨y3, y4⟩, ⟨y5, y6⟩, _⟩ := hjb
    have v1 : IntKind.i64.wrap (wi + j.f2) = wi + j.f2 := w64s (by omega) (by omega)
    go_wp2_with fail
    have hsl := slots_calls (W.alloc (.cells #[.int .i64 (x : Int)] 3)) j
    unfold jobCells at hsl
    refine hsl.mono ?_
    rintro e XL ⟨rfl, hXL⟩
    have hXL' := Aside0.mk hXL
    clear hXL hsl f0 f1 f2 f3 f4 d0 d1 d2 d3 d4 r3 r13 r3l r13l v1
    go_wp2_with fail
    have hXsz : (W.alloc (.cells #[.int .i64 (x : Int)] 3)).heap.size = W.heap.size + 1 := World.size_alloc _ _
    generalize (W.alloc (.cells #[.int .i64 (x : Int)] 3)) = X at *
    have hBL : Below X.heap.size X XL := by rw [← hXL'.out]; exact below_alloc (Below.refl _ _) _
    have hbj : XL.heap[W.heap.size + 1]? = some (.cells (jobCells j) 38 (0, 0)) := by rw [← hXL'.out, ← hXsz]; exact blk_new _ _
    have hszL : XL.heap.size = W.heap.size + 2 := by rw [← hXL'.out, World.size_alloc, hXsz]
    obtain ⟨n, hn⟩ := Int.eq_ofNat_of_zero_le (show 0 ≤ j.f1 - j.f0 by omega)
    have hnn : Aside0 ((j.f1 - j.f0).toNat = n) := ⟨by omega⟩
    have hL4 := hLX'.out.below hBL
    have hm4 := marks_below hmX.out hBL
    have hmlt : ∀ D ∈ l, D < XL.heap.size := fun D hD => blk_lt (hm4.at_ D hD).1
    have x13 := blk_below hX13.out hBL
    have hw0 := hL4.b.size
    refine (wpIn_wide (n := 8)).1 ?_
    refine wpIn_rangeFunc_ownH (F := Fence.wide) rfl (by decide) (gf := 37) (lb := #[.pointer (some ⟨W.heap.size + 1, 0, none⟩)]) rfl trivial (Go.Proofs.enters_of Try.func37 (by kernel_rfl) rfl)
      (slots1_stops (8 - 1) (W.heap.size + 1) j n (by omega) (by omega) (by omega) XL hbj) (fun h k => KeepsB.trans h k) ?hKb (Below.refl _ _) (fun _ => rfl)
      (fun pre W2 => CM w0 W2 b3 b7 b9 g7 (some adj) (some ad2) A3 l0.length c0 cj.length c2 n3 c3 l1.length mk ((valsOf pre).foldl (giveStep j.f3 mk) gi) ∧ (W2.heap[W.heap.size + 1]? = some (.cells (jobCells j) 38 (0, 0)) ∧ W2.heap[W.heap.size]? = some (.cells #[.int .i64 (x : Int)] 3 (0, 0))) ∧ Marks l w0.heap.size W2)
      (fun _ _ _ => False) ?hI (fun _ _ _ _ _ h _ _ => h) ?h0
      (fun x a' _ => ∃ (q8 q56 q57 q58 q59 q60 q61 q62 q63 q64 q65 q66 q67 q68 q69 q70 q71 q72 q73 : Value), a' = { tmps := #[u0, (.slice A1 l1.length c1), u2, (.pointer (some ⟨b3, 0, none⟩)), u4, (.pointer (some ⟨b3 + 1, 0, none⟩)), u6, (.pointer (some ⟨b7, 0, none⟩)), q8, (.pointer (some ⟨b9, 0, none⟩)), u10, u11, u12, (.pointer (some ⟨W.heap.size, 0, none⟩)), (.int .i64 x.1), u15, u16, u17, u18, u19, u20, u21, u22, u23, u24, u25, u26, u27, u28, u29, u30, u31, u32, u33, u34, u35, u36, u37, u38, u39, u40, u41, u42, u43, u44, u45, u46, u47, u48, u49, u50, u51, u52, u53, u54, u55, q56, q57, q58, q59, q60, q61, q62, q63, q64, q65, q66, q67, q68, q69, q70, q71, q72, q73, (.int .i64 x.1), u75, u76, u77, u78, u79, u80, u81, u82, u83, u84, u85, u86, u87, u88, u89, u90], defers := [] }) (fun _ _ _ _ _ _ h _ _ => h) ?assign ?body ?done (fun _ _ _ _ _ _ h _ => h.elim)
    case hKb =>
      intro W2 lr o o' hlr ho hc _
      exact ⟨by simp [World.putObj], putObj_far (fun e => by omega)⟩
    case hI =>
      intro pre X1 Y row h hg hr
      obtain ⟨h1, ⟨h2, h3⟩, h5⟩ := h
      have hkeep : ∀ (k : Nat) (cs : Array Value) (ty : TypeId), X1.heap[k]? = some (Obj.cells cs ty (0, 0)) → Y.heap[k]? = some (Obj.cells cs ty (0, 0)) := fun k cs ty ho => (hg.block k (blk_lt ho) (fun e => by
        obtain ⟨_, o', ho', hc'⟩ := hr k e.symm
        rw [ho] at ho'; cases ho'; cases hc')).trans ho
      exact ⟨h1.own hw0 hg hr, ⟨hkeep _ _ _ h2, hkeep _ _ _ h3⟩, marks_ownF h5 hmlt hg hr⟩
    case h0 => exact ⟨hL4, ⟨hbj, x13⟩, hm4⟩
    case assign =>
      intro lp pre x W2 K hI hK
      gi_wp2
      refine hK _ _ (KeepsFrom.refl _ _) ⟨Nat.le_refl _, rfl⟩ hI ⟨_, _, _, _, _, _, _, _, _, _, _, _, _, _, _, _, _, _, _, rfl⟩
    case body =>
      intro lp pre x2 a' W2 hlp _ hI hA2 hN
      obtain ⟨q8, q56, q57, q58, q59, q60, q61, q62, q63, q64, q65, q66, q67, q68, q69, q70, q71, q72, q73, rfl⟩ := hA2
      obtain ⟨hL, ⟨z0, z1⟩, hMk⟩ := hI
      obtain ⟨xs, hx1, hx2⟩ := x2
      obtain ⟨s, rfl⟩ := Int.eq_ofNat_of_zero_le (show 0 ≤ xs by omega)
      have hsS : s < l1.length := by omega
      have p3 := blk_cell hL.m3 0
      have p7 := blk_cell hL.m7 0
      have p9 := blk_cell hL.m9 0
      have p13 := blk_cell z1 0
      have pm := blk_cell hL.mg s
      rw [boolCells_get _ _ (by omega)] at pm
      have hmb : rdOf false mk (s : Int) = mk[s] := by simp [rdOf, List.getD_eq_getElem?_getD, show s < mk.length by omega]
      rw [← hmb] at pm
      have pj := pw_cell_below hL.b e3'.out
      have pf9 := blk_frozen hL.m9 0
      simp at p3 p7 p9 p13
      have l3 := blk_lt hL.m3
      have l7 := blk_lt hL.m7
      have l9 := blk_lt hL.m9
      have l13 := blk_lt z1
      have lm := blk_lt hL.mg
      have lj := World.block_lt_of_cell? _ _ pj
      have hLb := Aside0.mk hL
      have hY := Aside0.mk (And.intro z0 (And.intro z1 hMk))
      have hpl : pre.length ≤ 25 := by have : (n : Int) ≤ 24 := by omega
                                       omega
      have hgb2 := (foldl_give j.f3 mk y5 y6 (valsOf pre) gi)
      rw [show (valsOf pre).length = pre.length from List.length_map ..] at hgb2
      have happ : Aside0 ((valsOf (pre ++ [(⟨(s : Int), hx1, hx2⟩ : Slot j.f0 n)])).foldl (giveStep j.f3 mk) gi = giveStep j.f3 mk ((valsOf pre).foldl (giveStep j.f3 mk) gi) (s : Int)) := ⟨by unfold valsOf; rw [List.map_append, List.foldl_append]; rfl⟩
      clear hL z0 z1 hMk hN hL4 hm4 hmlt x13 hmb
      generalize hgc : (valsOf pre).foldl (giveStep j.f3 mk) gi = gc at *
      clear hgc
      cases hb : rdOf false mk (s : Int) with
      | true =>
        rw [hb] at pm
        have hgs : Aside0 (giveStep j.f3 mk gc (s : Int) = gc) := ⟨by unfold giveStep; rw [if_pos hb]⟩
        clear hb
        gi_wp2
        refine ⟨KeepsFrom.refl _ _, ⟨Nat.le_refl _, rfl⟩, ?_, ⟨hY.out.1, hY.out.2.1⟩, hY.out.2.2⟩
        rw [happ.out, hgs.out]; exact hLb.out
      | false =>
        rw [hb] at pm
        have hgs : Aside0 (giveStep j.f3 mk gc (s : Int) = gc + j.f3) := ⟨by unfold giveStep; rw [if_neg (by rw [hb]; decide)]⟩
        have v1 : IntKind.i64.wrap (gc + j.f3) = gc + j.f3 := w64s (by omega) (by omega)
        clear hb
        gi_wp2
        refine TailIn2.tail_in 7 (by kernel_rfl) (by kernel_rfl) (by kernel_rfl) ?_
        simp only [List.take_succ_cons, List.take_zero, List.drop_succ_cons, List.drop_zero]
        repeat still_step
        refine wpStill_nil ?_
        have hfin := Aside0.mk ((hLb.out.give (gc + j.f3)).below (below_drew (Below.refl _ _)))
        have hn1 : W.heap.size + 1 ≠ b9 := blk_ne hY.out.1 hLb.out.m9 (by decide)
        have hn2' : W.heap.size ≠ b9 ∨ True := .inr trivial
        gi_wp2
        have hlt13 : W.heap.size ≠ b9 := by
          have := blk_lt hL'.out.m9
          omega
        refine ⟨⟨by simp [World.setCell], fun k ob hk ho hc => ?_⟩, ⟨by simp [World.setCell], ?_⟩, ?_, ⟨?_, ?_⟩, ?_⟩
        · refine (Below.heap_setCell _ _ _ _ (fun e => ?_)).trans ho
          have e' : k = b9 := e
          rw [e', hLb.out.m9] at ho
          cases ho; cases hc
        · exact Below.heap_setCell _ _ _ _ hn1
        · rw [happ.out, hgs.out]; exact hfin.out
        · exact (Below.heap_setCell _ _ _ _ hn1).trans hY.out.1
        · exact (Below.heap_setCell _ _ _ _ hlt13).trans hY.out.2.1
        · exact marks_below (marks_set hY.out.2.2 hLb.out.m9 _ _) (below_drew (Below.refl _ _))
    case done =>
      intro D xs W2 hD hxs hI hDo
      obtain ⟨hL, _, hMk⟩ := hI
      rw [show valsOf xs = slotList j.f0 n from hxs] at hL
      have hL6 : Aside0 (CM w0 W2 b3 b7 b9 g7 (some adj) (some ad2) A3 l0.length c0 cj.length c2 n3 c3 l1.length mk (giveJ l0 mk cj g0 (i + 1))) := ⟨by rw [ge.out, hnn.out]; exact hL⟩
      have hM2 : Aside0 (Marks (D :: l) w0.heap.size W2) := by
        refine ⟨List.nodup_cons.2 ⟨fun h => ?_, hMk.nd⟩, fun E hE => ?_⟩
        · have := hmlt D h
          omega
        · rcases List.mem_cons.1 hE with rfl | hE
          · exact ⟨hDo, by omega⟩
          · exact hMk.at_ E hE
      have hw2 : Aside0 (0 ≤ giveJ l0 mk cj g0 (i + 1) ∧ giveJ l0 mk cj g0 (i + 1) ≤ 24000 + 24000 * ((i + 1 : Nat) : Int)) := ⟨by
        rw [ge.out, hnn.out]
        have := (foldl_give j.f3 mk y5 y6 (slotList j.f0 n) gi)
        rw [slotList_length] at this
        have : (n : Int) ≤ 24 := by omega
        omega⟩
      clear hL hMk hDo hxs hL4 hm4 hmlt x13
      go_wp2
      rw [← ne.out, show (i : Int) + 1 = ((i + 1 : Nat) : Int) by omega]
      exact ih'.out (i + 1) _ _ _ _ _ _ _ _ _ _ _ _ _ _ _ _ _ _ _ _ _ _ _ _ _ _ _ _ _ _ _ _ _ _ _ _ _ _ _ _ _ _ _ _ _ _ _ _ _ _ _ _ _ _ _ _ _ _ _ _ _ _ _ _ _ _ _ _ _ _ _ _ _ _ _ _ _ _ _ _ _ _ (D :: l) W2 (by omega) hL6.out hw2.out hM2.out
end Go.Proofs.Ytioglahnliajlaa.Pr
