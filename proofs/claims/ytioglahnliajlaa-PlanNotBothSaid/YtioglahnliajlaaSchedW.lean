import Derived.Test.YtioglahnliajlaaSchedV
import Derived.Test.YtioglahnliajlaaGBits
set_option linter.unusedVariables false
set_option linter.unusedSimpArgs false
/-! Schedule's first loop: the edges of each job. -/
namespace Go.Proofs.Ytioglahnliajlaa.Pr
open Go.RowKit Go.Proofs.YtioglahnliajlaaW.PrintWords Go.Proofs.YtioglahnliajlaaW.PrintLast Go.Proofs.YtioglahnliajlaaW.PrintMore
attribute [local go_sem] Oper.semAt_some

theorem allocs2 (W : World) (o0 o1 : Obj) : Below W.heap.size W ((W.alloc o0).alloc o1) ∧ ((W.alloc o0).alloc o1).heap[W.heap.size]? = some o0 ∧ ((W.alloc o0).alloc o1).heap[W.heap.size + 1]? = some o1 ∧ ((W.alloc o0).alloc o1).heap.size = W.heap.size + 2 := by
  have s1 : (W.alloc o0).heap.size = W.heap.size + 1 := World.size_alloc _ _
  have b1 := blk_new (W.alloc o0) o1
  rw [s1] at b1
  exact ⟨below_alloc (below_alloc (Below.refl _ _) _) _, blk_alloc (blk_new W o0) _, b1, by rw [World.size_alloc, s1]⟩

def wantE (jobs : List S38) : Nat → Int
  | 0 => 0
  | i + 1 => wantE jobs i + (rd_T38 jobs (i : Int)).f2
def slotE (J i : Nat) (j : S38) (l : List Int) : List S49 := l.map fun s => (⟨1 + (i : Int), 1 + (J : Int) + s, j.f3⟩ : S49)
def jobsE (J : Nat) (jobs : List S38) : Nat → List S49
  | 0 => []
  | i + 1 => jobsE J jobs i ++ [⟨0, 1 + (i : Int), (rd_T38 jobs (i : Int)).f2⟩] ++ slotE J i (rd_T38 jobs (i : Int)) (slotList (rd_T38 jobs (i : Int)).f0 ((rd_T38 jobs (i : Int)).f1 - (rd_T38 jobs (i : Int)).f0).toNat)

section
variable {w0 W W1 : World} {b2 b5 b7 b8 b10 b11 : Nat} {A0 : Option Addr} {J c0 : Nat} {nodes : Int} {es : List S49}
theorem LM.own {B : Nat} (h : LM w0 W b2 b5 b7 b8 b10 b11 A0 J c0 nodes es) (hB : w0.heap.size ≤ B) {row : Option Nat} (hg : W.grownBy W1 row) (hr : ∀ r, row = some r → B ≤ r ∧ ∃ o : Obj, W.heap[r]? = some o ∧ o.isCells = false) : LM w0 W1 b2 b5 b7 b8 b10 b11 A0 J c0 nodes es := by
  have keep : ∀ (g : Nat) (cs : Array Value) (t : TypeId), W.heap[g]? = some (.cells cs t (0, 0)) → W1.heap[g]? = some (.cells cs t (0, 0)) := fun g cs t ho => (hg.block g (blk_lt ho) (fun e => by
    obtain ⟨_, o', ho', hc'⟩ := hr g e.symm
    rw [ho] at ho'; cases ho'; cases hc')).trans ho
  obtain ⟨v, h1, h2⟩ := h.m10
  refine ⟨keep _ _ _ h.m2, keep _ _ _ h.m5, keep _ _ _ h.m7, keep _ _ _ h.m8, keep _ _ _ h.m11, ⟨v, keep _ _ _ h1, ?_⟩, h.lo, h.b.grown hg h.b.size (fun k e => Nat.le_trans hB (hr k e).1)⟩
  refine Kd.R_mono (Kd.R_move (Kd.R_bound h2) (fun k hk => ?_)) (fun _ _ => trivial)
  obtain ⟨_, _, _, q, _, cells, hc⟩ := hk
  rw [hc]; exact keep _ _ _ hc
end

theorem marks_kept {l : List Nat} {lo b10 : Nat} {W W1 : World} (h : Marks l lo W) (h10 : ∃ cs t, W.heap[b10]? = some (.cells cs t (0, 0))) (hk : Kept W W1 (EdgeBlk W b10)) : Marks l lo W1 := by
  refine ⟨h.nd, fun D hD => ?_⟩
  obtain ⟨a, b⟩ := h.at_ D hD
  refine ⟨(hk.2 D (blk_lt a) (fun hE => ?_)).trans a, b⟩
  rcases hE with rfl | ⟨cells, hc⟩
  · obtain ⟨cs, t, h1⟩ := h10
    rw [h1] at a; cases a
  · rw [hc] at a; cases a
theorem marks_below {l : List Nat} {lo : Nat} {W W1 : World} (h : Marks l lo W) (hb : Below W.heap.size W W1) : Marks l lo W1 := ⟨h.nd, fun D hD => ⟨blk_below (h.at_ D hD).1 hb, (h.at_ D hD).2⟩⟩
theorem marks_ownF {l : List Nat} {lo B : Nat} {W W1 : World} (h : Marks l lo W) (hB : ∀ D ∈ l, D < B) {row : Option Nat} (hg : W.grownBy W1 row) (hr : ∀ r, row = some r → B ≤ r ∧ ∃ o : Obj, W.heap[r]? = some o ∧ o.isCells = false) : Marks l lo W1 := by
  refine ⟨h.nd, fun D hD => ⟨(hg.block D (blk_lt (h.at_ D hD).1) (fun e => ?_)).trans (h.at_ D hD).1, (h.at_ D hD).2⟩⟩
  have := (hr D e.symm).1
  have := hB D hD
  omega

theorem kept_cells {W W1 : World} {b10 : Nat} {cs10 : Array Value} (h10 : W.heap[b10]? = some (.cells cs10 47 (0, 0))) (hk : Kept W W1 (EdgeBlk W b10)) (g : Nat) (cs : Array Value) (t : TypeId) (hg : W.heap[g]? = some (.cells cs t (0, 0))) (ht1 : t ≠ 47) (ht2 : t ≠ 49) : W1.heap[g]? = some (.cells cs t (0, 0)) :=
  blk_kept hg hk (fun hE => by
    rcases hE with rfl | ⟨cells, hc⟩
    · rw [h10] at hg; injection hg with hg; injection hg with _ hg; exact ht1 hg.symm
    · rw [hc] at hg; injection hg with hg; injection hg with _ hg; exact ht2 hg.symm)

set_option maxRecDepth 1000000 in
set_option maxHeartbeats 4000000 in
theorem sched_jobs (w0 W : World) (b2 b5 b7 b8 b10 b11 : Nat) (A0 A1 : Option Addr) (c0 c1 : Nat) (nodes sink : Int) (jobs : List S38) (sup : List Int)
    (hM : LM w0 W b2 b5 b7 b8 b10 b11 A0 jobs.length c0 nodes []) (hC : Kd.C k38 w0 A0 jobs.length jobs) (hJ : jobs.length ≤ 12) (hS : sup.length ≤ 1000)
    (hjob : ∀ i : Nat, i < jobs.length → 0 ≤ (rd_T38 jobs (i : Int)).f0 ∧ (rd_T38 jobs (i : Int)).f0 ≤ (rd_T38 jobs (i : Int)).f1 ∧ (rd_T38 jobs (i : Int)).f1 ≤ 24 ∧ 0 ≤ (rd_T38 jobs (i : Int)).f2 ∧ (rd_T38 jobs (i : Int)).f2 ≤ 1000)
    (Q : Exit → Act → World → Prop) (z0 z3 z4 z6 z13 z14 z15 z16 z17 z18 z19 z20 z21 z22 z23 z24 z25 z26 z27 z28 z29 z30 z31 z32 z33 z34 z35 z36 z37 z38 z39 z40 z41 z42 z43 z44 z45 z46 z47 z48 z49 z50 z51 z52 z53 z54 z55 z56 z57 z58 z59 z60 z61 z62 z63 z64 z65 z66 z67 z68 z69 z70 z71 z72 z73 z74 z75 z76 z77 z78 z79 z80 z81 z82 z83 z84 z85 z86 z87 z88 z89 z90 z91 z92 z93 z94 z95 z96 z97 z98 z99 z100 z101 z102 z103 z104 z105 z106 z107 z108 z109 z110 z111 z112 z113 z114 z115 z116 z117 z118 z119 z120 z121 z122 z123 z124 z125 z126 z127 z128 z129 z130 z131 z132 z133 z134 z135 z136 z137 z138 z139 z140 z141 z142 z143 z144 z145 z146 z147 z148 z149 z150 z151 z152 z153 z154 z155 z156 z157 z158 z159 z160 z161 z162 z163 z164 z165 z166 z167 : Value)
    (hQ : ∀ (y0 y3 y4 y6 y13 y14 y15 y16 y17 y18 y19 y20 y21 y22 y23 y24 y25 y26 y27 y28 y29 y30 y31 y32 y33 y34 y35 y36 y37 y38 y39 y40 y41 y42 y43 y44 y45 y46 y47 y48 y49 y50 y51 y52 y53 y54 y55 y56 y57 y58 y59 y60 y61 y62 y63 y64 y65 y66 y67 y68 y69 y70 y71 y72 y73 y74 y75 y76 y77 y78 y79 y80 y81 y82 y83 y84 y85 y86 y87 y88 y89 y90 y91 y92 y93 y94 y95 y96 y97 y98 y99 y100 y101 y102 y103 y104 y105 y106 y107 y108 y109 y110 y111 y112 y113 y114 y115 y116 y117 y118 y119 y120 y121 y122 y123 y124 y125 y126 y127 y128 y129 y130 y131 y132 y133 y134 y135 y136 y137 y138 y139 y140 y141 y142 y143 y144 y145 y146 y147 y148 y149 y150 y151 y152 y153 y154 y155 y156 y157 y158 y159 y160 y161 y162 y163 y164 y165 y166 y167 : Value) (l : List Nat) (W' : World), LM w0 W' b2 b5 b7 b8 b10 b11 A0 jobs.length c0 nodes (jobsE jobs.length jobs jobs.length) → Marks l w0.heap.size W' → Code.wp Try.prog sched18 Q ⟨#[y0, (.slice A1 sup.length c1), (.pointer (some ⟨b2, 0, none⟩)), y3, y4, (.pointer (some ⟨b5, 0, none⟩)), y6, (.pointer (some ⟨b7, 0, none⟩)), (.pointer (some ⟨b8, 0, none⟩)), (.int .i64 sink), (.pointer (some ⟨b10, 0, none⟩)), (.pointer (some ⟨b11, 0, none⟩)), (.int .i64 (wantE jobs jobs.length)), y13, y14, y15, y16, y17, y18, y19, y20, y21, y22, y23, y24, y25, y26, y27, y28, y29, y30, y31, y32, y33, y34, y35, y36, y37, y38, y39, y40, y41, y42, y43, y44, y45, y46, y47, y48, y49, y50, y51, y52, y53, y54, y55, y56, y57, y58, y59, y60, y61, y62, y63, y64, y65, y66, y67, y68, y69, y70, y71, y72, y73, y74, y75, y76, y77, y78, y79, y80, y81, y82, y83, y84, y85, y86, y87, y88, y89, y90, y91, y92, y93, y94, y95, y96, y97, y98, y99, y100, y101, y102, y103, y104, y105, y106, y107, y108, y109, y110, y111, y112, y113, y114, y115, y116, y117, y118, y119, y120, y121, y122, y123, y124, y125, y126, y127, y128, y129, y130, y131, y132, y133, y134, y135, y136, y137, y138, y139, y140, y141, y142, y143, y144, y145, y146, y147, y148, y149, y150, y151, y152, y153, y154, y155, y156, y157, y158, y159, y160, y161, y162, y163, y164, y165, y166, y167], l.map mark⟩ W') :
    Code.wp Try.prog sched9 Q ⟨#[z0, (.slice A1 sup.length c1), (.pointer (some ⟨b2, 0, none⟩)), z3, z4, (.pointer (some ⟨b5, 0, none⟩)), z6, (.pointer (some ⟨b7, 0, none⟩)), (.pointer (some ⟨b8, 0, none⟩)), (.int .i64 sink), (.pointer (some ⟨b10, 0, none⟩)), (.pointer (some ⟨b11, 0, none⟩)), (.int .i64 0), z13, z14, z15, z16, z17, z18, z19, z20, z21, z22, z23, z24, z25, z26, z27, z28, z29, z30, z31, z32, z33, z34, z35, z36, z37, z38, z39, z40, z41, z42, z43, z44, z45, z46, z47, z48, z49, z50, z51, z52, z53, z54, z55, z56, z57, z58, z59, z60, z61, z62, z63, z64, z65, z66, z67, z68, z69, z70, z71, z72, z73, z74, z75, z76, z77, z78, z79, z80, z81, z82, z83, z84, z85, z86, z87, z88, z89, z90, z91, z92, z93, z94, z95, z96, z97, z98, z99, z100, z101, z102, z103, z104, z105, z106, z107, z108, z109, z110, z111, z112, z113, z114, z115, z116, z117, z118, z119, z120, z121, z122, z123, z124, z125, z126, z127, z128, z129, z130, z131, z132, z133, z134, z135, z136, z137, z138, z139, z140, z141, z142, z143, z144, z145, z146, z147, z148, z149, z150, z151, z152, z153, z154, z155, z156, z157, z158, z159, z160, z161, z162, z163, z164, z165, z166, z167], []⟩ W := by
  conv => arg 2; whnf
  have hM' := Aside0.mk hM
  have hC' := Aside0.mk hC
  have hQ' := Aside0.mk hQ
  have hjob' := Aside0.mk hjob
  have q2 := blk_cell hM.m2 0
  simp at q2
  clear hM hC hQ hjob
  refine wp_seq_k (fun K1 hK1 => ?_)
  have hK1' := Aside0.mk hK1
  clear hK1
  go_wp2
  refine wp_loop_rounds (jobs.length + 1) ?_
  refine (?kk55 : ∀ (d i : Nat) (u0 u3 u4 u6 u13 u14 u15 u16 u17 u18 u19 u20 u21 u22 u23 u24 u25 u26 u27 u28 u29 u30 u31 u32 u33 u34 u35 u36 u37 u38 u39 u43 u44 u45 u46 u47 u48 u49 u50 u51 u52 u53 u54 u55 u56 u57 u58 u59 u60 u61 u62 u63 u64 u65 u66 u67 u68 u69 u70 u71 u72 u73 u74 u75 u76 u77 u78 u79 u80 u81 u82 u83 u84 u85 u86 u87 u88 u89 u90 u91 u92 u93 u94 u95 u96 u97 u98 u99 u100 u101 u102 u103 u104 u105 u106 u107 u108 u109 u110 u111 u112 u113 u114 u115 u116 u117 u118 u119 u120 u121 u122 u123 u124 u125 u126 u127 u128 u129 u130 u131 u132 u133 u134 u135 u136 u137 u138 u139 u140 u141 u142 u143 u144 u145 u146 u147 u148 u149 u150 u151 u152 u153 u154 u155 u156 u157 u158 u159 u160 u161 u162 u163 u164 u165 u166 u167 : Value) (l : List Nat) (W : World), i + d = jobs.length → LM w0 W b2 b5 b7 b8 b10 b11 A0 jobs.length c0 nodes (jobsE jobs.length jobs i) → (jobsE jobs.length jobs i).length ≤ 25 * i → 0 ≤ wantE jobs i ∧ wantE jobs i ≤ 1000 * i → Marks l w0.heap.size W → Code.rounds Try.prog ?cc55 ?qq55 (d + 1) ⟨#[u0, (.slice A1 sup.length c1), (.pointer (some ⟨b2, 0, none⟩)), u3, u4, (.pointer (some ⟨b5, 0, none⟩)), u6, (.pointer (some ⟨b7, 0, none⟩)), (.pointer (some ⟨b8, 0, none⟩)), (.int .i64 sink), (.pointer (some ⟨b10, 0, none⟩)), (.pointer (some ⟨b11, 0, none⟩)), (.int .i64 (wantE jobs i)), u13, u14, u15, u16, u17, u18, u19, u20, u21, u22, u23, u24, u25, u26, u27, u28, u29, u30, u31, u32, u33, u34, u35, u36, u37, u38, u39, (.slice A0 jobs.length c0), (.int .i64 (jobs.length : Int)), (.int .i64 (i : Int)), u43, u44, u45, u46, u47, u48, u49, u50, u51, u52, u53, u54, u55, u56, u57, u58, u59, u60, u61, u62, u63, u64, u65, u66, u67, u68, u69, u70, u71, u72, u73, u74, u75, u76, u77, u78, u79, u80, u81, u82, u83, u84, u85, u86, u87, u88, u89, u90, u91, u92, u93, u94, u95, u96, u97, u98, u99, u100, u101, u102, u103, u104, u105, u106, u107, u108, u109, u110, u111, u112, u113, u114, u115, u116, u117, u118, u119, u120, u121, u122, u123, u124, u125, u126, u127, u128, u129, u130, u131, u132, u133, u134, u135, u136, u137, u138, u139, u140, u141, u142, u143, u144, u145, u146, u147, u148, u149, u150, u151, u152, u153, u154, u155, u156, u157, u158, u159, u160, u161, u162, u163, u164, u165, u166, u167], l.map mark⟩ W) jobs.length 0 _ _ _ _ _ _ _ _ _ _ _ _ _ _ _ _ _ _ _ _ _ _ _ _ _ _ _ _ _ _ _ _ _ _ _ _ _ _ _ _ _ _ _ _ _ _ _ _ _ _ _ _ _ _ _ _ _ _ _ _ _ _ _ _ _ _ _ _ _ _ _ _ _ _ _ _ _ _ _ _ _ _ _ _ _ _ _ _ _ _ _ _ _ _ _ _ _ _ _ _ _ _ _ _ _ _ _ _ _ _ _ _ _ _ _ _ _ _ _ _ _ _ _ _ _ _ _ _ _ _ _ _ _ _ _ _ _ _ _ _ _ _ _ _ _ _ _ _ _ _ _ _ _ _ _ _ [] W (by omega) hM'.out (by simp [jobsE]) (by simp [wantE]) ⟨List.nodup_nil, fun D h => by cases h⟩
  clear hM' q2
  intro d
  induction d with
  | zero =>
    intro i u0 u3 u4 u6 u13 u14 u15 u16 u17 u18 u19 u20 u21 u22 u23 u24 u25 u26 u27 u28 u29 u30 u31 u32 u33 u34 u35 u36 u37 u38 u39 u43 u44 u45 u46 u47 u48 u49 u50 u51 u52 u53 u54 u55 u56 u57 u58 u59 u60 u61 u62 u63 u64 u65 u66 u67 u68 u69 u70 u71 u72 u73 u74 u75 u76 u77 u78 u79 u80 u81 u82 u83 u84 u85 u86 u87 u88 u89 u90 u91 u92 u93 u94 u95 u96 u97 u98 u99 u100 u101 u102 u103 u104 u105 u106 u107 u108 u109 u110 u111 u112 u113 u114 u115 u116 u117 u118 u119 u120 u121 u122 u123 u124 u125 u126 u127 u128 u129 u130 u131 u132 u133 u134 u135 u136 u137 u138 u139 u140 u141 u142 u143 u144 u145 u146 u147 u148 u149 u150 u151 u152 u153 u154 u155 u156 u157 u158 u159 u160 u161 u162 u163 u164 u165 u166 u167 l W hi hL hlen hw hm
    have hie : i = jobs.length := by omega
    subst hie
    rw [rounds_succ]
    have hL' := Aside0.mk hL
    have hm' := Aside0.mk hm
    clear hL hm
    go_wp2
    refine hK1'.out _ _ ?_
    exact hQ'.out _ _ _ _ _ _ _ _ _ _ _ _ _ _ _ _ _ _ _ _ _ _ _ _ _ _ _ _ _ _ _ _ _ _ _ _ _ _ _ _ _ _ _ _ _ _ _ _ _ _ _ _ _ _ _ _ _ _ _ _ _ _ _ _ _ _ _ _ _ _ _ _ _ _ _ _ _ _ _ _ _ _ _ _ _ _ _ _ _ _ _ _ _ _ _ _ _ _ _ _ _ _ _ _ _ _ _ _ _ _ _ _ _ _ _ _ _ _ _ _ _ _ _ _ _ _ _ _ _ _ _ _ _ _ _ _ _ _ _ _ _ _ _ _ _ _ _ _ _ _ _ _ _ _ _ _ _ _ _ l _ hL'.out hm'.out
  | succ d ih =>
    intro i u0 u3 u4 u6 u13 u14 u15 u16 u17 u18 u19 u20 u21 u22 u23 u24 u25 u26 u27 u28 u29 u30 u31 u32 u33 u34 u35 u36 u37 u38 u39 u43 u44 u45 u46 u47 u48 u49 u50 u51 u52 u53 u54 u55 u56 u57 u58 u59 u60 u61 u62 u63 u64 u65 u66 u67 u68 u69 u70 u71 u72 u73 u74 u75 u76 u77 u78 u79 u80 u81 u82 u83 u84 u85 u86 u87 u88 u89 u90 u91 u92 u93 u94 u95 u96 u97 u98 u99 u100 u101 u102 u103 u104 u105 u106 u107 u108 u109 u110 u111 u112 u113 u114 u115 u116 u117 u118 u119 u120 u121 u122 u123 u124 u125 u126 u127 u128 u129 u130 u131 u132 u133 u134 u135 u136 u137 u138 u139 u140 u141 u142 u143 u144 u145 u146 u147 u148 u149 u150 u151 u152 u153 u154 u155 u156 u157 u158 u159 u160 u161 u162 u163 u164 u165 u166 u167 l W hi hL hlen hw hm
    rw [rounds_succ]
    have ih' := Aside0.mk ih
    have hL' := Aside0.mk hL
    have hm' := Aside0.mk hm
    have hlt : i < jobs.length := by omega
    obtain ⟨ad, hA, e0, e1, e2, e3, e4⟩ := at_T38 (Kd.C_below hC'.out hL.b) (i : Int) (by omega) (by omega)
    subst hA
    simp only [Int.toNat_natCast] at e0 e1 e2 e3 e4
    have hjb := hjob'.out i hlt
    have hd0 := World.block_lt_of_cell? _ _ e0
    have hd1 := World.block_lt_of_cell? _ _ e1
    have hd2 := World.block_lt_of_cell? _ _ e2
    have hd3 := World.block_lt_of_cell? _ _ e3
    have hd4 := World.block_lt_of_cell? _ _ e4
    have hwe := Aside0.mk (show wantE jobs (i + 1) = wantE jobs i + (rd_T38 jobs (i : Int)).f2 from rfl)
    have hje := Aside0.mk (show jobsE jobs.length jobs (i + 1) = jobsE jobs.length jobs i ++ [⟨0, 1 + (i : Int), (rd_T38 jobs (i : Int)).f2⟩] ++ slotE jobs.length i (rd_T38 jobs (i : Int)) (slotList (rd_T38 jobs (i : Int)).f0 ((rd_T38 jobs (i : Int)).f1 - (rd_T38 jobs (i : Int)).f0).toNat) from rfl)
    clear ih hL hm
    generalize hj : rd_T38 jobs (i : Int) = j at *
    clear hj
    generalize hwi : wantE jobs i = wi at *
    have hwi' := Aside0.mk hwi
    clear hwi
    have hX := allocs2 W (.cells #[.int .i64 (i : Int)] 3) (.cells (jobCells j) 38)
    unfold jobCells at hX
    go_wp2
    generalize ((W.alloc (.cells #[.int .i64 (i : Int)] 3)).alloc (.cells #[.int .i64 j.f0, .int .i64 j.f1, .int .i64 j.f2, .int .i64 j.f3, .int .i64 j.f4] 38)) = X at *
    obtain ⟨hXb, x13, x14, hXs⟩ := hX
    have hLX := hL'.out.below hXb
    have hmX := Aside0.mk (marks_below hm'.out hXb)
    have q7 := blk_cell hLX.m7 0
    have q11 := blk_cell hLX.m11 0
    have q13 := blk_cell x13 0
    have q14 := blk_cell x14 2
    have q7l := blk_lt hLX.m7
    have q11l := blk_lt hLX.m11
    have q13l := blk_lt x13
    have q14l := blk_lt x14
    simp at q7 q11 q13 q14
    have hLX' := Aside0.mk hLX
    have hx13 := Aside0.mk x13
    have hx14 := Aside0.mk x14
    clear hLX x13 x14
    refine tail_wp 6 (by kernel_rfl) (by kernel_rfl) ?_
    simp only [List.take_succ_cons, List.take_zero, List.drop_succ_cons, List.drop_zero]
    repeat still_step
    still_call (s1_still X.drew (i : Int) (by omega) (by omega))
    repeat still_step
    refine wpStill_nil ?_
    go_wp2_with fail
    have hLd := hLX'.out.below (below_drew (Below.refl _ _))
    refine (hLd.push 0 (1 + (i : Int)) j.f2 (by omega)).mono ?_
    rintro e X3 ⟨rfl, hL3, hk3, hs3⟩
    obtain ⟨v10, h10, _⟩ := hLd.m10
    have x13 := kept_cells h10 hk3 _ _ _ (blk_drew hx13.out) (by decide) (by decide)
    have x14 := kept_cells h10 hk3 _ _ _ (blk_drew hx14.out) (by decide) (by decide)
    have hm3 := Aside0.mk (marks_kept (marks_below hmX.out (below_drew (Below.refl _ _))) ⟨_, _, h10⟩ hk3)
    have hk3' := Aside0.mk hk3
    have r13 := blk_cell x13 0
    have r0 := blk_cell x14 0
    have r1 := blk_cell x14 1
    have r2 := blk_cell x14 2
    have r3 := blk_cell x14 3
    have r4 := blk_cell x14 4
    simp at r13 r0 r1 r2 r3 r4
    have r14l := blk_lt x14
    have hL3' := Aside0.mk hL3
    have hx13' := Aside0.mk x13
    have hx14' := Aside0.mk x14
    clear hL3 hk3 hs3 hLd h10 x13 x14 q7 q11 q13 q14 q7l q11l q13l q14l
    have hsl := slots_calls X3 j
    unfold jobCells at hsl
    go_wp2_with fail
    refine hsl.mono ?_
    rintro e XL ⟨rfl, hXL⟩
    have hXL' := Aside0.mk hXL
    clear hXL hsl
    go_wp2_with fail
    have hBL : Below X3.heap.size X3 XL := by rw [← hXL'.out]; exact below_alloc (Below.refl _ _) _
    have hbj : XL.heap[X3.heap.size]? = some (.cells (jobCells j) 38 (0, 0)) := by rw [← hXL'.out]; exact blk_new _ _
    have hszL : XL.heap.size = X3.heap.size + 1 := by rw [← hXL'.out]; exact World.size_alloc _ _
    obtain ⟨n, hn⟩ := Int.eq_ofNat_of_zero_le (show 0 ≤ j.f1 - j.f0 by omega)
    have hnn : Aside0 ((j.f1 - j.f0).toNat = n) := ⟨by omega⟩
    have hL4 := hL3'.out.below hBL
    have hm4 := marks_below hm3.out hBL
    have hmlt : ∀ D ∈ l, D < XL.heap.size := fun D hD => blk_lt (hm4.at_ D hD).1
    have x13 := blk_below hx13'.out hBL
    have x14 := blk_below hx14'.out hBL
    have hw0 := hL4.b.size
    refine (wpIn_wide (n := 8)).1 ?_
    refine wpIn_rangeFunc_ownH (F := Fence.wide) rfl (by decide) (gf := 37) (lb := #[.pointer (some ⟨X3.heap.size, 0, none⟩)]) rfl trivial (Go.Proofs.enters_of Try.func37 (by kernel_rfl) rfl)
      (slots1_stops (8 - 1) X3.heap.size j n (by omega) (by omega) (by omega) XL hbj) (fun h k => KeepsB.trans h k) ?hKb (Below.refl _ _) (fun _ => rfl)
      (fun pre W2 => LM w0 W2 b2 b5 b7 b8 b10 b11 (some ad) jobs.length c0 nodes (jobsE jobs.length jobs i ++ [⟨0, 1 + (i : Int), j.f2⟩] ++ slotE jobs.length i j (pre.map (·.1))) ∧ (W2.heap[X3.heap.size]? = some (.cells (jobCells j) 38 (0, 0)) ∧ W2.heap[W.heap.size]? = some (.cells #[.int .i64 (i : Int)] 3 (0, 0)) ∧ W2.heap[W.heap.size + 1]? = some (.cells (jobCells j) 38 (0, 0))) ∧ Marks l w0.heap.size W2)
      (fun _ _ _ => False) ?hI (fun _ _ _ _ _ h _ _ => h) ?h0
      (fun x a' _ => ∃ (z12 z40 z41 z42 z43 z44 z45 z46 z47 z48 z49 z50 z51 z52 z53 z54 z55 z56 z57 z58 z59 : Value), a' = { tmps := #[u0, (.slice A1 sup.length c1), (.pointer (some ⟨b2, 0, none⟩)), u3, u4, (.pointer (some ⟨b5, 0, none⟩)), u6, (.pointer (some ⟨b7, 0, none⟩)), (.pointer (some ⟨b8, 0, none⟩)), (.int .i64 sink), (.pointer (some ⟨b10, 0, none⟩)), (.pointer (some ⟨b11, 0, none⟩)), z12, (.pointer (some ⟨W.heap.size, 0, none⟩)), (.pointer (some ⟨W.heap.size + 1, 0, none⟩)), (.int .i64 x.1), u16, u17, u18, u19, u20, u21, u22, u23, u24, u25, u26, u27, u28, u29, u30, u31, u32, u33, u34, u35, u36, u37, u38, u39, z40, z41, z42, z43, z44, z45, z46, z47, z48, z49, z50, z51, z52, z53, z54, z55, z56, z57, z58, z59, (.int .i64 x.1), u61, u62, u63, u64, u65, u66, u67, u68, u69, u70, u71, u72, u73, u74, u75, u76, u77, u78, u79, u80, u81, u82, u83, u84, u85, u86, u87, u88, u89, u90, u91, u92, u93, u94, u95, u96, u97, u98, u99, u100, u101, u102, u103, u104, u105, u106, u107, u108, u109, u110, u111, u112, u113, u114, u115, u116, u117, u118, u119, u120, u121, u122, u123, u124, u125, u126, u127, u128, u129, u130, u131, u132, u133, u134, u135, u136, u137, u138, u139, u140, u141, u142, u143, u144, u145, u146, u147, u148, u149, u150, u151, u152, u153, u154, u155, u156, u157, u158, u159, u160, u161, u162, u163, u164, u165, u166, u167], defers := [] }) (fun _ _ _ _ _ _ h _ _ => h) ?assign ?body ?done (fun _ _ _ _ _ _ h _ => h.elim)
    case hKb =>
      intro W2 lr o o' hlr ho hc _
      exact ⟨by simp [World.putObj], putObj_far (fun e => by omega)⟩
    case hI =>
      intro pre X Y row h hg hr
      obtain ⟨h1, ⟨h2, h3, h4⟩, h5⟩ := h
      have hkeep : ∀ (k : Nat) (cs : Array Value) (ty : TypeId), X.heap[k]? = some (Obj.cells cs ty (0, 0)) → Y.heap[k]? = some (Obj.cells cs ty (0, 0)) := fun k cs ty ho => (hg.block k (blk_lt ho) (fun e => by
        obtain ⟨_, o', ho', hc'⟩ := hr k e.symm
        rw [ho] at ho'; cases ho'; cases hc')).trans ho
      exact ⟨h1.own hw0 hg hr, ⟨hkeep _ _ _ h2, hkeep _ _ _ h3, hkeep _ _ _ h4⟩, marks_ownF h5 hmlt hg hr⟩
    case h0 => exact ⟨by simpa [slotE] using hL4, ⟨hbj, x13, x14⟩, hm4⟩
    case assign =>
      intro lp pre x W2 K hI hK
      gi_wp2
      refine hK _ _ (KeepsFrom.refl _ _) ⟨Nat.le_refl _, rfl⟩ hI ⟨_, _, _, _, _, _, _, _, _, _, _, _, _, _, _, _, _, _, _, _, _, rfl⟩
    case body =>
      intro lp pre x a' W2 hlp _ hI hA hN
      obtain ⟨z12, z40, z41, z42, z43, z44, z45, z46, z47, z48, z49, z50, z51, z52, z53, z54, z55, z56, z57, z58, z59, rfl⟩ := hA
      obtain ⟨hL, ⟨y0, y1, y2⟩, hMk⟩ := hI
      obtain ⟨xs, hx1, hx2⟩ := x
      have p7 := blk_cell hL.m7 0
      have p8 := blk_cell hL.m8 0
      have p11 := blk_cell hL.m11 0
      have p13 := blk_cell y1 0
      have p14 := blk_cell y2 3
      have p7l := blk_lt hL.m7
      have p8l := blk_lt hL.m8
      have p11l := blk_lt hL.m11
      have p13l := blk_lt y1
      have p14l := blk_lt y2
      simp [jobCells] at p7 p8 p11 p13 p14
      have hLb := Aside0.mk hL
      have hY := Aside0.mk (And.intro y0 (And.intro y1 (And.intro y2 hMk)))
      have hpre : Aside0 (pre.length ≤ 25) := ⟨by have : (n : Int) ≤ 24 := by omega
                                                  omega⟩
      clear hL y0 y1 y2 hMk hN hL4 hm4 hmlt x13 x14 e0 e1 e2 e3 e4 hd0 hd1 hd2 hd3 hd4 hje hwe hXs
      gi_wp2
      refine TailIn2.tail_in 9 (by kernel_rfl) (by kernel_rfl) (by kernel_rfl) ?_
      simp only [List.take_succ_cons, List.take_zero, List.drop_succ_cons, List.drop_zero]
      repeat still_step
      still_call (s1_still W2.drew (i : Int) (by omega) (by omega))
      repeat still_step
      still_call (s2_still W2.drew b2 (some ad) c0 jobs.length xs (by omega) (by omega) (by omega) hLb.out.m2)
      repeat still_step
      refine wpStill_nil ?_
      gi_wp2_with fail
      have hLd := hLb.out.below (below_drew (Below.refl _ _))
      have hY2 := hY.out
      refine ⟨trivial, ?_⟩
      refine (CallsIn.inRound lp (callsIn_wide.2 (hLd.push (1 + (i : Int)) (1 + (jobs.length : Int) + xs) j.f3 (by have := hpre.out; simp [slotE]; omega)))).mono ?_
      rintro e W5 ⟨rfl, hL5, hk5, _⟩
      obtain ⟨v10, h10, _⟩ := hLd.m10
      obtain ⟨y0, y1, y2, hMk⟩ := hY2
      have hKF : KeepsFrom XL.heap.size W2 W5 := ⟨hk5.1, fun k ob hk ho hc => (hk5.2 k (blk_lt ho) (fun hE => by
        rcases hE with rfl | ⟨cells, hcc⟩
        · have ho' : W2.drew.heap[k]? = some ob := ho
          rw [h10] at ho'; cases ho'; cases hc
        · have ho' : W2.drew.heap[k]? = some ob := ho
          rw [hcc] at ho'; cases ho'; cases hc)).trans ho⟩
      have z0 := kept_cells h10 hk5 _ _ _ (blk_drew y0) (by decide) (by decide)
      have z1 := kept_cells h10 hk5 _ _ _ (blk_drew y1) (by decide) (by decide)
      have z2 := kept_cells h10 hk5 _ _ _ (blk_drew y2) (by decide) (by decide)
      have hKB : KeepsB X3.heap.size W2 W5 := ⟨hk5.1, z0.trans y0.symm⟩
      have hm5 := marks_kept (marks_below hMk (below_drew (Below.refl _ _))) ⟨_, _, h10⟩ hk5
      have hfin : Aside0 (KeepsFrom XL.heap.size W2 W5 ∧ KeepsB X3.heap.size W2 W5 ∧ LM w0 W5 b2 b5 b7 b8 b10 b11 (some ad) jobs.length c0 nodes (jobsE jobs.length jobs i ++ [⟨0, 1 + (i : Int), j.f2⟩] ++ slotE jobs.length i j ((pre ++ [(⟨xs, hx1, hx2⟩ : Slot j.f0 n)]).map (·.1))) ∧ (W5.heap[X3.heap.size]? = some (.cells (jobCells j) 38 (0, 0)) ∧ W5.heap[W.heap.size]? = some (.cells #[.int .i64 (i : Int)] 3 (0, 0)) ∧ W5.heap[W.heap.size + 1]? = some (.cells (jobCells j) 38 (0, 0))) ∧ Marks l w0.heap.size W5) := by
        refine ⟨hKF, hKB, ?_, ⟨z0, z1, z2⟩, hm5⟩
        rw [List.append_assoc] at hL5
        rw [show slotE jobs.length i j ((pre ++ [(⟨xs, hx1, hx2⟩ : Slot j.f0 n)]).map (·.1)) = slotE jobs.length i j (pre.map (·.1)) ++ [⟨1 + (i : Int), 1 + (jobs.length : Int) + xs, j.f3⟩] by simp [slotE]]
        rw [← List.append_assoc]
        rw [← List.append_assoc] at hL5
        exact hL5
      clear hKF hKB z0 z1 z2 hm5 hL5 hk5 h10 hLd y0 y1 y2 hMk
      gi_wp2
      exact hfin.out
    case done =>
      intro D xs W2 hD hxs hI hDo
      obtain ⟨hL, ⟨y0, y1, y2⟩, hMk⟩ := hI
      rw [hxs] at hL
      have hL6 : Aside0 (LM w0 W2 b2 b5 b7 b8 b10 b11 (some ad) jobs.length c0 nodes (jobsE jobs.length jobs (i + 1))) := ⟨by rw [hje.out, hnn.out]; exact hL⟩
      have hM2 : Aside0 (Marks (D :: l) w0.heap.size W2) := by
        refine ⟨List.nodup_cons.2 ⟨fun h => ?_, hMk.nd⟩, fun E hE => ?_⟩
        · have := hmlt D h
          omega
        · rcases List.mem_cons.1 hE with rfl | hE
          · exact ⟨hDo, by omega⟩
          · exact hMk.at_ E hE
      have hlen2 : Aside0 ((jobsE jobs.length jobs (i + 1)).length ≤ 25 * (i + 1)) := ⟨by
        rw [hje.out, hnn.out]
        simp only [List.length_append, List.length_cons, List.length_nil, slotE, List.length_map, slotList_length]
        have : (n : Int) ≤ 24 := by omega
        omega⟩
      have hw2 : Aside0 (0 ≤ wantE jobs (i + 1) ∧ wantE jobs (i + 1) ≤ 1000 * ((i + 1 : Nat) : Int)) := ⟨by rw [hwe.out]; omega⟩
      clear hL hMk hDo y0 y1 y2 hxs hL4 hm4 hmlt x13 x14 e0 e1 e2 e3 e4 hd0 hd1 hd2 hd3 hd4 hje hXs
      go_wp2
      rw [← hwe.out, show (i : Int) + 1 = ((i + 1 : Nat) : Int) by omega]
      exact ih'.out (i + 1) _ _ _ _ _ _ _ _ _ _ _ _ _ _ _ _ _ _ _ _ _ _ _ _ _ _ _ _ _ _ _ _ _ _ _ _ _ _ _ _ _ _ _ _ _ _ _ _ _ _ _ _ _ _ _ _ _ _ _ _ _ _ _ _ _ _ _ _ _ _ _ _ _ _ _ _ _ _ _ _ _ _ _ _ _ _ _ _ _ _ _ _ _ _ _ _ _ _ _ _ _ _ _ _ _ _ _ _ _ _ _ _ _ _ _ _ _ _ _ _ _ _ _ _ _ _ _ _ _ _ _ _ _ _ _ _ _ _ _ _ _ _ _ _ _ _ _ _ _ _ _ _ _ _ _ _ (D :: l) W2 (by omega) hL6.out hlen2.out hw2.out hM2.out
end Go.Proofs.Ytioglahnliajlaa.Pr
