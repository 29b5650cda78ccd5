import Derived.Test.YtioglahnliajlaaFlowMem
import Derived.LoopN
set_option linter.unusedVariables false
set_option linter.unusedSimpArgs false
/-! The search. -/
namespace Go.Proofs.Ytioglahnliajlaa.Pr
open Go.RowKit Go.Proofs.YtioglahnliajlaaW.PrintWords Go.Proofs.YtioglahnliajlaaW.PrintLast Go.Proofs.YtioglahnliajlaaW.PrintMore

attribute [local go_sem] Oper.semAt_some

theorem steps_calls (W : World) (bw : Nat) (n : Int) : Calls Try.prog 48 #[.pointer (some ⟨bw, 0, none⟩), .int .i64 n] W fun e W' =>
    e = .returned (.func (.func 54) #[] #[.pointer (some ⟨W.heap.size, 0, none⟩), .pointer (some ⟨W.heap.size + 1, 0, none⟩)]) ∧
      (W.alloc (.cells #[.pointer (some ⟨bw, 0, none⟩)] 66)).alloc (.cells #[.int .i64 n] 3) = W' := by
  go_enter Try.func48, Try.ntmps48
  go_wp2
  go_ret
  exact ⟨rfl, rfl⟩

theorem allocs4 (W : World) (o0 o1 o2 o3 : Obj) : Below W.heap.size W ((((W.alloc o0).alloc o1).alloc o2).alloc o3) ∧
    ((((W.alloc o0).alloc o1).alloc o2).alloc o3).heap[W.heap.size]? = some o0 ∧ ((((W.alloc o0).alloc o1).alloc o2).alloc o3).heap[W.heap.size + 1]? = some o1 ∧
    ((((W.alloc o0).alloc o1).alloc o2).alloc o3).heap[W.heap.size + 1 + 1]? = some o2 ∧ ((((W.alloc o0).alloc o1).alloc o2).alloc o3).heap[W.heap.size + 1 + 1 + 1]? = some o3 ∧
    ((((W.alloc o0).alloc o1).alloc o2).alloc o3).heap.size = W.heap.size + 1 + 1 + 1 + 1 := by
  have s1 : (W.alloc o0).heap.size = W.heap.size + 1 := World.size_alloc _ _
  have s2 : ((W.alloc o0).alloc o1).heap.size = W.heap.size + 1 + 1 := by rw [World.size_alloc, s1]
  have s3 : (((W.alloc o0).alloc o1).alloc o2).heap.size = W.heap.size + 1 + 1 + 1 := by rw [World.size_alloc, s2]
  have b0 := blk_new W o0
  have b1 := blk_new (W.alloc o0) o1
  have b2 := blk_new ((W.alloc o0).alloc o1) o2
  have b3 := blk_new (((W.alloc o0).alloc o1).alloc o2) o3
  rw [s1] at b1; rw [s2] at b2; rw [s3] at b3
  exact ⟨below_alloc (below_alloc (below_alloc (below_alloc (Below.refl _ _) _) _) _) _, blk_alloc (blk_alloc (blk_alloc b0 _) _) _, blk_alloc (blk_alloc b1 _) _, blk_alloc b2 _, b3, by rw [World.size_alloc, s3]⟩

/-- The marks that loops over an iterator have left. -/
def mark (D : Nat) : Deferred := { target := .collected D, args := #[] }
structure Marks (l : List Nat) (lo : Nat) (w : World) : Prop where
  nd : l.Nodup
  at_ : ∀ D ∈ l, w.heap[D]? = some (.deferred (some [])) ∧ lo ≤ D

theorem marks_own {β : Type} {l : List Nat} {lo B : Nat} {w : World} (_ : Marks l lo w) (hB : ∀ D ∈ l, D < B) : OwnFrom B (fun (_ : β) W => Marks l lo W) := by
  intro _ X Y row h hg hr
  refine ⟨h.nd, fun D hD => ⟨(hg.block D (blk_lt (h.at_ D hD).1) (fun e => ?_)).trans (h.at_ D hD).1, (h.at_ D hD).2⟩⟩
  have := (hr D e.symm).1
  have := hB D hD
  omega

/-- Between two rounds of the inner loop, some steps having been met; and where a round has found the sink. -/
def SI (nodes : Nat) (W0 : World) (bk g1 bs gm bb bq cap1 : Nat) (ok : Nat → Prop) (sink : Int) (l : List Nat) (st : FlowM.St) (b : Bool) (lo : Nat) (steps : List FlowM.Step) (W : World) : Prop :=
  SMem nodes W bk g1 bs gm bb bq cap1 ok sink (metAll sink steps st).1 ∧ (metAll sink steps st).2 = b ∧ Below W0.heap.size W0 W ∧ Marks l (bk + 1) W ∧ lo ≤ W.heap.size

theorem SI_own {α : Type} {nodes : Nat} {W0 : World} {bk g1 bs gm bb bq cap1 : Nat} {ok : Nat → Prop} {sink : Int} {l : List Nat} {st : FlowM.St} {b : Bool} {lo B sz : Nat} {w : World} (_ : Marks l lo w) (hq : bq < B) (hB : ∀ D ∈ l, D < B) (h0 : W0.heap.size ≤ B) (f : List α → List FlowM.Step) :
    OwnFrom B (fun (pre : List α) W => SI nodes W0 bk g1 bs gm bb bq cap1 ok sink l st b sz (f pre) W) := by
  intro pre X Y row h hg hr
  refine ⟨SMem.own hq _ X Y row h.1 hg hr, h.2.1, ownFrom_below (β := Unit) (Nat.le_refl _) h0 () X Y row h.2.2.1 hg hr, ?_, Nat.le_trans h.2.2.2.2 hg.size⟩
  refine ⟨h.2.2.2.1.nd, fun D hD => ⟨(hg.block D (blk_lt (h.2.2.2.1.at_ D hD).1) (fun e => ?_)).trans (h.2.2.2.1.at_ D hD).1, (h.2.2.2.1.at_ D hD).2⟩⟩
  have := (hr D e.symm).1
  have := hB D hD
  omega

theorem leave_marks {n : Nat} {P : Program} {fn : Func} {tmps : Array Value} {R : Ending → World → Prop} {v : Value} (hres : ∀ w, (results fn tmps).run P w = .ok v w) :
    ∀ (l : List Nat) (lo : Nat) (w : World), Marks l lo w → (∀ w', (∀ k, k ∉ l → w'.heap[k]? = w.heap[k]?) → w'.heap.size = w.heap.size → w'.os = w.os → w'.tape = w.tape → w'.output = w.output → R (.returned v) w') →
    LeavesInM Fence.wide n P fn tmps R (l.map mark) .returning w
  | [], _, w, _, h => ⟨_, hres w, h w (fun _ _ => rfl) rfl rfl rfl rfl⟩
  | D :: l, lo, w, hm, h => by
    obtain ⟨hd, hl⟩ := List.nodup_cons.1 hm.nd
    have hD := (hm.at_ D (by simp)).1
    refine ⟨by simp, .inl ⟨D, _, rfl, run_takeDeferred hD, ?_⟩⟩
    refine leave_marks hres l lo _ ⟨hl, fun E hE => ?_⟩ (fun w' h1 h2 h3 h4 h5 => ?_)
    · have := hm.at_ E (by simp [hE])
      exact ⟨(putObj_far (fun e => hd (by rw [← e]; exact hE))).trans this.1, this.2⟩
    · refine h w' (fun k hk => ?_) (h2.trans (by simp [World.putObj])) h3 h4 h5
      have hk1 : k ≠ D := fun e => hk (by simp [e])
      have hk2 : k ∉ l := fun e => hk (by simp [e])
      exact (h1 k hk2).trans (putObj_far hk1)

/-- What holds at the head of the search's loop. -/
def Head (nodes : Nat) (W0 : World) (bw bk g1 bs gm bb bq cap1 : Nat) (source sink : Int) (st : FlowM.St) (a : Act) (w : World) : Prop :=
  ∃ (l : List Nat) (v11 v12 u13 u14 u15 u16 u17 u18 u19 u20 u21 u22 u23 u24 u25 u26 u27 u28 u29 u30 u31 u32 u33 u34 u35 u36 u37 u38 u39 u40 u41 u42 u43 u44 u45 u46 u47 u48 u49 u50 u51 u52 u53 u54 u55 u56 u57 u58 u59 u60 : Value), a = { tmps := #[(.pointer (some ⟨bw, 0, none⟩)), (.int .i64 source), (.int .i64 sink), undef, undef, (.pointer (some ⟨bk, 0, none⟩)), (.map none), (.slice none 0 0), (.pointer (some ⟨bs, 0, none⟩)), (.pointer (some ⟨bb, 0, none⟩)), (.pointer (some ⟨bq, 0, none⟩)), v11, v12, u13, u14, u15, u16, u17, u18, u19, u20, u21, u22, u23, u24, u25, u26, u27, u28, u29, u30, u31, u32, u33, u34, u35, u36, u37, u38, u39, u40, u41, u42, u43, u44, u45, u46, u47, u48, u49, u50, u51, u52, u53, u54, u55, u56, u57, u58, u59, u60], defers := l.map mark } ∧ Marks l (bk + 1) w ∧ Below W0.heap.size W0 w ∧ W0.heap.size = bk ∧
    ((st.q = [] ∧ v11 = .int .i64 0 ∧ v12 = .bool false ∧ SMem nodes w bk g1 bs gm bb bq cap1 (fun k => k ≠ bq) sink st) ∨
     ∃ n q', st.q = n :: q' ∧ v11 = .int .i64 n ∧ v12 = .bool true ∧ SMem nodes w bk g1 bs gm bb bq cap1 (fun k => k ≠ bq) sink { st with q := q' })

theorem boolinfo : (Try.prog.info? 4).map (fun i => (i.zero, i.size, i.bytes)) = some (some (.bool false), 1, 1) := by kernel_rfl

set_option maxRecDepth 100000 in
theorem search_calls (W : World) (bw base : Nat) (nodes : Nat) (A : Option Addr) (c : Nat) (es : List S49) (vf : Value) (fl : List Int) (source sink : Int) (k : Nat) (st : FlowM.St)
    (hw : Graph0 W bw (nodes : Int) A c es vf) (hf : Kd.R (Kd.int .i64) 3 W base (fun _ => True) vf fl) (hl : fl.length = es.length) (hn : nodes ≤ 64) (hs0 : 0 ≤ source) (hs1 : source < nodes)
    (hcap : ∀ i : Nat, i < es.length → 0 ≤ rd fl (i : Int) ∧ rd fl (i : Int) ≤ 1000000 ∧ 0 ≤ (rd_T49 es (i : Int)).f2 ∧ (rd_T49 es (i : Int)).f2 ≤ 1000000)
    (hle : es.length ≤ 1000000) (hto : ∀ u i t, FlowM.offer (esOf es) fl u i = some t → 0 ≤ t.to ∧ t.to < nodes) (hb : FlowM.bfs (esOf es) fl sink k (FlowM.start nodes source) = some st) :
    Calls Try.prog 39 #[.pointer (some ⟨bw, 0, none⟩), .int .i64 source, .int .i64 sink] W fun e W' =>
      ∃ (gm : Nat) (vs : Value), e = .returned (.tuple #[.map (some gm), vs]) ∧ MapIs W' gm (byL st.by_) ∧ W.heap.size ≤ gm ∧ Kd.R Kd.bool 4 W' W.heap.size (fun _ => True) vs st.seen ∧ Below W.heap.size W W' := by
  have hw' := Aside0.mk hw
  have hf' := Aside0.mk hf
  have hb' := Aside0.mk hb
  obtain ⟨c0, c1, c2, hbw⟩ := hw.cells
  obtain ⟨s, rfl⟩ := Int.eq_ofNat_of_zero_le hs0
  have hs : s < nodes := by omega
  have hmm := @run_makeMap Try.prog
  have hcap' := Aside0.mk hcap
  have hto' := Aside0.mk hto
  clear hw hf hb hcap hto
  refine callsIn_wide (n := 0).1 ?_
  refine callsIn_of_wp_marks Try.func39 rfl trivial ?_ rfl
  refine wpIn_wide.2 ?_
  simp only [Try.ntmps39, List.size_toArray, List.length_cons, List.length_nil, Nat.reduceAdd, Nat.reduceSub, Array.replicate_succ, Array.replicate_zero, List.push_toArray, List.append_toArray, List.nil_append, List.cons_append]
  go_wp2
  go_step3
  go_wp2_with (at_make; refine Kd.R_make (w0 := W.alloc (.cells #[.int .i64 sink] 3)) Kd.bool (W.heap.size + 1) 4 rfl rfl 54 _ _ rfl (nodes : Int) rfl rfl Try.underlying54 (.bool false) 1 boolinfo rfl (by decide) (by decide) false (ok := fun _ => True) (okp := fun _ => True) rfl (fun _ h => h) trivial (by omega) (by omega) (Below.refl _ _) (by simp) ?_; intro v1 w1 hR hB hg1 hnew; obtain ⟨g1, cap1, rfl, hgb, hgl, _⟩ := Kd.R_form hR (by simp; omega); obtain ⟨hcs, hfs⟩ := Kd.R_celln false hR (s : Int) (by omega) (by simp; omega); have hR' := Aside0.mk hR; have hB1 := Aside0.mk hB; have hg1' := Aside0.mk hg1; clear hnew hR hB hg1; simp only [Int.toNat_natCast, List.length_replicate] at hcs hfs ⊢)
  have hdef : FlowM.start nodes (s : Int) = { seen := (List.replicate nodes false).set s true, by_ := [], q := [(s : Int)] } := by simp [FlowM.start]
  have k1 : w1.heap[W.heap.size]? = some (.cells #[.int .i64 sink] 3 (0, 0)) := (hg1'.out.block _ (by simp) (by simp)).trans (blk_new W _)
  have hR0 := hR'.out
  simp only [Int.toNat_natCast, List.length_replicate] at hR0
  have hR1 := Kd.R_putg (n := nodes) hR0 (s : Int) true
  simp only [Int.toNat_natCast] at hR1
  have hB1s : Below (W.heap.size + 1) (W.alloc (.cells #[.int .i64 sink] 3)) (w1.setCell ⟨g1, s, none⟩ (.bool true)) := ((Below.refl _ _).grown hg1'.out (by simp) (by simp)).setCell (by show _ ≤ g1; omega) _
  have k1s : (w1.setCell ⟨g1, s, none⟩ (.bool true)).heap[W.heap.size]? = some (.cells #[.int .i64 sink] 3 (0, 0)) := (Below.heap_setCell _ _ _ _ (by show W.heap.size ≠ g1; omega)).trans k1
  have s1s : (w1.setCell ⟨g1, s, none⟩ (.bool true)).heap.size = w1.heap.size := by simp [World.setCell]
  have h4 := allocs4 (w1.setCell ⟨g1, s, none⟩ (.bool true)) (.cells #[.slice (some ⟨g1, 0, none⟩) nodes cap1] 54) (.map #[] 0) (.cells #[.map (some (w1.heap.size + 1))] 69) (.cells #[.slice none 0 0] 79)
  rw [s1s] at h4
  generalize (((((w1.setCell ⟨g1, s, none⟩ (.bool true)).alloc (.cells #[.slice (some ⟨g1, 0, none⟩) nodes cap1] 54)).alloc (.map #[] 0)).alloc (.cells #[.map (some (w1.heap.size + 1))] 69)).alloc (.cells #[.slice none 0 0] 79)) = X at h4 ⊢
  obtain ⟨hX, x0, x1, x2, x3, hXs⟩ := h4
  refine (q_put X (w1.heap.size + 1 + 1 + 1) (w1.heap.size + 1 + 1 + 1 + 1) (fun k => k ≠ w1.heap.size + 1 + 1 + 1) _ [] (s : Int) x3 (fun k h => h) (fun k h => by omega) (Kd.Q_nil _ _ _ _ _) (by omega) (by simp)).mono ?_
  rintro e X2 ⟨rfl, v2, hq2, hQ2, hK2, hBe2⟩
  have kp2 : ∀ k o, X.heap[k]? = some o → k ≠ w1.heap.size + 1 + 1 + 1 → X2.heap[k]? = some o := fun k o ho hk => (hK2.2 k (blk_lt ho) (fun e => e.elim hk (fun h => by simp [Value.ownBlock] at h))).trans ho
  have hXb : Below (w1.setCell ⟨g1, s, none⟩ (.bool true)).heap.size (w1.setCell ⟨g1, s, none⟩ (.bool true)) X := by rw [s1s]; exact hX
  have hSM : SMem nodes X2 W.heap.size g1 w1.heap.size (w1.heap.size + 1) (w1.heap.size + 1 + 1) (w1.heap.size + 1 + 1 + 1) cap1 (fun k => k ≠ w1.heap.size + 1 + 1 + 1) sink (FlowM.start nodes (s : Int)) := by
    rw [hdef]
    refine ⟨⟨by omega, hgl, by omega, by omega, by omega⟩, kp2 _ _ (blk_below k1s hXb) (by have := blk_lt k1; omega), kp2 _ _ x0 (by omega), kp2 _ _ x2 (by omega), by simp, ?_, ⟨#[], 0, kp2 _ _ x1 (by omega), rfl⟩, ⟨v2, hq2, hQ2⟩, ?_, ?_⟩
    · have h1 := Kd.R_below hR1.1 hXb
      refine Kd.R_mono (Kd.R_step (Kd.R_tight rfl h1) (fun k hk hl => ?_)) (fun _ _ => trivial)
      have hk1 : k = g1 := by simpa [Value.ownBlock] using hk
      exact hK2.2 k hl (fun e => e.elim (fun h => by omega) (fun h => by simp [Value.ownBlock] at h))
    · intro p hp; cases hp
    · have := count_set' (List.replicate nodes false) s (by simpa using hs) (by rw [List.getD_eq_getElem?_getD, List.getElem?_replicate]; split <;> rfl)
      simp at this ⊢; omega
  have hBW : Below W.heap.size W X2 := by
    have h1 : Below W.heap.size W (w1.setCell ⟨g1, s, none⟩ (.bool true)) := (below_alloc (Below.refl _ _) _).trans (hB1s.mono (by omega))
    exact (h1.trans (hXb.mono (by have := h1.size; omega))).trans (hBe2 W.heap.size (by omega) (by omega))
  have hSM' := Aside0.mk hSM
  have hBW' := Aside0.mk hBW
  clear hSM hBW hB1s hXb kp2 hq2 hQ2 hK2 hBe2 k1 k1s hR0 hR1 hX x0 x1 x2 x3 hXs hcs hfs hg1' hR' hB1 hdef s1s
  go_wp2_with fail
  go_step3
  go_wp2_with fail
  refine (take_some hSM'.out hn (fun k h => h) (s : Int) [] (by simp [FlowM.start])).mono ?_
  rintro e X3 ⟨rfl, hS3, hK3, hB3⟩
  have hS3' := Aside0.mk hS3
  have hB3' := Aside0.mk hB3
  clear hS3 hK3 hB3
  go_wp2_with fail
  refine wp_loop_rounds k ?_
  have hst0 : FlowM.start nodes (s : Int) = { FlowM.start nodes (s : Int) with q := (s : Int) :: [] } := by simp [FlowM.start]
  have hBX3 : Below W.heap.size W X3 := hBW'.out.trans (hB3'.out.mono (by omega))
  refine (?kk77 : ∀ (k : Nat) (st0 : FlowM.St) (a : Act) (w : World), FlowM.bfs (esOf es) fl sink k st0 = some st →
    Head nodes W bw W.heap.size g1 w1.heap.size (w1.heap.size + 1) (w1.heap.size + 1 + 1) (w1.heap.size + 1 + 1 + 1) cap1 (s : Int) sink st0 a w → Code.rounds Try.prog ?cc77 ?qq77 k a w) k (FlowM.start nodes (s : Int)) _ X3 hb'.out ?hd77
  case hd77 => exact ⟨[], _, _, _, _, _, _, _, _, _, _, _, _, _, _, _, _, _, _, _, _, _, _, _, _, _, _, _, _, _, _, _, _, _, _, _, _, _, _, _, _, _, _, _, _, _, _, _, _, _, _, rfl, ⟨List.nodup_nil, fun D h => by cases h⟩, hBX3, rfl, .inr ⟨(s : Int), [], by simp [FlowM.start], rfl, rfl, hS3'.out⟩⟩
  clear hst0 hBX3 hS3' hB3' hSM' hBW' X3 X2 hb'
  have fin : Aside0 (∀ (l : List Nat) (w : World) (nq : Nat), Marks l (W.heap.size + 1) w → SMem nodes w W.heap.size g1 w1.heap.size (w1.heap.size + 1) (w1.heap.size + 1 + 1) (w1.heap.size + 1 + 1 + 1) cap1 (fun k => k ≠ w1.heap.size + 1 + 1 + 1) sink st → Below W.heap.size W w →
      ∀ w', (∀ k, k ∉ l → w'.heap[k]? = (w.drewN nq).heap[k]?) → w'.heap.size = (w.drewN nq).heap.size → w'.os = (w.drewN nq).os → w'.tape = (w.drewN nq).tape → w'.output = (w.drewN nq).output →
      ∃ (gm : Nat) (vs : Value), Ending.returned (.tuple #[.map (some (w1.heap.size + 1)), .slice (some ⟨g1, 0, none⟩) nodes cap1]) = .returned (.tuple #[.map (some gm), vs]) ∧ MapIs w' gm (byL st.by_) ∧ W.heap.size ≤ gm ∧
        Kd.R Kd.bool 4 w' W.heap.size (fun _ => True) vs st.seen ∧ Below W.heap.size W w') := ⟨by
    intro l w nq hM hS hB w' h1 h2 h3 h4 h5
    have hne : ∀ k o, w.heap[k]? = some o → (∀ ds, o ≠ Obj.deferred ds) → w'.heap[k]? = some o := fun k o ho hd => (h1 k (fun hk => hd _ (by
      have := (hM.at_ k hk).1
      rw [ho] at this
      exact Option.some.inj this))).trans ho
    obtain ⟨es0, clock, m1, m2⟩ := hS.m
    refine ⟨_, _, rfl, ⟨es0, clock, hne _ _ m1 (by simp), m2⟩, by have := hS.order; omega, ?_, ?_⟩
    · refine Kd.R_lower (Kd.R_mono (Kd.R_move (Kd.R_bound hS.r) (fun k hk => ?_)) (fun _ _ => trivial)) (by omega)
      obtain ⟨_, _, _, q, _, cells, hc⟩ := hk
      rw [hc]; exact hne _ _ hc (by simp)
    · refine hB.trans ⟨h3, h4, h5, by rw [h2]; exact Nat.le_refl _, fun k hk => ?_⟩
      refine h1 k (fun hkl => ?_)
      have := (hM.at_ k hkl).2
      omega⟩
  intro k
  induction k with
  | zero => intro st0 a w hb _; simp [FlowM.bfs] at hb
  | succ k ih =>
    intro st0 a w hb hH
    obtain ⟨l, v11, v12, u13, u14, u15, u16, u17, u18, u19, u20, u21, u22, u23, u24, u25, u26, u27, u28, u29, u30, u31, u32, u33, u34, u35, u36, u37, u38, u39, u40, u41, u42, u43, u44, u45, u46, u47, u48, u49, u50, u51, u52, u53, u54, u55, u56, u57, u58, u59, u60, rfl, hM, hB, _, hH⟩ := hH
    rw [rounds_succ]
    have ih' := Aside0.mk ih
    have hM' := Aside0.mk hM
    have hB' := Aside0.mk hB
    have hb' := Aside0.mk hb
    clear ih hM hB hb
    rcases hH with ⟨hq, rfl, rfl, hS⟩ | ⟨n, q', hq, rfl, rfl, hS⟩
    · have hst : st0 = st := by
        have := hb'.out
        simp only [FlowM.bfs, hq] at this
        exact Option.some.inj this
      subst hst
      have hS' := Aside0.mk hS
      have sc := blk_cell hS.s 0
      have bc := blk_cell hS.b 0
      simp at sc bc
      clear hS hq hb'
      go_wp2
      go_quiet (fail)
      go_wp2
      rw [Exit.noGoto_ret]
      refine leave_marks (fun w' => results_tmp2 rfl _ _ w') l (W.heap.size + 1) _ ⟨hM'.out.nd, hM'.out.at_⟩ ?_
      exact fin.out _ _ _ hM'.out hS'.out hB'.out
    · obtain ⟨o1, o2, o3, o4, o5⟩ := hS.order
      have hq' := Aside0.mk hq
      have hS1 := Aside0.mk hS
      have hwlt := hS.lt
      clear hq hS
      go_wp2_with fail
      refine (steps_calls w bw n).mono ?_
      rintro e wL ⟨rfl, hwL⟩
      have hwL' := Aside0.mk hwL
      clear hwL
      go_wp2_with fail
      have hBL : Below w.heap.size w wL := by rw [← hwL'.out]; exact below_alloc (below_alloc (Below.refl _ _) _) _
      have p1 : wL.heap[w.heap.size]? = some (.cells #[.pointer (some ⟨bw, 0, none⟩)] 66 (0, 0)) := by rw [← hwL'.out]; exact blk_alloc (blk_new w _) _
      have p2 : wL.heap[w.heap.size + 1]? = some (.cells #[.int .i64 n] 3 (0, 0)) := by
        rw [← hwL'.out]
        have := blk_new (w.alloc (.cells #[.pointer (some ⟨bw, 0, none⟩)] 66)) (.cells #[.int .i64 n] 3)
        rwa [World.size_alloc] at this
      have hszL : wL.heap.size = w.heap.size + 2 := by rw [← hwL'.out, World.size_alloc, World.size_alloc]
      have hWw := hB'.out
      have hgw : Graph0 wL bw nodes A c es vf := ⟨blk_below (blk_below hw'.out.blk hWw) hBL, Kd.C_below (Kd.C_below hw'.out.row hWw) hBL⟩
      have hfw : Kd.R (Kd.int .i64) 3 wL base (fun _ => True) vf fl := Kd.R_below (Kd.R_below hf'.out hWw) hBL
      have hsteps : StepsMem wL w.heap.size (w.heap.size + 1) bw base nodes A c es vf fl n := ⟨p1, p2, hgw, hfw⟩
      have hvlt : ∀ k, some k = vf.ownBlock → k < W.heap.size := fun k e => (Kd.R_bound hf'.out).1 k e.symm |>.2.2.1
      have hAlt : 0 < es.length → ∀ ad, A = some ad → ad.block < W.heap.size := fun h0 ad he => Kd.C_lt (he ▸ hw'.out.row) h0 (by decide)
      have hbwlt := blk_lt hw'.out.blk
      have hWwsz := hWw.size
      have hRlt : ∀ k, Reads w.heap.size (w.heap.size + 1) bw A es vf k → k = w.heap.size ∨ k = w.heap.size + 1 ∨ k < W.heap.size := by
        rintro k (h | h | h | h | ⟨h0, ad, he, h⟩)
        · exact .inl h
        · exact .inr (.inl h)
        · exact .inr (.inr (by omega))
        · exact .inr (.inr (hvlt k h))
        · exact .inr (.inr (by have := hAlt h0 ad he; omega))
      have hS2 : SMem nodes wL W.heap.size g1 w1.heap.size (w1.heap.size + 1) (w1.heap.size + 1 + 1) (w1.heap.size + 1 + 1 + 1) cap1 (fun k => k ≠ w1.heap.size + 1 + 1 + 1 ∧ k ≠ w.heap.size ∧ k ≠ w.heap.size + 1) sink { st0 with q := q' } :=
        (hS1.out.mono (fun k hk h => ⟨h, by omega, by omega⟩)).below hBL
      refine (wpIn_wide (n := 8)).1 ?_
      refine wpIn_rangeFunc_ownH (F := Fence.wide) rfl (by decide) (gf := 54) (lb := #[.pointer (some ⟨w.heap.size, 0, none⟩), .pointer (some ⟨w.heap.size + 1, 0, none⟩)]) rfl trivial (Go.Proofs.enters_of Try.func54 (by kernel_rfl) rfl)
        (steps1_stops (8 - 1) w.heap.size (w.heap.size + 1) bw base nodes A c es vf fl n hl hcap'.out hle wL hsteps) (fun h k => KeepsR.trans h k) ?hKb (Below.refl _ _) (fun _ => rfl)
        (fun pre W2 => SI nodes W W.heap.size g1 w1.heap.size (w1.heap.size + 1) (w1.heap.size + 1 + 1) (w1.heap.size + 1 + 1 + 1) cap1 (fun k => k ≠ w1.heap.size + 1 + 1 + 1 ∧ k ≠ w.heap.size ∧ k ≠ w.heap.size + 1) sink l { st0 with q := q' } false wL.heap.size (pre.map (·.1)) W2)
        (fun cd pre W2 => cd = Code.exit 0 ∧ SI nodes W W.heap.size g1 w1.heap.size (w1.heap.size + 1) (w1.heap.size + 1 + 1) (w1.heap.size + 1 + 1 + 1) cap1 (fun k => k ≠ w1.heap.size + 1 + 1 + 1 ∧ k ≠ w.heap.size ∧ k ≠ w.heap.size + 1) sink l { st0 with q := q' } true wL.heap.size (pre.map (·.1)) W2)
        ?hI ?hIx ?h0 (fun x a' W2 => ∃ (Bx : Nat) (z0 z1 z2 z3 z4 z6 z7 z11 z12 z14 z15 z16 z17 z18 z19 z20 z21 z22 z23 z24 z25 z26 z27 z28 z29 z30 z31 z32 z33 z34 z35 z36 z37 z38 z39 z40 z41 z42 z43 z44 z45 z46 z47 z48 z49 z50 z51 z52 z53 z54 z55 z56 z57 z58 z59 z60 : Value), w1.heap.size + 1 + 1 + 1 < Bx ∧ W2.heap[Bx]? = some (.cells #[.int .i64 (x.1.edge : Int), .bool x.1.back, .int .i64 x.1.to, .int .i64 x.1.room] 87 (0, 0)) ∧
          (∃ v, W2.heap[w1.heap.size + 1 + 1 + 1]? = some (.cells #[v] 79 (0, 0)) ∧ some Bx ≠ v.ownBlock) ∧ a' = { tmps := #[z0, z1, z2, z3, z4, (.pointer (some ⟨W.heap.size, 0, none⟩)), z6, z7, (.pointer (some ⟨w1.heap.size, 0, none⟩)), (.pointer (some ⟨w1.heap.size + 1 + 1, 0, none⟩)), (.pointer (some ⟨w1.heap.size + 1 + 1 + 1, 0, none⟩)), z11, z12, (.pointer (some ⟨Bx, 0, none⟩)), z14, z15, z16, z17, z18, z19, z20, z21, z22, z23, z24, z25, z26, z27, z28, z29, z30, z31, z32, z33, z34, z35, z36, z37, z38, z39, z40, z41, z42, z43, z44, z45, z46, z47, z48, z49, z50, z51, z52, z53, z54, z55, z56, z57, z58, z59, z60], defers := [] }) ?hAx ?assign ?body ?done ?stop
      case hKb =>
        intro W2 lr o o' hlr ho hc _
        refine ⟨by simp [World.putObj], fun k hk hr => putObj_far (fun e => ?_)⟩
        rcases hRlt k hr with h | h | h <;> omega
      case hI =>
        exact SI_own hM'.out (by omega) (fun D hD => by have := blk_lt (hM'.out.at_ D hD).1; omega) (by omega) _
      case hIx =>
        exact fun cd => OwnFrom.and (ownFrom_pure _ _) (SI_own hM'.out (by omega) (fun D hD => by have := blk_lt (hM'.out.at_ D hD).1; omega) (by omega) _)
      case h0 => exact ⟨hS2, rfl, hWw.trans (hBL.mono hWwsz), ⟨hM'.out.nd, fun D hD => ⟨blk_below (hM'.out.at_ D hD).1 hBL, (hM'.out.at_ D hD).2⟩⟩, Nat.le_refl _⟩
      case hAx =>
        intro x a' _ X Y row h hg hr
        obtain ⟨Bx, z0, z1, z2, z3, z4, z6, z7, z11, z12, z14, z15, z16, z17, z18, z19, z20, z21, z22, z23, z24, z25, z26, z27, z28, z29, z30, z31, z32, z33, z34, z35, z36, z37, z38, z39, z40, z41, z42, z43, z44, z45, z46, z47, z48, z49, z50, z51, z52, z53, z54, z55, z56, z57, z58, z59, z60, h1, h2, ⟨v, h3, h4⟩, h5⟩ := h
        have hkeep : ∀ (k : Nat) (cs : Array Value) (ty : TypeId), X.heap[k]? = some (Obj.cells cs ty (0, 0)) → Y.heap[k]? = some (Obj.cells cs ty (0, 0)) := fun k cs ty ho => (hg.block k (blk_lt ho) (fun e => by
          obtain ⟨_, o', ho', hc'⟩ := hr k e.symm
          rw [ho] at ho'; cases ho'; cases hc')).trans ho
        exact ⟨Bx, z0, z1, z2, z3, z4, z6, z7, z11, z12, z14, z15, z16, z17, z18, z19, z20, z21, z22, z23, z24, z25, z26, z27, z28, z29, z30, z31, z32, z33, z34, z35, z36, z37, z38, z39, z40, z41, z42, z43, z44, z45, z46, z47, z48, z49, z50, z51, z52, z53, z54, z55, z56, z57, z58, z59, z60, h1, hkeep _ _ _ h2, ⟨v, hkeep _ _ _ h3, h4⟩, h5⟩
      case assign =>
        intro lp pre x W2 K hI hK
        simp only [valS]
        gi_wp2
        have hKW := (Below.refl W2.heap.size W2).alloc (Nat.le_refl _) (.cells #[.int .i64 (x.1.edge : Int), .bool x.1.back, .int .i64 x.1.to, .int .i64 x.1.room] 87)
        obtain ⟨v, hv1, hv2⟩ := hI.1.q
        have hvl := Kd.Q_lt hv2
        have hbqlt := blk_lt hv1
        refine hK _ _ ((KeepsOthers.alloc _ _).from _) (KeepsR.below hKW) ⟨hI.1.below hKW, hI.2.1, hI.2.2.1.trans (hKW.mono (by have := hI.2.2.1.size; omega)), ⟨hI.2.2.2.1.nd, fun D hD => ⟨blk_below (hI.2.2.2.1.at_ D hD).1 hKW, (hI.2.2.2.1.at_ D hD).2⟩⟩, Nat.le_trans hI.2.2.2.2 hKW.size⟩ ?_
        exact ⟨W2.heap.size, _, _, _, _, _, _, _, _, _, _, _, _, _, _, _, _, _, _, _, _, _, _, _, _, _, _, _, _, _, _, _, _, _, _, _, _, _, _, _, _, _, _, _, _, _, _, _, _, _, _, _, _, _, _, _, _, hbqlt, blk_new _ _, ⟨v, blk_below hv1 hKW, fun e => by have := hvl _ e.symm; omega⟩, rfl⟩
      case body =>
        intro lp pre x a' W2 hlp _ hI hA _
        obtain ⟨Bx, z0, z1, z2, z3, z4, z6, z7, z11, z12, z14, z15, z16, z17, z18, z19, z20, z21, z22, z23, z24, z25, z26, z27, z28, z29, z30, z31, z32, z33, z34, z35, z36, z37, z38, z39, z40, z41, z42, z43, z44, z45, z46, z47, z48, z49, z50, z51, z52, z53, z54, z55, z56, z57, z58, z59, z60, h1, h2, ⟨v, h3, h4⟩, rfl⟩ := hA
        obtain ⟨⟨edge, back, tt, room⟩, hoff⟩ := x
        obtain ⟨t0, t1⟩ := hto'.out n edge _ hoff
        simp only at h2 t0 t1
        obtain ⟨m, rfl⟩ := Int.eq_ofNat_of_zero_le t0
        have hsn := metAll_snoc (sink := sink) (pre.map (·.1)) ⟨edge, back, (m : Int), room⟩ { st0 with q := q' } hI.2.1
        obtain ⟨hS, hfl, hBW2, hMk, hszW2⟩ := hI
        obtain ⟨st2, hst2⟩ : ∃ st2, st2 = (metAll sink (pre.map (·.1)) { st0 with q := q' }).1 := ⟨_, rfl⟩
        rw [← hst2] at hsn hS
        have k1 := blk_cell hS.s 0
        have k2 := blk_cell h2 2
        have k3 := blk_lt hS.s
        have k4 := blk_lt h2
        simp at k1 k2
        have hlen := hS.len
        obtain ⟨k5, k6⟩ := Kd.R_celln false hS.r (m : Int) (by omega) (by omega)
        simp only [Int.toNat_natCast] at k5 k6
        have hmn : m < nodes := by omega
        have hS' := Aside0.mk hS
        have h2' := Aside0.mk h2
        have hsn' := Aside0.mk hsn
        have hst2' := Aside0.mk hst2
        have hMk' := Aside0.mk hMk
        have hlen' := Aside0.mk hlen
        clear hS h2 hsn hst2 hMk hfl hlen
        by_cases hsee : FlowM.sees st2.seen (m : Int) = true
        · have hrd : rdOf false st2.seen (m : Int) = true := hsee
          rw [hrd] at k5
          have hsee' := Aside0.mk hsee
          have hgoal : Aside0 (SI nodes W W.heap.size g1 w1.heap.size (w1.heap.size + 1) (w1.heap.size + 1 + 1) (w1.heap.size + 1 + 1 + 1) cap1 (fun k => k ≠ w1.heap.size + 1 + 1 + 1 ∧ k ≠ w.heap.size ∧ k ≠ w.heap.size + 1) sink l { st0 with q := q' } false wL.heap.size ((pre ++ [(⟨⟨edge, back, (m : Int), room⟩, hoff⟩ : Off es fl n)]).map (·.1)) W2) := ⟨by
            unfold SI
            rw [List.map_append, List.map_cons, List.map_nil, hsn'.out, meet_seen hsee'.out]
            exact ⟨hS'.out, rfl, hBW2, hMk'.out, hszW2⟩⟩
          clear hsee hrd
          gi_wp2
          exact ⟨KeepsFrom.refl _ _, KeepsR.below (Below.refl _ _), hgoal.out⟩
        · have hns : FlowM.sees st2.seen (m : Int) = false := by simpa using hsee
          have hrd : rdOf false st2.seen (m : Int) = false := hns
          rw [hrd] at k5
          have hns' := Aside0.mk hns
          obtain ⟨es0, clock, mm1, mm2⟩ := hS'.out.m
          have hm1 : MapIs (W2.setCell ⟨g1, m, none⟩ (.bool true)) (w1.heap.size + 1) (byL st2.by_) := ⟨es0, clock, (Below.heap_setCell W2 _ _ _ (by show w1.heap.size + 1 ≠ g1; omega)).trans mm1, mm2⟩
          obtain ⟨ob, hrun, hm2⟩ := run_update_new Try.underlying69 Try.underlying3 hm1 (v := (m : Int)) (valS ⟨edge, back, (m : Int), room⟩) (fun p hp => by
            obtain ⟨p0, hp0, rfl⟩ := List.mem_map.1 hp
            intro e
            have := (hS'.out.keys p0 hp0).1
            rw [show p0.1 = (m : Int) from e, hns] at this
            cases this)
          obtain ⟨vq, q1, q2, q3, q4, q5, q6, q7, q8⟩ := SMem.met hS'.out hn ⟨edge, back, (m : Int), room⟩ t0 t1 hns ob (by simpa using hm2)
          simp only [Int.toNat_natCast] at q1 q2 q4 q5 q6 q8
          have hvq : vq = v := by
            have e1 := (q5.2 (w1.heap.size + 1 + 1 + 1) (blk_lt h3) (by omega)).trans h3
            rw [q1] at e1
            simpa using e1
          subst hvq
          have d1 := blk_cell (blk_far (p := ⟨g1, m, none⟩) h2'.out (by show Bx ≠ g1; omega) (.bool true))
          have e0 := d1 0
          have e1 := d1 1
          have e2 := d1 2
          have e3 := d1 3
          have c9 := blk_cell (blk_far (p := ⟨g1, m, none⟩) hS'.out.b (by show w1.heap.size + 1 + 1 ≠ g1; omega) (.bool true)) 0
          simp at e0 e1 e2 e3 c9
          simp only [valS] at hrun
          have hBx2 : (((W2.setCell ⟨g1, m, none⟩ (.bool true)).putObj (w1.heap.size + 1) ob)).heap[Bx]? = some (.cells #[.int .i64 (edge : Int), .bool back, .int .i64 (m : Int), .int .i64 room] 87 (0, 0)) := (q5.2 Bx k4 (by omega)).trans h2'.out
          have dd := blk_cell hBx2 2
          simp at dd
          have hF := Aside0.mk (And.intro q1 (And.intro q2 (And.intro q3 (And.intro q4 (And.intro q5 (And.intro q6 (And.intro q7 (And.intro q8 (And.intro h3 (And.intro h4 hBx2))))))))))
          clear hns hsee hrd mm1 mm2 hm1 hm2 q1 q2 q3 q4 q5 q6 q7 q8 h3 h4 hBx2 d1
          gi_wp2_with fail
          obtain ⟨q1, q2, q3, q4, q5, q6, q7, q8, h3, h4, hBx2⟩ := hF.out
          refine ⟨trivial, ?_⟩
          refine (CallsIn.inRound lp (callsIn_wide.2 (q_put _ (w1.heap.size + 1 + 1 + 1) (w1.heap.size + 1 + 1 + 1 + 1) (fun k => k ≠ w1.heap.size + 1 + 1 + 1 ∧ k ≠ w.heap.size ∧ k ≠ w.heap.size + 1) vq st2.q (m : Int) q1 (fun k h => h.1) (fun k h => ⟨by omega, by have := q5.1; omega, by have := q5.1; omega⟩) q2 q4 q3))).mono ?_
          rintro e W3 ⟨rfl, v', p3, p4, p5, p6⟩
          have hS3 := q8 W3 v' p3 p4 p5
          have hkept : Kept W2 W3 (fun k => k = g1 ∨ k = w1.heap.size + 1 ∨ k = w1.heap.size + 1 + 1 + 1 ∨ some k = vq.ownBlock) :=
            (q5.mono (fun k h => by omega)).then_ p5 (fun k h => .inl (.inr (.inr h)))
          have hvty := Kd.Q_typed q2
          have hvty2 : ∀ k, some k = vq.ownBlock → ∃ cells, W2.heap[k]? = some (.cells cells 3 (0, 0)) := fun k hk => by
            obtain ⟨cells, hc⟩ := hvty k hk.symm
            have := q7 k hk
            exact ⟨cells, (q5.2 k this.2.2 (by omega)).symm.trans hc⟩
          have hncell : ∀ (k : Nat) (ob' : Obj), k ≠ w1.heap.size + 1 → W2.heap[k]? = some ob' → ob'.isCells = false → W3.heap[k]? = some ob' := by
            intro k ob' hk ho hc
            refine (hkept.2 k (blk_lt ho) ?_).trans ho
            rintro (h | h | h | h)
            · obtain ⟨cells, hcg⟩ := Kd.R_typed hS'.out.r g1 (by simp [Value.ownBlock])
              rw [h, hcg] at ho; cases ho; cases hc
            · exact hk h
            · rw [h, h3] at ho; cases ho; cases hc
            · obtain ⟨cells, hcg⟩ := hvty2 k h
              rw [hcg] at ho; cases ho; cases hc
          have hKF : KeepsFrom wL.heap.size W2 W3 := ⟨hkept.1, fun k ob' hk ho hc => hncell k ob' (by omega) ho hc⟩
          have hKR : KeepsR (Reads w.heap.size (w.heap.size + 1) bw A es vf) W2 W3 := by
            refine ⟨hkept.1, fun k hk hr => hkept.2 k hk ?_⟩
            have h1 := hRlt k hr
            rintro (h | h | h | h)
            · omega
            · omega
            · omega
            · obtain ⟨a1, ⟨_, a2, a3⟩, _⟩ := q7 k h
              rcases h1 with h1 | h1 | h1
              · exact a2 h1
              · exact a3 h1
              · omega
          have hB3 : Below W.heap.size W W3 := hBW2.trans ((q6.mono (by omega)).trans (p6 _ (by omega) (by omega)))
          have hM3 : Marks l (W.heap.size + 1) W3 := ⟨hMk'.out.nd, fun D hD => by
            obtain ⟨a, b⟩ := hMk'.out.at_ D hD
            refine ⟨hncell D _ ?_ a rfl, b⟩
            intro e
            obtain ⟨es0, clock, mm1, _⟩ := hS'.out.m
            rw [e, mm1] at a; cases a⟩
          have hBx3 : W3.heap[Bx]? = some (.cells #[.int .i64 (edge : Int), .bool back, .int .i64 (m : Int), .int .i64 room] 87 (0, 0)) := by
            refine (hkept.2 Bx k4 ?_).trans h2'.out
            rintro (h | h | h | h)
            · omega
            · omega
            · omega
            · exact h4 h
          have f1 := blk_cell hBx3 2
          have f2 := blk_cell hS3.k 0
          simp at f1 f2
          have hgoal : ∀ b, decide ((m : Int) = sink) = b → SI nodes W W.heap.size g1 w1.heap.size (w1.heap.size + 1) (w1.heap.size + 1 + 1) (w1.heap.size + 1 + 1 + 1) cap1 (fun k => k ≠ w1.heap.size + 1 + 1 + 1 ∧ k ≠ w.heap.size ∧ k ≠ w.heap.size + 1) sink l { st0 with q := q' } b wL.heap.size ((pre ++ [(⟨⟨edge, back, (m : Int), room⟩, hoff⟩ : Off es fl n)]).map (·.1)) W3 := by
            intro b hb
            unfold SI
            rw [List.map_append, List.map_cons, List.map_nil, hsn'.out, meet_new hns'.out]
            exact ⟨by simpa using hS3, hb, hB3, hM3, Nat.le_trans hszW2 hkept.1⟩
          have hgoal' := Aside0.mk hgoal
          have hKF' := Aside0.mk hKF
          have hKR' := Aside0.mk hKR
          clear hgoal hKF hKR hB3 hM3 hBx3 hncell hvty hvty2 hkept hS3 p3 p4 p5 p6 q1 q2 q3 q4 q5 q6 q7 q8 h3 h4 hBx2 hF e0 e1 e2 e3 c9 dd hrun k1 k2 k5 k6
          by_cases hms : (m : Int) = sink
          · have hb : ((m : Int) == sink) = true := by simpa using hms
            have hd := Aside0.mk (hgoal'.out true (by simpa using hms))
            clear hms
            gi_wp2
            exact ⟨hKF'.out, rfl, hd.out⟩
          · have hb : ((m : Int) == sink) = false := by simpa using hms
            have hd := Aside0.mk (hgoal'.out false (by simpa using hms))
            clear hms
            gi_wp2
            exact ⟨hKF'.out, hKR'.out, hd.out⟩
      case done =>
        rintro D xs W2 hD hxs ⟨hS, hfl, hBW2, hMk, hszW2⟩ hDh
        rw [show xs.map (·.1) = offersTo (esOf es) fl n es.length from hxs] at hS hfl
        have hb2 := hb'.out
        have hel : (esOf es).length = es.length := by simp [esOf]
        simp only [FlowM.bfs, hq'.out] at hb2
        rw [scan_offers, hel, if_neg (by rw [hfl]; decide)] at hb2
        generalize (metAll sink (offersTo (esOf es) fl n es.length) { st0 with q := q' }).1 = st1 at hb2 hS
        have hS2' : SMem nodes W2 W.heap.size g1 w1.heap.size (w1.heap.size + 1) (w1.heap.size + 1 + 1) (w1.heap.size + 1 + 1 + 1) cap1 (fun k => k ≠ w1.heap.size + 1 + 1 + 1) sink st1 := hS.mono (fun k _ h => h.1)
        have hM2 : Marks (D :: l) (W.heap.size + 1) W2 := by
          refine ⟨List.nodup_cons.2 ⟨fun h => ?_, hMk.nd⟩, fun E hE => ?_⟩
          · have := blk_lt (hM'.out.at_ D h).1
            omega
          · rcases List.mem_cons.1 hE with rfl | hE
            · exact ⟨hDh, by omega⟩
            · exact hMk.at_ E hE
        have hb2' := Aside0.mk hb2
        have hSa := Aside0.mk hS2'
        have hMa := Aside0.mk hM2
        have hBa := Aside0.mk hBW2
        clear hb2 hS2' hM2 hBW2 hS hfl hMk hDh hxs hb' hsteps hfw hgw p1 p2 hS2 hBL hWw hvlt hAlt hRlt
        go_wp2_with fail
        cases hst1 : st1.q with
        | nil =>
          have hst1' := Aside0.mk hst1
          clear hst1
          refine (take_none hSa.out hst1'.out).mono ?_
          rintro e W3 ⟨rfl, rfl⟩
          go_wp2
          exact ih'.out st1 _ _ hb2'.out ⟨D :: l, _, _, _, _, _, _, _, _, _, _, _, _, _, _, _, _, _, _, _, _, _, _, _, _, _, _, _, _, _, _, _, _, _, _, _, _, _, _, _, _, _, _, _, _, _, _, _, _, _, _, rfl, hMa.out, hBa.out, rfl, .inl ⟨hst1'.out, rfl, rfl, hSa.out⟩⟩
        | cons n2 q2 =>
          have hst1' := Aside0.mk hst1
          clear hst1
          refine (take_some hSa.out hn (fun k h => h) n2 q2 hst1'.out).mono ?_
          rintro e W3 ⟨rfl, hS3, hK3, hB3⟩
          have hM3 : Marks (D :: l) (W.heap.size + 1) W3 := ⟨hMa.out.nd, fun E hE => by
            obtain ⟨a, b⟩ := hMa.out.at_ E hE
            refine ⟨(hK3.2 E (blk_lt a) (fun e => ?_)).trans a, b⟩
            obtain ⟨v, hv, _⟩ := hSa.out.q
            rw [e, hv] at a; cases a⟩
          have hS3' := Aside0.mk hS3
          have hM3' := Aside0.mk hM3
          have hB3' := Aside0.mk (hBa.out.trans (hB3.mono (by omega)))
          clear hS3 hM3 hB3 hK3
          go_wp2
          exact ih'.out st1 _ _ hb2'.out ⟨D :: l, _, _, _, _, _, _, _, _, _, _, _, _, _, _, _, _, _, _, _, _, _, _, _, _, _, _, _, _, _, _, _, _, _, _, _, _, _, _, _, _, _, _, _, _, _, _, _, _, _, _, rfl, hM3'.out, hB3'.out, rfl, .inr ⟨n2, q2, hst1'.out, rfl, rfl, hS3'.out⟩⟩
      case stop =>
        rintro D cd pre W2 hD hpre ⟨rfl, hS, hfl, hBW2, hMk, hszW2⟩ hDh
        have hb2 := hb'.out
        have hel : (esOf es).length = es.length := by simp [esOf]
        obtain ⟨rest, hrest⟩ := hpre
        simp only [FlowM.bfs, hq'.out] at hb2
        rw [scan_offers, hel, ← hrest, metAll_prefix _ _ _ hfl, if_pos hfl] at hb2
        have hst := Option.some.inj hb2
        rw [hst] at hS
        have hS2' : SMem nodes W2 W.heap.size g1 w1.heap.size (w1.heap.size + 1) (w1.heap.size + 1 + 1) (w1.heap.size + 1 + 1 + 1) cap1 (fun k => k ≠ w1.heap.size + 1 + 1 + 1) sink st := hS.mono (fun k _ h => h.1)
        have hM2 : Marks (D :: l) (W.heap.size + 1) W2 := by
          refine ⟨List.nodup_cons.2 ⟨fun h => ?_, hMk.nd⟩, fun E hE => ?_⟩
          · have := blk_lt (hM'.out.at_ D h).1
            omega
          · rcases List.mem_cons.1 hE with rfl | hE
            · exact ⟨hDh, by omega⟩
            · exact hMk.at_ E hE
        have hSa := Aside0.mk hS2'
        have hMa := Aside0.mk hM2
        have hBa := Aside0.mk hBW2
        have sc := blk_cell hS2'.s 0
        have bc := blk_cell hS2'.b 0
        simp at sc bc
        clear hb2 hS2' hM2 hBW2 hS hfl hMk hDh hrest hb' hsteps hfw hgw p1 p2 hS2 hBL hWw hvlt hAlt hRlt hst
        refine wpIn_wide.2 ?_
        go_wp2
        go_quiet (fail)
        go_wp2
        rw [Exit.noGoto_ret]
        refine leave_marks (fun w' => results_tmp2 rfl _ _ w') (D :: l) (W.heap.size + 1) _ ⟨hMa.out.nd, hMa.out.at_⟩ ?_
        exact fin.out _ _ _ hMa.out hSa.out hBa.out
end Go.Proofs.Ytioglahnliajlaa.Pr
