import Derived.Test.YtioglahnliajlaaGFlowA
import Derived.Test.YtioglahnliajlaaFlowSearchW
import Derived.Test.YtioglahnliajlaaFlowPushW
import Derived.StillTailTactics
import Derived.LoopN
import Derived.Test.YtioglahnliajlaaGTh
set_option linter.unusedVariables false
set_option linter.unusedSimpArgs false
/-! Most's contract. -/
namespace Go.Proofs.Ytioglahnliajlaa.Pr
open Go.RowKit Go.Proofs.YtioglahnliajlaaW.PrintWords Go.Proofs.YtioglahnliajlaaW.PrintLast Go.Proofs.YtioglahnliajlaaW.PrintMore
open Go.Proofs.Ytioglahnliajlaa.FlowTheory

theorem most_no (a0_0 : Int) (A0_1 : Option Addr) (c0_1 : Nat) (l0_1 : List S49) (a1 a2 : Int) (w : World) (hr0_1 : Kd.C k49 w A0_1 l0_1.length l0_1) (hc0_1 : l0_1.length ≤ c0_1) (h : ¬ endsOk a0_0 l0_1 a1 a2) :
    Calls Try.prog 26 #[.agg #[.int .i64 a0_0, .slice A0_1 l0_1.length c0_1], .int .i64 a1, .int .i64 a2] w fun e w' =>
      e = .returned (.tuple #[.int .i64 0, .slice none 0 0, .slice none 0 0, .int .i64 1]) ∧ Below w.heap.size w w' := by
  have hr := Aside0.mk hr0_1
  have hd := Aside0.mk (show flow_areEnds.f 600 a0_0 l0_1 a1 a2 = some false by rw [areEnds_f _ _ _ _ 600 (by omega), decide_eq_false h])
  clear hr0_1 h
  go_enter Try.func26, Try.ntmps26
  go_wp2_with fail
  refine (flow_areEnds.calls 600 a0_0 A0_1 c0_1 l0_1 a1 a2 false _ (Kd.C_alloc hr.out _) hc0_1 hd.out).mono ?_
  rintro e w1 ⟨rfl, hb⟩
  have hb' := Aside0.mk hb
  clear hb
  go_wp2
  exact bodyPost_ret (v := .tuple #[.int .i64 0, .slice none 0 0, .slice none 0 0, .int .i64 1]) (by simp [results, Try.results26, go_sem]) rfl ⟨rfl, (below_alloc (Below.refl _ _) _).trans (hb'.out.mono (by simp))⟩

theorem intinfo : (Try.prog.info? 3).map (fun i => (i.zero, i.size, i.bytes)) = some (some (.int .i64 0), 1, 8) := by kernel_rfl

/-- What holds at the head of Most's loop. -/
def MostHead (w : World) (bw : Nat) (a0_0 : Int) (A0_1 : Option Addr) (c0_1 : Nat) (l0_1 : List S49) (a1 a2 : Int) (vf : Value) (fl : List Int) (a : Int) (act : Act) (W : World) : Prop :=
  (∃ (u12 u13 u14 u15 u16 u17 u18 u19 u20 u21 u22 u23 u24 u25 u26 u27 u28 u29 u30 u31 u32 u33 u34 u35 u36 u37 u38 u39 u40 u41 u42 u43 u44 u45 u46 u47 u48 u49 u50 : Value), act = { tmps := #[.agg #[.int .i64 a0_0, .slice A0_1 l0_1.length c0_1], .int .i64 a1, .int .i64 a2, .pointer (some ⟨w.heap.size, 0, none⟩), undef, undef, .int .i64 0, .slice none 0 0, .slice none 0 0, .int .i64 0, .pointer (some ⟨bw, 0, none⟩), .int .i64 a, u12, u13, u14, u15, u16, u17, u18, u19, u20, u21, u22, u23, u24, u25, u26, u27, u28, u29, u30, u31, u32, u33, u34, u35, u36, u37, u38, u39, u40, u41, u42, u43, u44, u45, u46, u47, u48, u49, u50], defers := [] }) ∧ Graph0 W bw a0_0 A0_1 c0_1 l0_1 vf ∧ Kd.R (Kd.int .i64) 3 W w.heap.size (fun _ => True) vf fl ∧ Below w.heap.size w W

theorem most_cell {fl : List Int} {es : List FlowM.E} {nodes : Nat} {s t : Int} (ok : FlowM.Ok nodes es) (_ : fl.length = es.length) (hf : IsFlow es.length nodes (FlowM.frF es) (FlowM.toF es) (FlowM.capF es) s t (FlowM.flF fl)) (i : Nat) (hi : i < es.length) : 0 ≤ rd fl (i : Int) ∧ rd fl (i : Int) ≤ 1000000 := by
  have a := hf.lo i hi
  have b := hf.hi i hi
  have c := (ok.cap i hi).2
  unfold FlowM.flF at a b
  simp only [rd, Int.toNat_natCast]
  omega

theorem room_small (p : List FlowM.Step) : FlowM.roomOf p ≤ 1000000 := room_le p

set_option maxRecDepth 100000 in
theorem most_yes (a0_0 : Int) (A0_1 : Option Addr) (c0_1 : Nat) (l0_1 : List S49) (a1 a2 : Int) (w : World) (hr0_1 : Kd.C k49 w A0_1 l0_1.length l0_1) (hc0_1 : l0_1.length ≤ c0_1) (h : endsOk a0_0 l0_1 a1 a2)
    (n : Int) (fl' : List Int) (S : List Bool) (hm : FlowM.most a0_0.toNat (esOf l0_1) a1 a2 (FlowM.fuel (esOf l0_1)) (List.replicate l0_1.length 0) 0 = some (n, fl', S)) :
    Calls Try.prog 26 #[.agg #[.int .i64 a0_0, .slice A0_1 l0_1.length c0_1], .int .i64 a1, .int .i64 a2] w fun e w' =>
      ∃ v1_ v2_ : Value, e = .returned (.tuple #[.int .i64 n, v1_, v2_, .int .i64 0]) ∧ Kd.R (Kd.int .i64) 3 w' w.heap.size (fun _ => True) v1_ fl' ∧ Kd.R Kd.bool 4 w' w.heap.size (fun _ => True) v2_ S ∧ Below w.heap.size w w' := by
  have hr := Aside0.mk hr0_1
  have hd := Aside0.mk (show flow_areEnds.f 600 a0_0 l0_1 a1 a2 = some true by rw [areEnds_f _ _ _ _ 600 (by omega), decide_eq_true h])
  have hok := Aside0.mk h
  have hm' := Aside0.mk hm
  obtain ⟨⟨⟨n1, n2, hlen⟩, _⟩, ⟨s0, s1⟩, ⟨t0, t1⟩, hst⟩ := h
  clear hr0_1 hm
  go_enter Try.func26, Try.ntmps26
  go_wp2_with fail
  refine (flow_areEnds.calls 600 a0_0 A0_1 c0_1 l0_1 a1 a2 true _ (Kd.C_alloc hr.out _) hc0_1 hd.out).mono ?_
  rintro e w1 ⟨rfl, hb⟩
  have hg1 := blk_below (blk_new w (.cells #[.int .i64 a0_0, .slice A0_1 l0_1.length c0_1] 47)) hb
  have gc0 := blk_cell hg1 0
  have gc1 := blk_cell hg1 1
  have gl := blk_lt hg1
  simp at gc0 gc1
  have hB := Aside0.mk ((below_alloc (Below.refl w.heap.size w) (.cells #[.int .i64 a0_0, .slice A0_1 l0_1.length c0_1] 47)).trans (hb.mono (by simp)))
  clear hb hg1
  go_wp2_with fail
  have hmk := print_make_of 23 3 (.int .i64 0) 8 Try.underlying23 intinfo rfl (by decide) l0_1.length (by omega)
  go_region
  go_wp2_with fail
  have hG0 := blk_new w1 (.cells (madeCells #[.int .i64 0] l0_1.length) 3)
  have hGs : (w1.alloc (.cells (madeCells #[.int .i64 0] l0_1.length) 3)).heap.size = w1.heap.size + 1 := World.size_alloc _ _
  have hB' : Below w.heap.size w (((w1.alloc (.cells (madeCells #[.int .i64 0] l0_1.length) 3)).alloc (.cells #[.int .i64 a0_0, .slice A0_1 l0_1.length c0_1, .slice (some ⟨w1.heap.size, 0, none⟩) l0_1.length l0_1.length] 68))) := below_alloc (below_alloc hB.out _) _
  have hgr : Graph0 (((w1.alloc (.cells (madeCells #[.int .i64 0] l0_1.length) 3)).alloc (.cells #[.int .i64 a0_0, .slice A0_1 l0_1.length c0_1, .slice (some ⟨w1.heap.size, 0, none⟩) l0_1.length l0_1.length] 68))) (w1.heap.size + 1) a0_0 A0_1 c0_1 l0_1 (.slice (some ⟨w1.heap.size, 0, none⟩) l0_1.length l0_1.length) := by
    refine ⟨?_, Kd.C_below hr.out hB'⟩
    have := blk_new (w1.alloc (.cells (madeCells #[.int .i64 0] l0_1.length) 3)) (.cells #[.int .i64 a0_0, .slice A0_1 l0_1.length c0_1, .slice (some ⟨w1.heap.size, 0, none⟩) l0_1.length l0_1.length] 68)
    rwa [hGs] at this
  have hR0 : Kd.R (Kd.int .i64) 3 (((w1.alloc (.cells (madeCells #[.int .i64 0] l0_1.length) 3)).alloc (.cells #[.int .i64 a0_0, .slice A0_1 l0_1.length c0_1, .slice (some ⟨w1.heap.size, 0, none⟩) l0_1.length l0_1.length] 68))) w.heap.size (fun _ => True) (.slice (some ⟨w1.heap.size, 0, none⟩) l0_1.length l0_1.length) (List.replicate l0_1.length 0) := by
    refine Kd.R_below ?_ (below_alloc (Below.refl _ _) _)
    exact Kd.R_of_own (own_made_of' w1 w.heap.size 3 l0_1.length (by omega) (by omega)) (fun _ _ => trivial)
  generalize hWd : ((w1.alloc (.cells (madeCells #[.int .i64 0] l0_1.length) 3)).alloc (.cells #[.int .i64 a0_0, .slice A0_1 l0_1.length c0_1, .slice (some ⟨w1.heap.size, 0, none⟩) l0_1.length l0_1.length] 68)) = W at hgr hR0 hB' ⊢
  have hgr' : Graph0 W.drew (w1.heap.size + 1) a0_0 A0_1 c0_1 l0_1 (.slice (some ⟨w1.heap.size, 0, none⟩) l0_1.length l0_1.length) := ⟨hgr.blk, Kd.C_below hgr.row (below_drew (Below.refl _ _))⟩
  have hR0' := Kd.R_below hR0 (below_drew (Below.refl _ _))
  have hBd := below_drew hB'
  generalize W.drew = W0 at hgr' hR0' hBd ⊢
  obtain ⟨nn, rfl⟩ : ∃ nn : Nat, a0_0 = nn := ⟨a0_0.toNat, by omega⟩
  have hok1 := ok_of hok.out.1
  simp only [Int.toNat_natCast] at hok1 hm'
  have hlen1 : (esOf l0_1).length = l0_1.length := by simp [esOf]
  obtain ⟨z1, z2⟩ := FlowM.zero_flow hok1 a1 a2
  rw [hlen1] at z1 z2
  refine wp_loop_rounds (FlowM.fuel (esOf l0_1)) ?_
  generalize hfuel : FlowM.fuel (esOf l0_1) = k at hm' ⊢
  refine (?kk91 : ∀ (k : Nat) (fl : List Int) (a : Int) (act : Act) (W : World), FlowM.most nn (esOf l0_1) a1 a2 k fl a = some (n, fl', S) → fl.length = l0_1.length →
    IsFlow (esOf l0_1).length nn (FlowM.frF (esOf l0_1)) (FlowM.toF (esOf l0_1)) (FlowM.capF (esOf l0_1)) a1 a2 (FlowM.flF fl) → net (esOf l0_1).length (FlowM.frF (esOf l0_1)) (FlowM.toF (esOf l0_1)) (FlowM.flF fl) a1 = a → 0 ≤ a →
    MostHead w (w1.heap.size + 1) (nn : Int) A0_1 c0_1 l0_1 a1 a2 (.slice (some ⟨w1.heap.size, 0, none⟩) l0_1.length l0_1.length) fl a act W → Code.rounds Try.prog ?cc91 ?qq91 k act W) k (List.replicate l0_1.length 0) 0 _ W0 hm'.out (by simp) (by rw [hlen1]; exact z1) (by rw [hlen1]; exact z2) (by omega) ?hd91
  case hd91 => exact ⟨⟨_, _, _, _, _, _, _, _, _, _, _, _, _, _, _, _, _, _, _, _, _, _, _, _, _, _, _, _, _, _, _, _, _, _, _, _, _, _, _, rfl⟩, hgr', hR0', hBd⟩
  clear hgr' hR0' hBd hm' hR0 hgr hB' hG0 hGs z1 z2 hfuel W0
  intro k
  induction k with
  | zero => intro fl a act W hm; simp [FlowM.most] at hm
  | succ k ih =>
    intro fl a act W hm hl hf ha ha0 hH
    obtain ⟨⟨u12, u13, u14, u15, u16, u17, u18, u19, u20, u21, u22, u23, u24, u25, u26, u27, u28, u29, u30, u31, u32, u33, u34, u35, u36, u37, u38, u39, u40, u41, u42, u43, u44, u45, u46, u47, u48, u49, u50, rfl⟩, hg, hR, hBW⟩ := hH
    rw [rounds_succ]
    have hab : a ≤ 512000000 := by
      have h1 := FlowM.amount_le hok1 s0 (by omega) hst hf
      have h2 := FlowM.capSum_le hok1 (by omega)
      omega
    obtain ⟨st, hbfs, hRd⟩ := FlowM.round_ok hok1 s0 (by omega) t0 (by omega) hst fl (by omega) hf
    have ih' := Aside0.mk ih
    have hg' := Aside0.mk hg
    have hR' := Aside0.mk hR
    have hB' := Aside0.mk hBW
    have hRd' := Aside0.mk hRd
    have hm' := Aside0.mk hm
    have hf' := Aside0.mk hf
    have ha' := Aside0.mk ha
    have hbfs' := Aside0.mk hbfs
    have hok2 := Aside0.mk hok1
    have hcap : ∀ i : Nat, i < l0_1.length → 0 ≤ rd fl (i : Int) ∧ rd fl (i : Int) ≤ 1000000 ∧ 0 ≤ (rd_T49 l0_1 (i : Int)).f2 ∧ (rd_T49 l0_1 (i : Int)).f2 ≤ 1000000 := by
      intro i hi
      obtain ⟨b1, b2⟩ := most_cell hok1 (by omega) hf i (by omega)
      have b3 := hok.out.1.2 _ (rd_mem l0_1 i hi)
      exact ⟨b1, b2, b3.2.2.1, b3.2.2.2⟩
    have hsc := search_calls W (w1.heap.size + 1) w.heap.size nn A0_1 c0_1 l0_1 _ fl a1 a2 (nn + 1) st hg hR (by omega) (by omega) s0 (by omega) hcap (by omega) (fun u i t ht => by have := FlowM.offer_range hok1 ht; omega) hbfs
    have hsc' := Aside0.mk hsc
    clear hsc hcap ih hg hR hBW hRd hm hf ha hbfs hok1
    go_wp2_with fail
    refine (hsc'.out).mono ?_
    rintro e w2 ⟨gm, vs, rfl, hmap, hgm, hRs, hB2⟩
    have hsl := hRd'.out.seen
    obtain ⟨gs, cs, rfl, hsb, hsl2, _⟩ := Kd.R_form hRs (by rw [hsl]; omega)
    obtain ⟨hcs, hfs⟩ := Kd.R_celln false hRs a2 t0 (by rw [hsl]; omega)
    have hsee : FlowM.sees st.seen a2 = rdOf false st.seen a2 := rfl
    rw [← hsee] at hcs
    have hmap' := Aside0.mk hmap
    have hRs' := Aside0.mk hRs
    have hB2' := Aside0.mk hB2
    clear hmap hRs hB2
    cases hsv : FlowM.sees st.seen a2 with
    | false =>
      rw [hsv] at hcs
      have hmo := hm'.out
      simp only [FlowM.most] at hmo
      rw [hbfs'.out] at hmo
      simp only [hsv, Bool.false_eq_true, if_false, Option.some.injEq, Prod.mk.injEq] at hmo
      obtain ⟨rfl, rfl, rfl⟩ := hmo
      have hbw2 := blk_below hg'.out.blk hB2'.out
      have cw := blk_cell hbw2 2
      simp at cw
      have hfin : Aside0 (Kd.R (Kd.int .i64) 3 w2 w.heap.size (fun _ => True) (.slice (some ⟨w1.heap.size, 0, none⟩) l0_1.length l0_1.length) fl ∧ Kd.R Kd.bool 4 w2 w.heap.size (fun _ => True) (.slice (some ⟨gs, 0, none⟩) st.seen.length cs) st.seen ∧ Below w.heap.size w w2) := ⟨Kd.R_below hR'.out hB2'.out, Kd.R_lower hRs'.out hB'.out.size, hB'.out.trans (hB2'.out.mono hB'.out.size)⟩
      clear hbw2
      have hsl3 := hRs'.out
      clear hRs' hsee hsv
      simp only [hsl] at hfin hcs hfs
      go_wp2_with fail
      go_quiet (fail)
      go_wp2
      refine bodyPost_ret (v := .tuple #[.int .i64 a, .slice (some ⟨w1.heap.size, 0, none⟩) l0_1.length l0_1.length, .slice (some ⟨gs, 0, none⟩) nn cs, .int .i64 0]) (by simp [results, Try.results26, go_sem]) rfl ?_
      obtain ⟨h1, h2, h3⟩ := hfin.out
      exact ⟨_, _, rfl, h1, h2, h3.trans ⟨rfl, rfl, rfl, Nat.le_refl _, fun _ _ => rfl⟩⟩
    | true =>
      rw [hsv] at hcs
      obtain ⟨p, hw, hr0, hedge, hbd, hpl, hpf, hpn⟩ := hRd'.out.go hsv
      have hmo := hm'.out
      simp only [FlowM.most] at hmo
      rw [hbfs'.out] at hmo
      simp only [hsv, if_true] at hmo
      rw [hw] at hmo
      simp only at hmo
      have hmo' := Aside0.mk hmo
      have hstep := Aside0.mk (And.intro hpl (And.intro hpf hpn))
      have hr1 := room_le p
      have hBs := hB'.out.size
      have hg2 : Graph0 w2 (w1.heap.size + 1) nn A0_1 c0_1 l0_1 (.slice (some ⟨w1.heap.size, 0, none⟩) l0_1.length l0_1.length) := ⟨blk_below hg'.out.blk hB2'.out, Kd.C_below hg'.out.row hB2'.out⟩
      have hpu := push_calls w2 gm (w1.heap.size + 1) w.heap.size A0_1 c0_1 l0_1 _ fl nn a2 a1 st.by_ (nn + 1) p hmap'.out hg2 (fun h0 ad he => Kd.C_lt (he ▸ hr.out) h0 (by decide)) (fun n s h => by have := hedge n s h; omega) (Kd.R_below hR'.out hB2'.out) (by omega) (by simpa using hw) (by omega) (fun q s r e => by have := hbd q s r e; omega)
      have hpu' := Aside0.mk hpu
      have hr0' : 0 ≤ FlowM.roomOf p := by omega
      clear hw hedge hbd hpl hpf hpn hmo hsee hpu
      go_wp2_with fail
      refine (hpu'.out).mono ?_
      rintro e w3 ⟨rfl, hR3, hK3, hS3⟩
      have hHead : Aside0 (Graph0 w3 (w1.heap.size + 1) nn A0_1 c0_1 l0_1 (.slice (some ⟨w1.heap.size, 0, none⟩) l0_1.length l0_1.length) ∧ Kd.R (Kd.int .i64) 3 w3 w.heap.size (fun _ => True) (.slice (some ⟨w1.heap.size, 0, none⟩) l0_1.length l0_1.length) (p.foldl (FlowM.bump (FlowM.roomOf p)) fl) ∧ Below w.heap.size w w3) := by
        refine ⟨⟨?_, ?_⟩, hR3, ?_⟩
        · exact blk_kept hg2.blk hK3 (fun h => by simp [Value.ownBlock] at h)
        · refine C_same hg2.row (fun h0 ad he hlt => hK3.2 ad.block hlt (fun h => ?_))
          have h4 := Kd.C_lt (he ▸ hr.out) h0 (by decide)
          simp [Value.ownBlock] at h
          omega
        · refine (hB'.out.trans (hB2'.out.mono hBs)).trans (below_silent hK3 hS3 (by have := hB2'.out.size; omega) (fun k h => ?_))
          simp [Value.ownBlock] at h
          omega
      clear hR3 hK3 hS3 hg2 hpu'
      go_wp2
      obtain ⟨e1, e2, e3⟩ := hstep.out
      obtain ⟨k1, k2, k3⟩ := hHead.out
      refine ih'.out _ _ _ _ hmo'.out (by omega) e2 (by rw [e3, ha'.out]) (by omega) ⟨⟨_, _, _, _, _, _, _, _, _, _, _, _, _, _, _, _, _, _, _, _, _, _, _, _, _, _, _, _, _, _, _, _, _, _, _, _, _, _, _, rfl⟩, k1, k2, k3⟩

theorem flow_Most.calls (a0_0 : Int) (A0_1 : Option Addr) (c0_1 : Nat) (l0_1 : List S49) (a1 a2 : Int) (r1 : Int) (r2 : List Int) (r3 : List Bool) (r4 : Int) (w : World) (hr0_1 : Kd.C k49 w A0_1 l0_1.length l0_1) (hc0_1 : l0_1.length ≤ c0_1) (h : flow_Most.f a0_0 l0_1 a1 a2 = some (r1, r2, r3, r4)) :
    Calls Try.prog 26 #[.agg #[.int .i64 a0_0, .slice A0_1 l0_1.length c0_1], .int .i64 a1, .int .i64 a2] w fun e w' =>
      ∃ v1_ v2_ : Value, e = .returned (.tuple #[.int .i64 r1, v1_, v2_, .int .i64 r4]) ∧ Kd.R (Kd.int .i64) 3 w' w.heap.size (fun _ => True) v1_ r2 ∧ Kd.R Kd.bool 4 w' w.heap.size (fun _ => True) v2_ r3 ∧ Below w.heap.size w w' := by
  unfold flow_Most.f at h
  by_cases hE : endsOk a0_0 l0_1 a1 a2
  · rw [if_pos hE] at h
    obtain ⟨⟨n, fl, S⟩, hm, he⟩ := Option.map_eq_some_iff.1 h
    simp only [Prod.mk.injEq] at he
    obtain ⟨rfl, rfl, rfl, rfl⟩ := he
    exact most_yes a0_0 A0_1 c0_1 l0_1 a1 a2 w hr0_1 hc0_1 hE n fl S hm
  · rw [if_neg hE] at h
    simp only [Option.some.injEq, Prod.mk.injEq] at h
    obtain ⟨rfl, rfl, rfl, rfl⟩ := h
    refine (most_no a0_0 A0_1 c0_1 l0_1 a1 a2 w hr0_1 hc0_1 hE).mono ?_
    rintro e w' ⟨rfl, hb⟩
    exact ⟨_, _, rfl, Kd.R_nil _ _ _ _ _, Kd.R_nil _ _ _ _ _, hb⟩
end Go.Proofs.Ytioglahnliajlaa.Pr
