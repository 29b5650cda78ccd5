import Derived.Test.YtioglahnliajlaaGFlowA
import Derived.RangeFuncNested
import Derived.RangeFuncLeaves
import Derived.Shelf.Abstract
set_option linter.unusedVariables false
set_option linter.unusedSimpArgs false
/-! A push over a way. -/
namespace Go.Proofs.Ytioglahnliajlaa.Pr
open Go.RowKit Go.Proofs.YtioglahnliajlaaW.PrintWords Go.Proofs.YtioglahnliajlaaW.PrintLast Go.Proofs.YtioglahnliajlaaW.PrintMore

theorem allocs5 (W : World) (o0 o1 o2 o3 o4 : Obj) : Below W.heap.size W (((((W.alloc o0).alloc o1).alloc o2).alloc o3).alloc o4) ∧
    (((((W.alloc o0).alloc o1).alloc o2).alloc o3).alloc o4).heap[W.heap.size]? = some o0 ∧ (((((W.alloc o0).alloc o1).alloc o2).alloc o3).alloc o4).heap[W.heap.size + 1]? = some o1 ∧
    (((((W.alloc o0).alloc o1).alloc o2).alloc o3).alloc o4).heap[W.heap.size + 1 + 1]? = some o2 ∧ (((((W.alloc o0).alloc o1).alloc o2).alloc o3).alloc o4).heap[W.heap.size + 1 + 1 + 1]? = some o3 ∧
    (((((W.alloc o0).alloc o1).alloc o2).alloc o3).alloc o4).heap[W.heap.size + 1 + 1 + 1 + 1]? = some o4 := by
  have s1 : (W.alloc o0).heap.size = W.heap.size + 1 := World.size_alloc _ _
  have s2 : ((W.alloc o0).alloc o1).heap.size = W.heap.size + 1 + 1 := by rw [World.size_alloc, s1]
  have s3 : (((W.alloc o0).alloc o1).alloc o2).heap.size = W.heap.size + 1 + 1 + 1 := by rw [World.size_alloc, s2]
  have s4 : ((((W.alloc o0).alloc o1).alloc o2).alloc o3).heap.size = W.heap.size + 1 + 1 + 1 + 1 := by rw [World.size_alloc, s3]
  have b0 := blk_new W o0
  have b1 := blk_new (W.alloc o0) o1
  have b2 := blk_new ((W.alloc o0).alloc o1) o2
  have b3 := blk_new (((W.alloc o0).alloc o1).alloc o2) o3
  have b4 := blk_new ((((W.alloc o0).alloc o1).alloc o2).alloc o3) o4
  rw [s1] at b1; rw [s2] at b2; rw [s3] at b3; rw [s4] at b4
  exact ⟨below_alloc (below_alloc (below_alloc (below_alloc (below_alloc (Below.refl _ _) _) _) _) _) _, blk_alloc (blk_alloc (blk_alloc (blk_alloc b0 _) _) _) _, blk_alloc (blk_alloc (blk_alloc b1 _) _) _, blk_alloc (blk_alloc b2 _) _, blk_alloc b3 _, b4⟩

theorem bump_put (r : Int) (fl : List Int) (s : FlowM.Step) : fl.set ((s.edge : Int)).toNat (if s.back = true then rd fl (s.edge : Int) - r else rd fl (s.edge : Int) + r) = FlowM.bump r fl s := by
  unfold FlowM.bump rd
  simp

theorem room_le (p : List FlowM.Step) : FlowM.roomOf p ≤ 1000000 := by
  have key : ∀ (p : List FlowM.Step) (r : Int), p.foldl (fun r s => min r s.room) r ≤ r := by
    intro p
    induction p with
    | nil => intro r; exact Int.le_refl _
    | cons t p ih => intro r; simp only [List.foldl_cons]; have := ih (min r t.room); omega
  exact key p _

theorem push_length' (r : Int) : ∀ (p : List FlowM.Step) (fl : List Int), (p.foldl (FlowM.bump r) fl).length = fl.length
  | [], _ => rfl
  | s :: p, fl => by simp only [List.foldl_cons]; rw [push_length' r p]; simp [FlowM.bump]

theorem push_calls (W : World) (gm bw base : Nat) (A : Option Addr) (c : Nat) (es : List S49) (vf : Value) (fl : List Int) (nodes sink source : Int) (by_ : List (Int × FlowM.Step)) (K : Nat) (p : List FlowM.Step)
    (hm : MapIs W gm (byL by_)) (hw : Graph0 W bw nodes A c es vf) (hA : 0 < es.length → ∀ ad, A = some ad → ad.block < base) (hedge : ∀ n s, FlowM.find by_ n = some s → s.edge < es.length)
    (hf : Kd.R (Kd.int .i64) 3 W base (fun _ => True) vf fl) (hl : fl.length = es.length)
    (hway : FlowM.way (esOf es) by_ source K sink = some p) (hr0 : 0 ≤ FlowM.roomOf p)
    (hbd : ∀ q s r, p = q ++ s :: r → s.edge < es.length ∧ 0 ≤ (q.foldl (FlowM.bump (FlowM.roomOf p)) fl).getD s.edge 0 ∧ (q.foldl (FlowM.bump (FlowM.roomOf p)) fl).getD s.edge 0 ≤ 1000000) :
    Calls Try.prog 40 #[.pointer (some ⟨bw, 0, none⟩), .map (some gm), .int .i64 source, .int .i64 sink] W fun e W' =>
      e = .returned (.int .i64 (FlowM.roomOf p)) ∧ Kd.R (Kd.int .i64) 3 W' base (fun _ => True) vf (p.foldl (FlowM.bump (FlowM.roomOf p)) fl) ∧ Kept W W' (fun k => some k = vf.ownBlock) ∧ Silent W W' := by
  have hm' := Aside0.mk hm
  have hw' := Aside0.mk hw
  have hf' := Aside0.mk hf
  have hA' := Aside0.mk hA
  have hedge' := Aside0.mk hedge
  have hway' := Aside0.mk hway
  have hbd' := Aside0.mk hbd
  have hl' := Aside0.mk hl
  clear hm hw hf hA hedge hway hbd hl
  go_enter Try.func40, Try.ntmps40
  go_wp2_with fail
  have h5 := allocs5 W (.cells #[.pointer (some ⟨bw, 0, none⟩)] 66) (.cells #[.map (some gm)] 69) (.cells #[.int .i64 source] 3) (.cells #[.int .i64 sink] 3) (.cells #[.int .i64 1000000] 3)
  generalize (((((W.alloc (.cells #[.pointer (some ⟨bw, 0, none⟩)] 66)).alloc (.cells #[.map (some gm)] 69)).alloc (.cells #[.int .i64 source] 3)).alloc (.cells #[.int .i64 sink] 3)).alloc (.cells #[.int .i64 1000000] 3)) = W1 at h5 ⊢
  obtain ⟨hB, b0, b1, b2, b3, b4⟩ := h5
  have hm1 : MapIs W1 gm (byL by_) := by obtain ⟨es0, clock, m1, m2⟩ := hm'.out; exact ⟨es0, clock, blk_below m1 hB, m2⟩
  have hgm : gm < W.heap.size := by obtain ⟨es0, clock, m1, m2⟩ := hm'.out; exact blk_lt m1
  have hw1 : Graph0 W1 bw nodes A c es vf := ⟨blk_below hw'.out.blk hB, Kd.C_below hw'.out.row hB⟩
  have hbw := blk_lt hw'.out.blk
  have hvlt : ∀ k, some k = vf.ownBlock → k < W.heap.size ∧ base ≤ k := fun k e => ⟨(Kd.R_bound hf'.out).1 k e.symm |>.2.2.1, (Kd.R_bound hf'.out).1 k e.symm |>.2.1⟩
  have hf1 : Kd.R (Kd.int .i64) 3 W1 base (fun k => k ≠ W.heap.size + 1 + 1 + 1 + 1) vf fl := Kd.R_mono (Kd.R_below (Kd.R_bound hf'.out) hB) (fun k hk => by have := hk.2.2.1; omega)
  have hAlt : 0 < es.length → ∀ ad, A = some ad → ad.block < W.heap.size := fun h0 ad he => Kd.C_lt (he ▸ hw'.out.row) h0 (by decide)
  refine (along_calls W1 (W.heap.size + 1 + 1 + 1) (W.heap.size + 1 + 1) W.heap.size (W.heap.size + 1) gm bw A c es vf nodes sink source by_ K p b3 b2 b0 b1 hm1 hw1 hedge'.out hway'.out 51 _ (Go.Proofs.enters_of Try.func51 (by kernel_rfl) rfl)
    (fun q W2 => W2.heap[W.heap.size + 1 + 1 + 1 + 1]? = some (.cells #[.int .i64 (q.foldl (fun r s => min r s.room) 1000000)] 3 (0, 0)) ∧ Silent W1 W2) (fun k => k = W.heap.size + 1 + 1 + 1 + 1)
    (fun k hk => ⟨by omega, by omega, by omega, by omega, by omega, by omega, fun h0 ad he => by have := hAlt h0 ad he; omega⟩)
    (fun q W2 W3 h hb => ⟨blk_below h.1 hb, h.2.below hb⟩) ?hv1 ⟨b4, Silent.refl _⟩).mono ?_
  case hv1 =>
    intro q s W2 _ h _ _
    refine (visit_room W2 _ _ h.1 s.edge s.back s.to s.room).mono ?_
    rintro e W3 ⟨rfl, h3, hk3, hs3⟩
    exact ⟨rfl, ⟨by rw [List.foldl_append]; exact h3, h.2.trans hs3⟩, hk3⟩
  rintro e W2 ⟨rfl, ⟨hroom, hsi2⟩, hk2⟩
  have hsi1 : Silent W W1 := ⟨hB.os, hB.tape, hB.output⟩
  have hsil := Aside0.mk (hsi1.trans hsi2)
  clear hsi1 hsi2
  have hr2 : W2.heap[W.heap.size + 1 + 1 + 1 + 1]? = some (.cells #[.int .i64 (FlowM.roomOf p)] 3 (0, 0)) := hroom
  clear hroom
  have f2 : ∀ b o, W1.heap[b]? = some o → b ≠ W.heap.size + 1 + 1 + 1 + 1 → W2.heap[b]? = some o := fun b o h hne => (hk2.2 b (blk_lt h) hne).trans h
  have hm2 : MapIs W2 gm (byL by_) := by obtain ⟨es0, clock, m1, m2⟩ := hm1; exact ⟨es0, clock, f2 _ _ m1 (by omega), m2⟩
  have hw2 : Graph0 W2 bw nodes A c es vf := ⟨f2 _ _ hw1.blk (by omega), C_same hw1.row (fun h0 ad he hlt => hk2.2 ad.block hlt (by have := hAlt h0 ad he; omega))⟩
  have hf2 : Kd.R (Kd.int .i64) 3 W2 base (fun k => k ≠ W.heap.size + 1 + 1 + 1 + 1) vf fl := Kd.R_kept hf1 hk2 (fun k h => h)
  have hb2 := f2 _ _ b0 (by omega)
  have hFacts := Aside0.mk (And.intro hm2 (And.intro hw2 (And.intro hf2 (And.intro hb2 (And.intro hr2 (And.intro (f2 _ _ b1 (by omega)) (And.intro (f2 _ _ b2 (by omega)) (f2 _ _ b3 (by omega)))))))))
  have hB1 := Aside0.mk hB
  have hk2' := Aside0.mk hk2
  clear hm2 hw2 hf2 hb2 hr2 b0 b1 b2 b3 b4 hm1 hw1 hf1 f2 hB hk2
  go_wp2_with fail
  obtain ⟨hm2, hw2, hf2, hb2, hr2, b1, b2, b3⟩ := hFacts.out
  have hgne : ∀ k, some k = vf.ownBlock → k ≠ bw ∧ k ≠ gm := by
    intro k hk
    obtain ⟨cells, hc⟩ := Kd.R_typed hf'.out k hk.symm
    refine ⟨fun e => ?_, fun e => ?_⟩
    · have h := hw'.out.blk
      rw [← e, hc] at h
      injection h with h; injection h with _ h; exact absurd h (by decide)
    · obtain ⟨es0, clock, m1, m2⟩ := hm'.out
      rw [← e, hc] at m1
      injection m1 with m1; cases m1
  refine (along_calls W2 (W.heap.size + 1 + 1 + 1) (W.heap.size + 1 + 1) W.heap.size (W.heap.size + 1) gm bw A c es vf nodes sink source by_ K p b3 b2 hb2 b1 hm2 hw2 hedge'.out hway'.out 52 _ (Go.Proofs.enters_of Try.func52 (by kernel_rfl) rfl)
    (fun q W3 => Kd.R (Kd.int .i64) 3 W3 base (fun k => k ≠ W.heap.size + 1 + 1 + 1 + 1) vf (q.foldl (FlowM.bump (FlowM.roomOf p)) fl) ∧ Silent W2 W3) (fun k => some k = vf.ownBlock)
    (fun k hk => ⟨by have := hvlt k hk; omega, by have := hvlt k hk; omega, by have := hvlt k hk; omega, by have := hvlt k hk; omega, (hgne k hk).2, (hgne k hk).1, fun h0 ad he => by have := hA'.out h0 ad he; have := hvlt k hk; omega⟩)
    (fun q W3 W4 h hb => ⟨Kd.R_below h.1 hb, h.2.below hb⟩) ?hv2 ⟨hf2, Silent.refl _⟩).mono ?_
  case hv2 =>
    intro q s W3 hqs h hg3 hk3
    obtain ⟨r, hqs⟩ := hqs
    obtain ⟨e1, e2, e3⟩ := hbd'.out q s r hqs
    have hp3 : W3.heap[W.heap.size]? = some (.cells #[.pointer (some ⟨bw, 0, none⟩)] 66 (0, 0)) := blk_kept hb2 hk3 (fun h => by have := hvlt _ h; omega)
    have hr3 : W3.heap[W.heap.size + 1 + 1 + 1 + 1]? = some (.cells #[.int .i64 (FlowM.roomOf p)] 3 (0, 0)) := blk_kept hr2 hk3 (fun h => by have := hvlt _ h; omega)
    have hrle : FlowM.roomOf p ≤ 1000000 := room_le p
    refine (visit_flow W3 W.heap.size bw (W.heap.size + 1 + 1 + 1 + 1) base A c es vf _ nodes (FlowM.roomOf p) hg3 hp3 hr3 h.1 s.edge s.back s.to s.room (by omega) (by rw [push_length', hl'.out]; omega) ⟨by simpa [rd] using e2, by simpa [rd] using e3⟩ ⟨hr0, hrle⟩).mono ?_
    rintro e W4 ⟨rfl, h4, hk4, hs4⟩
    rw [bump_put] at h4
    exact ⟨rfl, ⟨by rw [List.foldl_append]; exact h4, h.2.trans hs4⟩, hk4⟩
  rintro e W3 ⟨rfl, ⟨hf3, hsi3⟩, hk3⟩
  have hsil3 := Aside0.mk (hsil.out.trans hsi3)
  clear hsi3
  have hr3 : W3.heap[W.heap.size + 1 + 1 + 1 + 1]? = some (.cells #[.int .i64 (FlowM.roomOf p)] 3 (0, 0)) := blk_kept hr2 hk3 (fun h => by have := hvlt _ h; omega)
  have cr := blk_cell hr3 0
  simp at cr
  have hf3' := Aside0.mk hf3
  have hk3' := Aside0.mk hk3
  have hkall : Aside0 (Kept W W3 (fun k => some k = vf.ownBlock)) := ⟨((Kept.of_below hB1.out _).then_ hk2'.out (fun k hk => .inr (by omega))).then_ hk3 (fun k hk => .inl hk)⟩
  clear hf3 hk3 hr3 hm2 hw2 hf2 hb2 hr2 b1 b2 b3 hvlt hgne hAlt
  go_wp2
  go_ret
  exact ⟨rfl, Kd.R_mono hf3'.out (fun _ _ => trivial), hkall.out, hsil3.out⟩
end Go.Proofs.Ytioglahnliajlaa.Pr
