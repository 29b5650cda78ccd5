import Derived.Test.YtfjbbmgnfpeogaaFlowVisit
import Derived.Test.YtfjbbmgnfpeogaaMapInts
import Derived.Test.YtfjbbmgnfpeogaaThFlowModel
import Derived.LoopTactic
/-! The walk along a way, from the sink back to the source. -/
namespace Go.Proofs.Ytfjbbmgnfpeogaa.Pr
open Go.RowKit Go.Proofs.YtfjbbmgnfpeogaaW.PrintWords Go.Proofs.YtfjbbmgnfpeogaaW.PrintLast Go.Proofs.YtfjbbmgnfpeogaaW.PrintMore

def eOf (e : S39) : FlowM.E := (e.f0, e.f1, e.f2)
def esOf (es : List S39) : List FlowM.E := es.map eOf
def valS (s : FlowM.Step) : Value := .agg #[.int .i64 (s.edge : Int), .bool s.back, .int .i64 s.to, .int .i64 s.room]
def byL (l : List (Int × FlowM.Step)) : List (Int × Value) := l.map fun p => (p.1, valS p.2)

theorem way_mono (es : List FlowM.E) (by_ : List (Int × FlowM.Step)) (source : Int) : ∀ (k : Nat) (n : Int) (p : List FlowM.Step), FlowM.way es by_ source k n = some p → FlowM.way es by_ source (k + 1) n = some p
  | 0, _, _, h => by simp [FlowM.way] at h
  | k + 1, n, p, h => by
    unfold FlowM.way at h ⊢
    by_cases c : n = source
    · rw [if_pos c] at h ⊢; exact h
    · rw [if_neg c] at h ⊢
      cases hf : FlowM.find by_ n with
      | none => rw [hf] at h; cases h
      | some s =>
        rw [hf] at h
        simp only at h ⊢
        cases hw : FlowM.way es by_ source k (FlowM.other es s) with
        | none => rw [hw] at h; cases h
        | some q => rw [hw] at h; rw [way_mono es by_ source k _ _ hw]; exact h

theorem way_step {es : List FlowM.E} {by_ : List (Int × FlowM.Step)} {source : Int} {k : Nat} {n : Int} {p : List FlowM.Step} (h : FlowM.way es by_ source k n = some p) (hn : n ≠ source) :
    ∃ s q, FlowM.find by_ n = some s ∧ p = s :: q ∧ FlowM.way es by_ source k (FlowM.other es s) = some q := by
  cases k with
  | zero => simp [FlowM.way] at h
  | succ k =>
    rw [FlowM.way, if_neg hn] at h
    cases hf : FlowM.find by_ n with
    | none => rw [hf] at h; cases h
    | some s =>
      rw [hf] at h
      simp only at h
      cases hw : FlowM.way es by_ source k (FlowM.other es s) with
      | none => rw [hw] at h; cases h
      | some q =>
        rw [hw] at h
        simp only [Option.map_some, Option.some.injEq] at h
        exact ⟨s, q, rfl, h.symm, way_mono _ _ _ _ _ _ hw⟩

theorem way_end {es : List FlowM.E} {by_ : List (Int × FlowM.Step)} {source : Int} {k : Nat} {p : List FlowM.Step} (h : FlowM.way es by_ source k source = some p) : p = [] := by
  cases k with
  | zero => simp [FlowM.way] at h
  | succ k => rw [FlowM.way, if_pos rfl] at h; cases h; rfl

theorem byL_find {by_ : List (Int × FlowM.Step)} {n : Int} {s : FlowM.Step} (h : FlowM.find by_ n = some s) : ((byL by_).find? (fun p => p.1 == n)).map (·.2) = some (valS s) := by
  unfold FlowM.find at h
  induction by_ with
  | nil => simp at h
  | cons p l ih =>
    simp only [byL, List.map_cons, List.find?_cons] at h ⊢
    cases c : (p.1 == n) with
    | true => rw [c] at h; simp at h ⊢; rw [h]
    | false => rw [c] at h; simp at h ⊢; simpa [byL] using ih (by simpa using h)

theorem other_rd (es : List S39) (s : FlowM.Step) (h : s.edge < es.length) :
    FlowM.other (esOf es) s = if s.back = true then (rd_T39 es (s.edge : Int)).f1 else (rd_T39 es (s.edge : Int)).f0 := by
  unfold FlowM.other rd_T39 esOf
  simp [List.getD_eq_getElem?_getD, h, eOf]

/-- The measure: how far it is still. -/
def far (es : List FlowM.E) (by_ : List (Int × FlowM.Step)) (source : Int) (k : Nat) (n : Int) : Nat := ((FlowM.way es by_ source k n).getD []).length

theorem along_calls (W : World) (bk bo bp bb gm bw : Nat) (A : Option Addr) (c : Nat) (es : List S39) (vf : Value) (nodes sink source : Int) (by_ : List (Int × FlowM.Step)) (K : Nat) (p : List FlowM.Step)
    (hk : W.heap[bk]? = some (.cells #[.int .i64 sink] 3 (0, 0))) (ho : W.heap[bo]? = some (.cells #[.int .i64 source] 3 (0, 0)))
    (hp : W.heap[bp]? = some (.cells #[.pointer (some ⟨bw, 0, none⟩)] 44 (0, 0))) (hb : W.heap[bb]? = some (.cells #[.map (some gm)] 47 (0, 0)))
    (hm : MapIs W gm (byL by_)) (hw : Graph0 W bw nodes A c es vf) (hedge : ∀ n s, FlowM.find by_ n = some s → s.edge < es.length)
    (hway : FlowM.way (esOf es) by_ source K sink = some p)
    (gv : Nat) (lb : Array Value) (eg : ∀ args w, (callFunc gv args).run Try.prog w = .ok (.enter gv args) w)
    (J : List FlowM.Step → World → Prop) (S : Nat → Prop) (hS : ∀ k, S k → k ≠ bk ∧ k ≠ bo ∧ k ≠ bp ∧ k ≠ bb ∧ k ≠ gm ∧ k ≠ bw ∧ (0 < es.length → ∀ ad, A = some ad → k ≠ ad.block))
    (hJ : ∀ q W1 W2, J q W1 → Below W1.heap.size W1 W2 → J q W2)
    (hv : ∀ (q : List FlowM.Step) (s : FlowM.Step) (W1 : World), (∃ r, p = q ++ s :: r) → J q W1 → Graph0 W1 bw nodes A c es vf → Kept W W1 S →
      Calls Try.prog gv (#[valS s] ++ lb) W1 fun e W' => e = .returned (.tuple #[]) ∧ J (q ++ [s]) W' ∧ Kept W1 W' S) (h0 : J [] W) :
    Calls Try.prog 32 #[.func (.func gv) #[] lb, .pointer (some ⟨bk, 0, none⟩), .pointer (some ⟨bo, 0, none⟩), .pointer (some ⟨bp, 0, none⟩), .pointer (some ⟨bb, 0, none⟩)] W fun e W' =>
      e = .returned (.tuple #[]) ∧ J p W' ∧ Kept W W' S := by
  have cnt : ∀ W1, Kept W W1 S → W1.cell? ⟨bo, 0, none⟩ = some (.int .i64 source) ∧ W1.cell? ⟨bp, 0, none⟩ = some (.pointer (some ⟨bw, 0, none⟩)) ∧ W1.cell? ⟨bb, 0, none⟩ = some (.map (some gm)) ∧ MapIs W1 gm (byL by_) ∧ Graph0 W1 bw nodes A c es vf := by
    intro W1 hk1
    have hn : ∀ b : Nat, b < W.heap.size → (∀ k, S k → k ≠ b) → W1.heap[b]? = W.heap[b]? := fun b hb h => hk1.2 b hb (fun hs => h b hs rfl)
    obtain ⟨es0, clock, hm1, hm2⟩ := hm
    have e1 := (hn bo (blk_lt ho) (fun k h => (hS k h).2.1)).trans ho
    have e2 := (hn bp (blk_lt hp) (fun k h => (hS k h).2.2.1)).trans hp
    have e3 := (hn bb (blk_lt hb) (fun k h => (hS k h).2.2.2.1)).trans hb
    have e4 := (hn gm (blk_lt hm1) (fun k h => (hS k h).2.2.2.2.1)).trans hm1
    have e5 := (hn bw (blk_lt hw.blk) (fun k h => (hS k h).2.2.2.2.2.1)).trans hw.blk
    refine ⟨by simpa using blk_cell e1 0, by simpa using blk_cell e2 0, by simpa using blk_cell e3 0, ⟨es0, clock, e4, hm2⟩, e5, ?_⟩
    exact C_same hw.row (fun h0 ad had hlt => hn ad.block hlt (fun k h => (hS k h).2.2.2.2.2.2 h0 ad had))
  have ck := blk_cell hk 0
  simp at ck
  have hS' := Aside0.mk hS
  have hv' := Aside0.mk hv
  have cnt' := Aside0.mk cnt
  have hJ' := Aside0.mk hJ
  have hedge' := Aside0.mk hedge
  have hway' := Aside0.mk hway
  clear hS hv cnt hJ hk ho hp hb hm hw hedge hway
  go_enter Try.func32, Try.ntmps32
  go_wp2
  go_loopw [6] (fun t wr => ∃ (n : Int) (q r : List FlowM.Step), t = .int .i64 n ∧ p = q ++ r ∧ FlowM.way (esOf es) by_ source K n = some r ∧ J q wr ∧ Kept W wr S)
    (fun t _ => far (esOf es) by_ source K (intOf t))
  case atStart => exact ⟨sink, [], p, rfl, rfl, hway'.out, h0, Kept.refl _ _⟩
  case round =>
    obtain ⟨n, q, r, rfl, hpq, hw, hj, hkw⟩ := hrel
    obtain ⟨c1, c2, c3, c4, c5⟩ := cnt'.out wr hkw
    have hpq' := Aside0.mk hpq
    have hw' := Aside0.mk hw
    have hm := Aside0.mk c4
    have hg := Aside0.mk c5
    clear hpq hw c4 c5
    by_cases hn : n = source
    · have hne : (n != source) = false := by rw [hn]; simp
      have hn' := Aside0.mk hn
      clear hn
      go_wp2
      go_end0
      have hr := way_end (hn'.out ▸ hw'.out)
      have : p = q := by rw [hpq'.out, hr, List.append_nil]
      exact ⟨rfl, this ▸ hj, hkw⟩
    · have hne : (n != source) = true := by simpa using hn
      obtain ⟨s, r', hs, hr, hw2⟩ := way_step hw'.out hn
      have hs' := Aside0.mk hs
      have hr' := Aside0.mk hr
      have hw2' := Aside0.mk hw2
      clear hs hr hw2 hn
      go_wp2_with (at_lookup; refine wpList_lookup_hit rfl _ _ rfl Try.underlying47 Try.underlying3 rfl hm.out rfl (byL_find hs'.out) ?_)
      refine (hv'.out q s wr ⟨r', by rw [hpq'.out, hr'.out]⟩ hj hg.out hkw).mono ?_
      rintro e w1 ⟨rfl, hj1, hk1⟩
      have hkw1 : Kept W w1 S := hkw.then_ hk1 (fun k h => .inl h)
      obtain ⟨d1, d2, d3, d4, d5⟩ := cnt'.out w1 hkw1
      have hm1 := Aside0.mk d4
      have hg1 := Aside0.mk d5
      clear d4 d5
      have he := hedge'.out n s hs'.out
      go_wp2_with (at_lookup; refine wpList_lookup_hit rfl _ _ rfl Try.underlying47 Try.underlying3 rfl hm1.out rfl (byL_find hs'.out) ?_)
      refine (other_calls w1 bw nodes A c es vf hg1.out s.edge s.back s.to s.room (by omega) (by omega)).mono ?_
      rintro e w2 ⟨rfl, hb2⟩
      have hot := other_rd es s he
      rw [← hot]
      have hkw2 : Kept W w2 S := hkw1.below hb2
      have hj2 := hJ'.out _ w1 w2 hj1 hb2
      have hfar : far (esOf es) by_ source K (FlowM.other (esOf es) s) < far (esOf es) by_ source K n := by
        unfold far; rw [hw'.out, hw2'.out, hr'.out]; simp
      clear hot he
      go_wp2
      go_roundw
      case rel => exact ⟨_, q ++ [s], r', rfl, by rw [hpq'.out, hr'.out]; simp, hw2'.out, hj2, hkw2⟩
      case measure => simpa [intOf] using hfar
end Go.Proofs.Ytfjbbmgnfpeogaa.Pr
