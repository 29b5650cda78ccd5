import Derived.Test.YtfjbbmgnfpeogaaFlowOther
/-! What is done at each step of a way: the room, and the flow. -/
namespace Go.Proofs.Ytfjbbmgnfpeogaa.Pr
open Go.RowKit Go.Proofs.YtfjbbmgnfpeogaaW.PrintWords Go.Proofs.YtfjbbmgnfpeogaaW.PrintLast Go.Proofs.YtfjbbmgnfpeogaaW.PrintMore
attribute [local go_sem] max2_int min2_int max_two min_two

/-- Nothing but the heap has changed. -/
def Silent (W W' : World) : Prop := W'.os = W.os ∧ W'.tape = W.tape ∧ W'.output = W.output
theorem Silent.refl (W : World) : Silent W W := ⟨rfl, rfl, rfl⟩
theorem Silent.trans {W W1 W2 : World} (h : Silent W W1) (k : Silent W1 W2) : Silent W W2 := ⟨k.1.trans h.1, k.2.1.trans h.2.1, k.2.2.trans h.2.2⟩
theorem Silent.below {W W1 W2 : World} {n : Nat} (h : Silent W W1) (k : Below n W1 W2) : Silent W W2 := h.trans ⟨k.os, k.tape, k.output⟩
theorem below_silent {W W' : World} {S : Nat → Prop} {n : Nat} (h : Kept W W' S) (k : Silent W W') (hn : n ≤ W.heap.size) (hS : ∀ k, S k → n ≤ k) : Below n W W' :=
  ⟨k.1, k.2.1, k.2.2, h.1, fun i hi => h.2 i (by omega) (fun hs => by have := hS i hs; omega)⟩

theorem visit_room (W : World) (br : Nat) (r : Int) (hr : W.heap[br]? = some (.cells #[.int .i64 r] 3 (0, 0))) (edge : Int) (back : Bool) (tw room : Int) :
    Calls Try.prog 34 #[.agg #[.int .i64 edge, .bool back, .int .i64 tw, .int .i64 room], .pointer (some ⟨br, 0, none⟩)] W fun e W' =>
      e = .returned (.tuple #[]) ∧ W'.heap[br]? = some (.cells #[.int .i64 (min r room)] 3 (0, 0)) ∧ Kept W W' (fun k => k = br) ∧ Silent W W' := by
  have hc := blk_cell hr 0
  have hf := blk_frozen hr 0
  have hlt := blk_lt hr
  simp at hc
  have HR := Aside0.mk hr
  clear hr
  have e : min r room = if room < r then room else r := by omega
  rw [e]; clear e
  by_cases c : room < r
  all_goals
    go_enter Try.func34, Try.ntmps34
    go_wp2
    go_end0
    refine ⟨rfl, ?_, Kept.alloc (Kept.setCell (p := ⟨br, 0, none⟩) (Kept.refl W (fun k => k = br)) (.inl rfl) _) _, ⟨rfl, rfl, rfl⟩⟩
    have h := blk_alloc (blk_set HR.out 0 (.int .i64 (if room < r then room else r))) (.cells #[.int .i64 edge, .bool back, .int .i64 tw, .int .i64 room] 63)
    first | (rw [if_pos c] at h; simpa using h) | (rw [if_neg (by omega)] at h; simpa using h)

theorem visit_flow (W : World) (bp bw br base : Nat) (A : Option Addr) (c : Nat) (es : List S39) (vf : Value) (fl : List Int) (nodes r : Int) (hw : Graph0 W bw nodes A c es vf)
    (hp : W.heap[bp]? = some (.cells #[.pointer (some ⟨bw, 0, none⟩)] 44 (0, 0))) (hr : W.heap[br]? = some (.cells #[.int .i64 r] 3 (0, 0)))
    (hf : Kd.R (Kd.int .i64) 3 W base (fun k => k ≠ br) vf fl)
    (edge : Int) (back : Bool) (tw room : Int) (h0 : 0 ≤ edge) (h1 : edge < fl.length) (hb : 0 ≤ rd fl edge ∧ rd fl edge ≤ 1000000) (hr0 : 0 ≤ r ∧ r ≤ 1000000) :
    Calls Try.prog 35 #[.agg #[.int .i64 edge, .bool back, .int .i64 tw, .int .i64 room], .pointer (some ⟨bp, 0, none⟩), .pointer (some ⟨br, 0, none⟩)] W fun e W' =>
      e = .returned (.tuple #[]) ∧ Kd.R (Kd.int .i64) 3 W' base (fun k => k ≠ br) vf (fl.set edge.toNat (if back = true then rd fl edge - r else rd fl edge + r)) ∧ Kept W W' (fun k => some k = vf.ownBlock) ∧ Silent W W' := by
  obtain ⟨c0, c1, c2, hblt⟩ := hw.cells
  have hcp := blk_cell hp 0
  have hcr := blk_cell hr 0
  simp at hcp hcr
  have hplt := blk_lt hp
  have hrlt := blk_lt hr
  obtain ⟨g, cap, rfl, hgb, hgl, _⟩ := Kd.R_form hf (by omega)
  obtain ⟨f0, ff⟩ := Kd.R_celln (0 : Int) hf edge h0 h1
  have hgr : g ≠ br := hf.1 g rfl
  obtain ⟨k, rfl⟩ := Int.eq_ofNat_of_zero_le h0
  simp only [Int.toNat_natCast] at f0 ff ⊢
  have hk : k < fl.length := by omega
  have hrd : rdOf 0 fl (k : Int) = rd fl (k : Int) := rfl
  rw [hrd] at f0
  generalize hx : rd fl (k : Int) = x at *
  have HF := Aside0.mk hf
  clear hf hw hp hr hx hrd
  cases back
  · go_enter Try.func35, Try.ntmps35
    go_wp2
    go_region
    go_wp2
    go_end0
    have h := Kd.R_putg (n := fl.length) HF.out (k : Int) (x + r)
    simp only [Int.toNat_natCast] at h
    exact ⟨rfl, Kd.R_alloc h.1 _, Kept.alloc (Kept.of_grown h.2 (Kept.refl W _) (fun j e => .inl e.symm)) _, ⟨h.2.os, h.2.tape, h.2.output⟩⟩
  · go_enter Try.func35, Try.ntmps35
    go_wp2
    go_region
    go_wp2
    go_end0
    have h := Kd.R_putg (n := fl.length) HF.out (k : Int) (x - r)
    simp only [Int.toNat_natCast] at h
    exact ⟨rfl, Kd.R_alloc h.1 _, Kept.alloc (Kept.of_grown h.2 (Kept.refl W _) (fun j e => .inl e.symm)) _, ⟨h.2.os, h.2.tape, h.2.output⟩⟩
end Go.Proofs.Ytfjbbmgnfpeogaa.Pr
