/-
  No cell of these rows narrows 'for every input' (looked for: loops, veiled, ifaces, maps, wideKeys, modest, calm, conditions, laid).
  DERIVED. THE GIVEN ROWS OF THIS SEAT. 7 by the template 'for every input the law returns true; each argument reads behind the call as it read before'; 0 by the template 'total and deterministic' (their statements: YtfjbbmgnfpeogaaTotals.lean).
  GIVEN WITH THE SEED: the statements are not yours to turn. If you find one false, say at which input.
  Laid BY PROGRAM, IN A SANDBOX (cutbox-rows.mjs): the forced cells as the released guide's own fill.sh prints them over the translation e3529b555f31e37e… (all of the seat's roots in one cut). By AI agents, Wed Nov 11 2026. No macro, syntax, notation, axiom, sorry.
-/
import Derived.Test.YtfjbbmgnfpeogaaChecked
import GoSem.Claim
import GoSem.ClaimJoined
import GoSem.ClaimMapViews
import Derived.JoinedTies
import Derived.KernelRfl
namespace Go.Proofs.Ytfjbbmgnfpeogaa
/- THE CELL 'sum', in the pinned program and in every row, IS THE sha256 OF THE DUMP (.gsa) THAT YtfjbbmgnfpeogaaProg.lean LOADS. Nothing in Lean hashes anything: it is a label: what it is worth is what the hold of that sum in a sandbox is worth. -/
noncomputable def Try.pinned : Pinned := { name := "ytfjbbmgnfpeogaa", sum := "e3529b555f31e37e31be04af8582e0b691b97aedc9787c5af21bb9288b752f48", checked := Try.checked }
namespace Rows
def none {H : Type} : Left H := { results := [], args := [] }

/-- 'chargeparklaw21.FlowMatchesReference': WHATEVER THE INPUT: true; the input reads as it did. -/
def flowMatchesReferenceSpec : ChangeSpec := { name := "flowMatchesReference", fn := fun _ => fun
  | [d1, d2, d3, d4, d5] => { results := [.lit (.bool true)], args := [d1, d2, d3, d4, d5] }
  | _ => none }
def flowMatchesReferenceRow : OpenClaim := { program := "ytfjbbmgnfpeogaa", sum := "e3529b555f31e37e31be04af8582e0b691b97aedc9787c5af21bb9288b752f48", func := "chargepark/chargeparklaw21.FlowMatchesReference", spec := "flowMatchesReference", unfollowed := true, recurses := true, apart := false }
def FlowMatchesReferenceSaid : Prop := flowMatchesReferenceRow.holds Try.pinned (OpenSpec.ofChange flowMatchesReferenceSpec)

/-- ITS FALSE NEIGHBOUR: 'it returns false'. Refute it at one input. -/
def flowMatchesReferenceWrong : ChangeSpec := { name := "flowMatchesReference", fn := fun _ => fun
  | [d1, d2, d3, d4, d5] => { results := [.lit (.bool false)], args := [d1, d2, d3, d4, d5] }
  | _ => none }
def FlowMatchesReferenceWrongFalsely : Prop := flowMatchesReferenceRow.holds Try.pinned (OpenSpec.ofChange flowMatchesReferenceWrong)

/-- 'chargeparklaw21.FlowProof': WHATEVER THE INPUT: true; the input reads as it did. -/
def flowProofSpec : ChangeSpec := { name := "flowProof", fn := fun _ => fun
  | [d1, d2, d3] => { results := [.lit (.bool true)], args := [d1, d2, d3] }
  | _ => none }
def flowProofRow : OpenClaim := { program := "ytfjbbmgnfpeogaa", sum := "e3529b555f31e37e31be04af8582e0b691b97aedc9787c5af21bb9288b752f48", func := "chargepark/chargeparklaw21.FlowProof", spec := "flowProof", unfollowed := true, recurses := true, apart := false }
def FlowProofSaid : Prop := flowProofRow.holds Try.pinned (OpenSpec.ofChange flowProofSpec)

/-- ITS FALSE NEIGHBOUR: 'it returns false'. Refute it at one input. -/
def flowProofWrong : ChangeSpec := { name := "flowProof", fn := fun _ => fun
  | [d1, d2, d3] => { results := [.lit (.bool false)], args := [d1, d2, d3] }
  | _ => none }
def FlowProofWrongFalsely : Prop := flowProofRow.holds Try.pinned (OpenSpec.ofChange flowProofWrong)

/-- 'chargeparklaw21.FlowDuality': WHATEVER THE INPUT: true; the input reads as it did. -/
def flowDualitySpec : ChangeSpec := { name := "flowDuality", fn := fun _ => fun
  | [d1, d2, d3, d4, d5] => { results := [.lit (.bool true)], args := [d1, d2, d3, d4, d5] }
  | _ => none }
def flowDualityRow : OpenClaim := { program := "ytfjbbmgnfpeogaa", sum := "e3529b555f31e37e31be04af8582e0b691b97aedc9787c5af21bb9288b752f48", func := "chargepark/chargeparklaw21.FlowDuality", spec := "flowDuality", unfollowed := true, recurses := true, apart := false }
def FlowDualitySaid : Prop := flowDualityRow.holds Try.pinned (OpenSpec.ofChange flowDualitySpec)

/-- ITS FALSE NEIGHBOUR: 'it returns false'. Refute it at one input. -/
def flowDualityWrong : ChangeSpec := { name := "flowDuality", fn := fun _ => fun
  | [d1, d2, d3, d4, d5] => { results := [.lit (.bool false)], args := [d1, d2, d3, d4, d5] }
  | _ => none }
def FlowDualityWrongFalsely : Prop := flowDualityRow.holds Try.pinned (OpenSpec.ofChange flowDualityWrong)

/-- 'chargeparklaw21.FlowOrder': WHATEVER THE INPUT: true; the input reads as it did. -/
def flowOrderSpec : ChangeSpec := { name := "flowOrder", fn := fun _ => fun
  | [d1, d2, d3, d4] => { results := [.lit (.bool true)], args := [d1, d2, d3, d4] }
  | _ => none }
def flowOrderRow : OpenClaim := { program := "ytfjbbmgnfpeogaa", sum := "e3529b555f31e37e31be04af8582e0b691b97aedc9787c5af21bb9288b752f48", func := "chargepark/chargeparklaw21.FlowOrder", spec := "flowOrder", unfollowed := true, recurses := true, apart := false }
def FlowOrderSaid : Prop := flowOrderRow.holds Try.pinned (OpenSpec.ofChange flowOrderSpec)

/-- ITS FALSE NEIGHBOUR: 'it returns false'. Refute it at one input. -/
def flowOrderWrong : ChangeSpec := { name := "flowOrder", fn := fun _ => fun
  | [d1, d2, d3, d4] => { results := [.lit (.bool false)], args := [d1, d2, d3, d4] }
  | _ => none }
def FlowOrderWrongFalsely : Prop := flowOrderRow.holds Try.pinned (OpenSpec.ofChange flowOrderWrong)

/-- 'chargeparklaw21.FlowMoreRoom': WHATEVER THE INPUT: true; the input reads as it did. -/
def flowMoreRoomSpec : ChangeSpec := { name := "flowMoreRoom", fn := fun _ => fun
  | [d1, d2, d3, d4, d5] => { results := [.lit (.bool true)], args := [d1, d2, d3, d4, d5] }
  | _ => none }
def flowMoreRoomRow : OpenClaim := { program := "ytfjbbmgnfpeogaa", sum := "e3529b555f31e37e31be04af8582e0b691b97aedc9787c5af21bb9288b752f48", func := "chargepark/chargeparklaw21.FlowMoreRoom", spec := "flowMoreRoom", unfollowed := true, recurses := true, apart := false }
def FlowMoreRoomSaid : Prop := flowMoreRoomRow.holds Try.pinned (OpenSpec.ofChange flowMoreRoomSpec)

/-- ITS FALSE NEIGHBOUR: 'it returns false'. Refute it at one input. -/
def flowMoreRoomWrong : ChangeSpec := { name := "flowMoreRoom", fn := fun _ => fun
  | [d1, d2, d3, d4, d5] => { results := [.lit (.bool false)], args := [d1, d2, d3, d4, d5] }
  | _ => none }
def FlowMoreRoomWrongFalsely : Prop := flowMoreRoomRow.holds Try.pinned (OpenSpec.ofChange flowMoreRoomWrong)

/-- 'chargeparklaw21.FlowScaling': WHATEVER THE INPUT: true; the input reads as it did. -/
def flowScalingSpec : ChangeSpec := { name := "flowScaling", fn := fun _ => fun
  | [d1, d2, d3, d4] => { results := [.lit (.bool true)], args := [d1, d2, d3, d4] }
  | _ => none }
def flowScalingRow : OpenClaim := { program := "ytfjbbmgnfpeogaa", sum := "e3529b555f31e37e31be04af8582e0b691b97aedc9787c5af21bb9288b752f48", func := "chargepark/chargeparklaw21.FlowScaling", spec := "flowScaling", unfollowed := true, recurses := true, apart := false }
def FlowScalingSaid : Prop := flowScalingRow.holds Try.pinned (OpenSpec.ofChange flowScalingSpec)

/-- ITS FALSE NEIGHBOUR: 'it returns false'. Refute it at one input. -/
def flowScalingWrong : ChangeSpec := { name := "flowScaling", fn := fun _ => fun
  | [d1, d2, d3, d4] => { results := [.lit (.bool false)], args := [d1, d2, d3, d4] }
  | _ => none }
def FlowScalingWrongFalsely : Prop := flowScalingRow.holds Try.pinned (OpenSpec.ofChange flowScalingWrong)

/-- 'chargeparklaw21.FlowAnotherEdge': WHATEVER THE INPUT: true; the input reads as it did. -/
def flowAnotherEdgeSpec : ChangeSpec := { name := "flowAnotherEdge", fn := fun _ => fun
  | [d1, d2, d3, d4, d5, d6] => { results := [.lit (.bool true)], args := [d1, d2, d3, d4, d5, d6] }
  | _ => none }
def flowAnotherEdgeRow : OpenClaim := { program := "ytfjbbmgnfpeogaa", sum := "e3529b555f31e37e31be04af8582e0b691b97aedc9787c5af21bb9288b752f48", func := "chargepark/chargeparklaw21.FlowAnotherEdge", spec := "flowAnotherEdge", unfollowed := true, recurses := true, apart := false }
def FlowAnotherEdgeSaid : Prop := flowAnotherEdgeRow.holds Try.pinned (OpenSpec.ofChange flowAnotherEdgeSpec)

/-- ITS FALSE NEIGHBOUR: 'it returns false'. Refute it at one input. -/
def flowAnotherEdgeWrong : ChangeSpec := { name := "flowAnotherEdge", fn := fun _ => fun
  | [d1, d2, d3, d4, d5, d6] => { results := [.lit (.bool false)], args := [d1, d2, d3, d4, d5, d6] }
  | _ => none }
def FlowAnotherEdgeWrongFalsely : Prop := flowAnotherEdgeRow.holds Try.pinned (OpenSpec.ofChange flowAnotherEdgeWrong)

/- THE SECOND FORM. 'bulk': how many values and letters a reading holds, each counted each time it is reached (what is shared counts as often as it is met; a slice's spare places count too). A statement '..UptoSaid' is the law's where the arguments, and the package variables that the reading takes, are together of bulk at most 1048576: NARROWER than '..Said'. Prove '..Said' where nothing that the law and all that it calls make is longer than what came in: it says more and counts as full. Else prove '..UptoSaid'. A law counts once. -/
mutual
def uptoBulk {H : Type} : DataW H → Nat
  | .lit (.string bytes) => bytes.length + 1
  | .lit _ => 1
  | .nil => 1
  | .ptr d => uptoBulk d + 1
  | .slice elems spare => uptoBulkAll elems + uptoBulkAll spare + 1
  | .agg parts => uptoBulkAll parts + 1
  | .iface _ d => uptoBulk d + 1
  | .map entries => uptoBulkEntries entries + 1
  | .held _ => 1
def uptoBulkAll {H : Type} : List (DataW H) → Nat
  | [] => 0
  | d :: r => uptoBulk d + uptoBulkAll r
def uptoBulkEntries {H : Type} : List (Lit × DataW H) → Nat
  | [] => 0
  | x :: r => uptoBulkEntry x + uptoBulkEntries r
def uptoBulkEntry {H : Type} : Lit × DataW H → Nat
  | (.string bytes, d) => bytes.length + uptoBulk d + 1
  | (_, d) => uptoBulk d + 1
 end
def uptoSmall : (H : Type) → List (DataW H) → Bool := fun _ ds => decide (uptoBulkAll ds ≤ 1048576)
def OpenSpec.upto (s : _root_.Go.ChangeSpec) : _root_.Go.OpenSpec := { _root_.Go.OpenSpec.ofChange s with cond := some uptoSmall }

/-- 'chargeparklaw21.FlowMatchesReference', WHERE WHAT IT READS IS OF BULK AT MOST 1048576: true; the input reads as it did. -/
def flowMatchesReferenceUptoRow : OpenClaim := { program := "ytfjbbmgnfpeogaa", sum := "e3529b555f31e37e31be04af8582e0b691b97aedc9787c5af21bb9288b752f48", func := "chargepark/chargeparklaw21.FlowMatchesReference", spec := "flowMatchesReference", unfollowed := true, recurses := true, apart := false, narrowed := true }
def FlowMatchesReferenceUptoSaid : Prop := flowMatchesReferenceUptoRow.holds Try.pinned (OpenSpec.upto flowMatchesReferenceSpec)

/-- 'chargeparklaw21.FlowProof', WHERE WHAT IT READS IS OF BULK AT MOST 1048576: true; the input reads as it did. -/
def flowProofUptoRow : OpenClaim := { program := "ytfjbbmgnfpeogaa", sum := "e3529b555f31e37e31be04af8582e0b691b97aedc9787c5af21bb9288b752f48", func := "chargepark/chargeparklaw21.FlowProof", spec := "flowProof", unfollowed := true, recurses := true, apart := false, narrowed := true }
def FlowProofUptoSaid : Prop := flowProofUptoRow.holds Try.pinned (OpenSpec.upto flowProofSpec)

/-- 'chargeparklaw21.FlowDuality', WHERE WHAT IT READS IS OF BULK AT MOST 1048576: true; the input reads as it did. -/
def flowDualityUptoRow : OpenClaim := { program := "ytfjbbmgnfpeogaa", sum := "e3529b555f31e37e31be04af8582e0b691b97aedc9787c5af21bb9288b752f48", func := "chargepark/chargeparklaw21.FlowDuality", spec := "flowDuality", unfollowed := true, recurses := true, apart := false, narrowed := true }
def FlowDualityUptoSaid : Prop := flowDualityUptoRow.holds Try.pinned (OpenSpec.upto flowDualitySpec)

/-- 'chargeparklaw21.FlowOrder', WHERE WHAT IT READS IS OF BULK AT MOST 1048576: true; the input reads as it did. -/
def flowOrderUptoRow : OpenClaim := { program := "ytfjbbmgnfpeogaa", sum := "e3529b555f31e37e31be04af8582e0b691b97aedc9787c5af21bb9288b752f48", func := "chargepark/chargeparklaw21.FlowOrder", spec := "flowOrder", unfollowed := true, recurses := true, apart := false, narrowed := true }
def FlowOrderUptoSaid : Prop := flowOrderUptoRow.holds Try.pinned (OpenSpec.upto flowOrderSpec)

/-- 'chargeparklaw21.FlowMoreRoom', WHERE WHAT IT READS IS OF BULK AT MOST 1048576: true; the input reads as it did. -/
def flowMoreRoomUptoRow : OpenClaim := { program := "ytfjbbmgnfpeogaa", sum := "e3529b555f31e37e31be04af8582e0b691b97aedc9787c5af21bb9288b752f48", func := "chargepark/chargeparklaw21.FlowMoreRoom", spec := "flowMoreRoom", unfollowed := true, recurses := true, apart := false, narrowed := true }
def FlowMoreRoomUptoSaid : Prop := flowMoreRoomUptoRow.holds Try.pinned (OpenSpec.upto flowMoreRoomSpec)

/-- 'chargeparklaw21.FlowScaling', WHERE WHAT IT READS IS OF BULK AT MOST 1048576: true; the input reads as it did. -/
def flowScalingUptoRow : OpenClaim := { program := "ytfjbbmgnfpeogaa", sum := "e3529b555f31e37e31be04af8582e0b691b97aedc9787c5af21bb9288b752f48", func := "chargepark/chargeparklaw21.FlowScaling", spec := "flowScaling", unfollowed := true, recurses := true, apart := false, narrowed := true }
def FlowScalingUptoSaid : Prop := flowScalingUptoRow.holds Try.pinned (OpenSpec.upto flowScalingSpec)

/-- 'chargeparklaw21.FlowAnotherEdge', WHERE WHAT IT READS IS OF BULK AT MOST 1048576: true; the input reads as it did. -/
def flowAnotherEdgeUptoRow : OpenClaim := { program := "ytfjbbmgnfpeogaa", sum := "e3529b555f31e37e31be04af8582e0b691b97aedc9787c5af21bb9288b752f48", func := "chargepark/chargeparklaw21.FlowAnotherEdge", spec := "flowAnotherEdge", unfollowed := true, recurses := true, apart := false, narrowed := true }
def FlowAnotherEdgeUptoSaid : Prop := flowAnotherEdgeUptoRow.holds Try.pinned (OpenSpec.upto flowAnotherEdgeSpec)

end Rows
end Go.Proofs.Ytfjbbmgnfpeogaa
