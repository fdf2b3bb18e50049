/-
  No cell of these rows narrows 'for every input' (looked for: loops, veiled, ifaces, maps, wideKeys, modest, calm, conditions, laid).
  DERIVED. THE GIVEN ROWS OF THIS SEAT. 9 by the template 'for every input the law returns true; each argument reads behind the call as it read before'; 0 by the template 'total and deterministic' (their statements: YtmgmdnmfalepkaaTotals.lean).
  GIVEN WITH THE SEED: the statements are not yours to turn. If you find one false, say at which input.
  Laid BY PROGRAM, IN A SANDBOX (cutbox-rows.mjs): the forced cells as the released guide's own fill.sh prints them over the translation 1511e52b633b92a1… (all of the seat's roots in one cut). By AI agents, Wed Nov 11 2026. No macro, syntax, notation, axiom, sorry.
-/
import Derived.Test.YtmgmdnmfalepkaaChecked
import GoSem.Claim
import GoSem.ClaimJoined
import GoSem.ClaimMapViews
import Derived.JoinedTies
import Derived.KernelRfl
namespace Go.Proofs.Ytmgmdnmfalepkaa
/- THE CELL 'sum', in the pinned program and in every row, IS THE sha256 OF THE DUMP (.gsa) THAT YtmgmdnmfalepkaaProg.lean LOADS. Nothing in Lean hashes anything: it is a label: what it is worth is what the hold of that sum in a sandbox is worth. -/
noncomputable def Try.pinned : Pinned := { name := "ytmgmdnmfalepkaa", sum := "1511e52b633b92a1cc8a8e8bc117d6b8e2bae8a73bdd2a3948654a79ea4c308d", checked := Try.checked }
namespace Rows
def none {H : Type} : Left H := { results := [], args := [] }

/-- 'laws.FnExactMinimize': WHATEVER THE INPUT: true; the input reads as it did. -/
def fnExactMinimizeSpec : ChangeSpec := { name := "fnExactMinimize", fn := fun _ => fun
  | [d] => { results := [.lit (.bool true)], args := [d] }
  | _ => none }
def fnExactMinimizeRow : OpenClaim := { program := "ytmgmdnmfalepkaa", sum := "1511e52b633b92a1cc8a8e8bc117d6b8e2bae8a73bdd2a3948654a79ea4c308d", func := "loop.example/s0027/laws.FnExactMinimize", spec := "fnExactMinimize", unfollowed := true, recurses := true, plainKeys := false, apart := false }
def FnExactMinimizeSaid : Prop := fnExactMinimizeRow.holds Try.pinned (OpenSpec.ofChange fnExactMinimizeSpec)

/-- ITS FALSE NEIGHBOUR: 'it returns false'. Refute it at one input. -/
def fnExactMinimizeWrong : ChangeSpec := { name := "fnExactMinimize", fn := fun _ => fun
  | [d] => { results := [.lit (.bool false)], args := [d] }
  | _ => none }
def FnExactMinimizeWrongFalsely : Prop := fnExactMinimizeRow.holds Try.pinned (OpenSpec.ofChange fnExactMinimizeWrong)

/-- 'laws.FnExactTrigrams': WHATEVER THE INPUT: true; the input reads as it did. -/
def fnExactTrigramsSpec : ChangeSpec := { name := "fnExactTrigrams", fn := fun _ => fun
  | [d] => { results := [.lit (.bool true)], args := [d] }
  | _ => none }
def fnExactTrigramsRow : OpenClaim := { program := "ytmgmdnmfalepkaa", sum := "1511e52b633b92a1cc8a8e8bc117d6b8e2bae8a73bdd2a3948654a79ea4c308d", func := "loop.example/s0027/laws.FnExactTrigrams", spec := "fnExactTrigrams", unfollowed := true, recurses := true, plainKeys := false, apart := false }
def FnExactTrigramsSaid : Prop := fnExactTrigramsRow.holds Try.pinned (OpenSpec.ofChange fnExactTrigramsSpec)

/-- ITS FALSE NEIGHBOUR: 'it returns false'. Refute it at one input. -/
def fnExactTrigramsWrong : ChangeSpec := { name := "fnExactTrigrams", fn := fun _ => fun
  | [d] => { results := [.lit (.bool false)], args := [d] }
  | _ => none }
def FnExactTrigramsWrongFalsely : Prop := fnExactTrigramsRow.holds Try.pinned (OpenSpec.ofChange fnExactTrigramsWrong)

/-- 'laws.FnExactCandidates': WHATEVER THE INPUT: true; the input reads as it did. -/
def fnExactCandidatesSpec : ChangeSpec := { name := "fnExactCandidates", fn := fun _ => fun
  | [d1, d2] => { results := [.lit (.bool true)], args := [d1, d2] }
  | _ => none }
def fnExactCandidatesRow : OpenClaim := { program := "ytmgmdnmfalepkaa", sum := "1511e52b633b92a1cc8a8e8bc117d6b8e2bae8a73bdd2a3948654a79ea4c308d", func := "loop.example/s0027/laws.FnExactCandidates", spec := "fnExactCandidates", unfollowed := true, recurses := true, plainKeys := false, apart := false }
def FnExactCandidatesSaid : Prop := fnExactCandidatesRow.holds Try.pinned (OpenSpec.ofChange fnExactCandidatesSpec)

/-- ITS FALSE NEIGHBOUR: 'it returns false'. Refute it at one input. -/
def fnExactCandidatesWrong : ChangeSpec := { name := "fnExactCandidates", fn := fun _ => fun
  | [d1, d2] => { results := [.lit (.bool false)], args := [d1, d2] }
  | _ => none }
def FnExactCandidatesWrongFalsely : Prop := fnExactCandidatesRow.holds Try.pinned (OpenSpec.ofChange fnExactCandidatesWrong)

/-- 'laws.FnExactBuildSegment': WHATEVER THE INPUT: true; the input reads as it did. -/
def fnExactBuildSegmentSpec : ChangeSpec := { name := "fnExactBuildSegment", fn := fun _ => fun
  | [d1, d2] => { results := [.lit (.bool true)], args := [d1, d2] }
  | _ => none }
def fnExactBuildSegmentRow : OpenClaim := { program := "ytmgmdnmfalepkaa", sum := "1511e52b633b92a1cc8a8e8bc117d6b8e2bae8a73bdd2a3948654a79ea4c308d", func := "loop.example/s0027/laws.FnExactBuildSegment", spec := "fnExactBuildSegment", inPlace := ["internal/bytealg.IndexByte"], unfollowed := true, recurses := true, plainKeys := false, apart := false }
def FnExactBuildSegmentSaid : Prop := fnExactBuildSegmentRow.holds Try.pinned (OpenSpec.ofChange fnExactBuildSegmentSpec)

/-- ITS FALSE NEIGHBOUR: 'it returns false'. Refute it at one input. -/
def fnExactBuildSegmentWrong : ChangeSpec := { name := "fnExactBuildSegment", fn := fun _ => fun
  | [d1, d2] => { results := [.lit (.bool false)], args := [d1, d2] }
  | _ => none }
def FnExactBuildSegmentWrongFalsely : Prop := fnExactBuildSegmentRow.holds Try.pinned (OpenSpec.ofChange fnExactBuildSegmentWrong)

/-- 'laws.FnExactDecodeSegment': WHATEVER THE INPUT: true; the input reads as it did. -/
def fnExactDecodeSegmentSpec : ChangeSpec := { name := "fnExactDecodeSegment", fn := fun _ => fun
  | [d] => { results := [.lit (.bool true)], args := [d] }
  | _ => none }
def fnExactDecodeSegmentRow : OpenClaim := { program := "ytmgmdnmfalepkaa", sum := "1511e52b633b92a1cc8a8e8bc117d6b8e2bae8a73bdd2a3948654a79ea4c308d", func := "loop.example/s0027/laws.FnExactDecodeSegment", spec := "fnExactDecodeSegment", inPlace := ["internal/bytealg.IndexByte"], unfollowed := true, recurses := true, plainKeys := false, apart := false }
def FnExactDecodeSegmentSaid : Prop := fnExactDecodeSegmentRow.holds Try.pinned (OpenSpec.ofChange fnExactDecodeSegmentSpec)

/-- ITS FALSE NEIGHBOUR: 'it returns false'. Refute it at one input. -/
def fnExactDecodeSegmentWrong : ChangeSpec := { name := "fnExactDecodeSegment", fn := fun _ => fun
  | [d] => { results := [.lit (.bool false)], args := [d] }
  | _ => none }
def FnExactDecodeSegmentWrongFalsely : Prop := fnExactDecodeSegmentRow.holds Try.pinned (OpenSpec.ofChange fnExactDecodeSegmentWrong)

/-- 'laws.FnExactMergeSegments': WHATEVER THE INPUT: true; the input reads as it did. -/
def fnExactMergeSegmentsSpec : ChangeSpec := { name := "fnExactMergeSegments", fn := fun _ => fun
  | [d1, d2] => { results := [.lit (.bool true)], args := [d1, d2] }
  | _ => none }
def fnExactMergeSegmentsRow : OpenClaim := { program := "ytmgmdnmfalepkaa", sum := "1511e52b633b92a1cc8a8e8bc117d6b8e2bae8a73bdd2a3948654a79ea4c308d", func := "loop.example/s0027/laws.FnExactMergeSegments", spec := "fnExactMergeSegments", inPlace := ["internal/bytealg.IndexByte"], unfollowed := true, recurses := true, plainKeys := false, apart := false }
def FnExactMergeSegmentsSaid : Prop := fnExactMergeSegmentsRow.holds Try.pinned (OpenSpec.ofChange fnExactMergeSegmentsSpec)

/-- ITS FALSE NEIGHBOUR: 'it returns false'. Refute it at one input. -/
def fnExactMergeSegmentsWrong : ChangeSpec := { name := "fnExactMergeSegments", fn := fun _ => fun
  | [d1, d2] => { results := [.lit (.bool false)], args := [d1, d2] }
  | _ => none }
def FnExactMergeSegmentsWrongFalsely : Prop := fnExactMergeSegmentsRow.holds Try.pinned (OpenSpec.ofChange fnExactMergeSegmentsWrong)

/-- 'laws.FnExactEncodeSegment': WHATEVER THE INPUT: true; the input reads as it did. -/
def fnExactEncodeSegmentSpec : ChangeSpec := { name := "fnExactEncodeSegment", fn := fun _ => fun
  | [d] => { results := [.lit (.bool true)], args := [d] }
  | _ => none }
def fnExactEncodeSegmentRow : OpenClaim := { program := "ytmgmdnmfalepkaa", sum := "1511e52b633b92a1cc8a8e8bc117d6b8e2bae8a73bdd2a3948654a79ea4c308d", func := "loop.example/s0027/laws.FnExactEncodeSegment", spec := "fnExactEncodeSegment", inPlace := ["internal/bytealg.IndexByte"], unfollowed := true, recurses := true, plainKeys := false, apart := false }
def FnExactEncodeSegmentSaid : Prop := fnExactEncodeSegmentRow.holds Try.pinned (OpenSpec.ofChange fnExactEncodeSegmentSpec)

/-- ITS FALSE NEIGHBOUR: 'it returns false'. Refute it at one input. -/
def fnExactEncodeSegmentWrong : ChangeSpec := { name := "fnExactEncodeSegment", fn := fun _ => fun
  | [d] => { results := [.lit (.bool false)], args := [d] }
  | _ => none }
def FnExactEncodeSegmentWrongFalsely : Prop := fnExactEncodeSegmentRow.holds Try.pinned (OpenSpec.ofChange fnExactEncodeSegmentWrong)

/-- 'laws.FnExactSeal': WHATEVER THE INPUT: true; the input reads as it did. -/
def fnExactSealSpec : ChangeSpec := { name := "fnExactSeal", fn := fun _ => fun
  | [d] => { results := [.lit (.bool true)], args := [d] }
  | _ => none }
def fnExactSealRow : OpenClaim := { program := "ytmgmdnmfalepkaa", sum := "1511e52b633b92a1cc8a8e8bc117d6b8e2bae8a73bdd2a3948654a79ea4c308d", func := "loop.example/s0027/laws.FnExactSeal", spec := "fnExactSeal", inPlace := ["internal/bytealg.IndexByte"], unfollowed := true, recurses := true, plainKeys := false, apart := false }
def FnExactSealSaid : Prop := fnExactSealRow.holds Try.pinned (OpenSpec.ofChange fnExactSealSpec)

/-- ITS FALSE NEIGHBOUR: 'it returns false'. Refute it at one input. -/
def fnExactSealWrong : ChangeSpec := { name := "fnExactSeal", fn := fun _ => fun
  | [d] => { results := [.lit (.bool false)], args := [d] }
  | _ => none }
def FnExactSealWrongFalsely : Prop := fnExactSealRow.holds Try.pinned (OpenSpec.ofChange fnExactSealWrong)

/-- 'laws.FnCodec': WHATEVER THE INPUT: true; the input reads as it did. -/
def fnCodecSpec : ChangeSpec := { name := "fnCodec", fn := fun _ => fun
  | [d] => { results := [.lit (.bool true)], args := [d] }
  | _ => none }
def fnCodecRow : OpenClaim := { program := "ytmgmdnmfalepkaa", sum := "1511e52b633b92a1cc8a8e8bc117d6b8e2bae8a73bdd2a3948654a79ea4c308d", func := "loop.example/s0027/laws.FnCodec", spec := "fnCodec", inPlace := ["internal/bytealg.IndexByte"], unfollowed := true, recurses := true, plainKeys := false, apart := false }
def FnCodecSaid : Prop := fnCodecRow.holds Try.pinned (OpenSpec.ofChange fnCodecSpec)

/-- ITS FALSE NEIGHBOUR: 'it returns false'. Refute it at one input. -/
def fnCodecWrong : ChangeSpec := { name := "fnCodec", fn := fun _ => fun
  | [d] => { results := [.lit (.bool false)], args := [d] }
  | _ => none }
def FnCodecWrongFalsely : Prop := fnCodecRow.holds Try.pinned (OpenSpec.ofChange fnCodecWrong)

/- THE SECOND FORM. 'bulk': how many values and letters a reading holds, each counted each time it is reached (what is shared counts as often as it is met; a slice's spare places count too). A statement '..UptoSaid' is the law's where the arguments, and the package variables that the reading takes, are together of bulk at most 1048576: NARROWER than '..Said'. Prove '..Said' where nothing that the law and all that it calls make is longer than what came in: it says more and counts as full. Else prove '..UptoSaid'. A law counts once. -/
mutual
def uptoBulk {H : Type} : DataW H → Nat
  | .lit (.string bytes) => bytes.length + 1
  | .lit _ => 1
  | .nil => 1
  | .ptr d => uptoBulk d + 1
  | .slice elems spare => uptoBulkAll elems + uptoBulkAll spare + 1
  | .agg parts => uptoBulkAll parts + 1
  | .iface _ d => uptoBulk d + 1
  | .map entries => uptoBulkEntries entries + 1
  | .held _ => 1
def uptoBulkAll {H : Type} : List (DataW H) → Nat
  | [] => 0
  | d :: r => uptoBulk d + uptoBulkAll r
def uptoBulkEntries {H : Type} : List (Lit × DataW H) → Nat
  | [] => 0
  | x :: r => uptoBulkEntry x + uptoBulkEntries r
def uptoBulkEntry {H : Type} : Lit × DataW H → Nat
  | (.string bytes, d) => bytes.length + uptoBulk d + 1
  | (_, d) => uptoBulk d + 1
 end
def uptoSmall : (H : Type) → List (DataW H) → Bool := fun _ ds => decide (uptoBulkAll ds ≤ 1048576)
def OpenSpec.upto (s : _root_.Go.ChangeSpec) : _root_.Go.OpenSpec := { _root_.Go.OpenSpec.ofChange s with cond := some uptoSmall }

/-- 'laws.FnExactMinimize', WHERE WHAT IT READS IS OF BULK AT MOST 1048576: true; the input reads as it did. -/
def fnExactMinimizeUptoRow : OpenClaim := { program := "ytmgmdnmfalepkaa", sum := "1511e52b633b92a1cc8a8e8bc117d6b8e2bae8a73bdd2a3948654a79ea4c308d", func := "loop.example/s0027/laws.FnExactMinimize", spec := "fnExactMinimize", unfollowed := true, recurses := true, plainKeys := false, apart := false, narrowed := true }
def FnExactMinimizeUptoSaid : Prop := fnExactMinimizeUptoRow.holds Try.pinned (OpenSpec.upto fnExactMinimizeSpec)

/-- 'laws.FnExactTrigrams', WHERE WHAT IT READS IS OF BULK AT MOST 1048576: true; the input reads as it did. -/
def fnExactTrigramsUptoRow : OpenClaim := { program := "ytmgmdnmfalepkaa", sum := "1511e52b633b92a1cc8a8e8bc117d6b8e2bae8a73bdd2a3948654a79ea4c308d", func := "loop.example/s0027/laws.FnExactTrigrams", spec := "fnExactTrigrams", unfollowed := true, recurses := true, plainKeys := false, apart := false, narrowed := true }
def FnExactTrigramsUptoSaid : Prop := fnExactTrigramsUptoRow.holds Try.pinned (OpenSpec.upto fnExactTrigramsSpec)

/-- 'laws.FnExactCandidates', WHERE WHAT IT READS IS OF BULK AT MOST 1048576: true; the input reads as it did. -/
def fnExactCandidatesUptoRow : OpenClaim := { program := "ytmgmdnmfalepkaa", sum := "1511e52b633b92a1cc8a8e8bc117d6b8e2bae8a73bdd2a3948654a79ea4c308d", func := "loop.example/s0027/laws.FnExactCandidates", spec := "fnExactCandidates", unfollowed := true, recurses := true, plainKeys := false, apart := false, narrowed := true }
def FnExactCandidatesUptoSaid : Prop := fnExactCandidatesUptoRow.holds Try.pinned (OpenSpec.upto fnExactCandidatesSpec)

/-- 'laws.FnExactBuildSegment', WHERE WHAT IT READS IS OF BULK AT MOST 1048576: true; the input reads as it did. -/
def fnExactBuildSegmentUptoRow : OpenClaim := { program := "ytmgmdnmfalepkaa", sum := "1511e52b633b92a1cc8a8e8bc117d6b8e2bae8a73bdd2a3948654a79ea4c308d", func := "loop.example/s0027/laws.FnExactBuildSegment", spec := "fnExactBuildSegment", inPlace := ["internal/bytealg.IndexByte"], unfollowed := true, recurses := true, plainKeys := false, apart := false, narrowed := true }
def FnExactBuildSegmentUptoSaid : Prop := fnExactBuildSegmentUptoRow.holds Try.pinned (OpenSpec.upto fnExactBuildSegmentSpec)

/-- 'laws.FnExactDecodeSegment', WHERE WHAT IT READS IS OF BULK AT MOST 1048576: true; the input reads as it did. -/
def fnExactDecodeSegmentUptoRow : OpenClaim := { program := "ytmgmdnmfalepkaa", sum := "1511e52b633b92a1cc8a8e8bc117d6b8e2bae8a73bdd2a3948654a79ea4c308d", func := "loop.example/s0027/laws.FnExactDecodeSegment", spec := "fnExactDecodeSegment", inPlace := ["internal/bytealg.IndexByte"], unfollowed := true, recurses := true, plainKeys := false, apart := false, narrowed := true }
def FnExactDecodeSegmentUptoSaid : Prop := fnExactDecodeSegmentUptoRow.holds Try.pinned (OpenSpec.upto fnExactDecodeSegmentSpec)

/-- 'laws.FnExactMergeSegments', WHERE WHAT IT READS IS OF BULK AT MOST 1048576: true; the input reads as it did. -/
def fnExactMergeSegmentsUptoRow : OpenClaim := { program := "ytmgmdnmfalepkaa", sum := "1511e52b633b92a1cc8a8e8bc117d6b8e2bae8a73bdd2a3948654a79ea4c308d", func := "loop.example/s0027/laws.FnExactMergeSegments", spec := "fnExactMergeSegments", inPlace := ["internal/bytealg.IndexByte"], unfollowed := true, recurses := true, plainKeys := false, apart := false, narrowed := true }
def FnExactMergeSegmentsUptoSaid : Prop := fnExactMergeSegmentsUptoRow.holds Try.pinned (OpenSpec.upto fnExactMergeSegmentsSpec)

/-- 'laws.FnExactEncodeSegment', WHERE WHAT IT READS IS OF BULK AT MOST 1048576: true; the input reads as it did. -/
def fnExactEncodeSegmentUptoRow : OpenClaim := { program := "ytmgmdnmfalepkaa", sum := "1511e52b633b92a1cc8a8e8bc117d6b8e2bae8a73bdd2a3948654a79ea4c308d", func := "loop.example/s0027/laws.FnExactEncodeSegment", spec := "fnExactEncodeSegment", inPlace := ["internal/bytealg.IndexByte"], unfollowed := true, recurses := true, plainKeys := false, apart := false, narrowed := true }
def FnExactEncodeSegmentUptoSaid : Prop := fnExactEncodeSegmentUptoRow.holds Try.pinned (OpenSpec.upto fnExactEncodeSegmentSpec)

/-- 'laws.FnExactSeal', WHERE WHAT IT READS IS OF BULK AT MOST 1048576: true; the input reads as it did. -/
def fnExactSealUptoRow : OpenClaim := { program := "ytmgmdnmfalepkaa", sum := "1511e52b633b92a1cc8a8e8bc117d6b8e2bae8a73bdd2a3948654a79ea4c308d", func := "loop.example/s0027/laws.FnExactSeal", spec := "fnExactSeal", inPlace := ["internal/bytealg.IndexByte"], unfollowed := true, recurses := true, plainKeys := false, apart := false, narrowed := true }
def FnExactSealUptoSaid : Prop := fnExactSealUptoRow.holds Try.pinned (OpenSpec.upto fnExactSealSpec)

/-- 'laws.FnCodec', WHERE WHAT IT READS IS OF BULK AT MOST 1048576: true; the input reads as it did. -/
def fnCodecUptoRow : OpenClaim := { program := "ytmgmdnmfalepkaa", sum := "1511e52b633b92a1cc8a8e8bc117d6b8e2bae8a73bdd2a3948654a79ea4c308d", func := "loop.example/s0027/laws.FnCodec", spec := "fnCodec", inPlace := ["internal/bytealg.IndexByte"], unfollowed := true, recurses := true, plainKeys := false, apart := false, narrowed := true }
def FnCodecUptoSaid : Prop := fnCodecUptoRow.holds Try.pinned (OpenSpec.upto fnCodecSpec)

end Rows
end Go.Proofs.Ytmgmdnmfalepkaa
