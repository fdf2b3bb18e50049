/-
  No cell of these rows narrows 'for every input' (looked for: loops, veiled, ifaces, maps, wideKeys, modest, calm, conditions, laid).
  DERIVED. THE GIVEN ROWS OF THIS SEAT. 3 by the template 'for every input the law returns true; each argument reads behind the call as it read before'; 0 by the template 'total and deterministic' (their statements: YtmgmdnmfalepkaaGreatTotals.lean).
  GIVEN WITH THE SEED: the statements are not yours to turn. If you find one false, say at which input.
  Laid BY PROGRAM, IN A SANDBOX (cutbox-rows.mjs): the forced cells as the released guide's own fill.sh prints them over the translation 5791fdc3a210ba02… (all of the seat's roots in one cut). By AI agents, Wed Nov 11 2026. No macro, syntax, notation, axiom, sorry.
-/
import Derived.Test.YtmgmdnmfalepkaaGreatChecked
import GoSem.Claim
import GoSem.ClaimJoined
import GoSem.ClaimMapViews
import Derived.JoinedTies
import Derived.KernelRfl
namespace Go.Proofs.YtmgmdnmfalepkaaGreat
/- THE CELL 'sum', in the pinned program and in every row, IS THE sha256 OF THE DUMP (.gsa) THAT YtmgmdnmfalepkaaGreatProg.lean LOADS. Nothing in Lean hashes anything: it is a label: what it is worth is what the hold of that sum in a sandbox is worth. -/
noncomputable def Tryz.pinned : Pinned := { name := "ytmgmdnmfalepkaagreat", sum := "5791fdc3a210ba02f96e55757c8bf514e984582d231c04436bb9f3df5f60b95d", checked := Tryz.checked }
namespace Rows
def none {H : Type} : Left H := { results := [], args := [] }

/-- 'laws.FnExactIngest': WHATEVER THE INPUT: true; the input reads as it did. -/
def fnExactIngestSpec : ChangeSpec := { name := "fnExactIngest", fn := fun _ => fun
  | [d1, d2] => { results := [.lit (.bool true)], args := [d1, d2] }
  | _ => none }
def fnExactIngestRow : OpenClaim := { program := "ytmgmdnmfalepkaagreat", sum := "5791fdc3a210ba02f96e55757c8bf514e984582d231c04436bb9f3df5f60b95d", func := "loop.example/s0027/laws.FnExactIngest", spec := "fnExactIngest", inPlace := ["internal/bytealg.IndexByte", "internal/bytealg.Index"], unfollowed := true, recurses := true, named := ["internal/bytealg.MaxLen"], apart := false }
def FnExactIngestSaid : Prop := fnExactIngestRow.holds Tryz.pinned (OpenSpec.ofChange fnExactIngestSpec)

/-- ITS FALSE NEIGHBOUR: 'it returns false'. Refute it at one input. -/
def fnExactIngestWrong : ChangeSpec := { name := "fnExactIngest", fn := fun _ => fun
  | [d1, d2] => { results := [.lit (.bool false)], args := [d1, d2] }
  | _ => none }
def FnExactIngestWrongFalsely : Prop := fnExactIngestRow.holds Tryz.pinned (OpenSpec.ofChange fnExactIngestWrong)

/-- 'laws.FnExactMerge': WHATEVER THE INPUT: true; the input reads as it did. -/
def fnExactMergeSpec : ChangeSpec := { name := "fnExactMerge", fn := fun _ => fun
  | [d1, d2] => { results := [.lit (.bool true)], args := [d1, d2] }
  | _ => none }
def fnExactMergeRow : OpenClaim := { program := "ytmgmdnmfalepkaagreat", sum := "5791fdc3a210ba02f96e55757c8bf514e984582d231c04436bb9f3df5f60b95d", func := "loop.example/s0027/laws.FnExactMerge", spec := "fnExactMerge", inPlace := ["internal/bytealg.IndexByte", "slices.overlaps[loop.example/s0027/impl.Segment]"], unfollowed := true, recurses := true, apart := false }
def FnExactMergeSaid : Prop := fnExactMergeRow.holds Tryz.pinned (OpenSpec.ofChange fnExactMergeSpec)

/-- ITS FALSE NEIGHBOUR: 'it returns false'. Refute it at one input. -/
def fnExactMergeWrong : ChangeSpec := { name := "fnExactMerge", fn := fun _ => fun
  | [d1, d2] => { results := [.lit (.bool false)], args := [d1, d2] }
  | _ => none }
def FnExactMergeWrongFalsely : Prop := fnExactMergeRow.holds Tryz.pinned (OpenSpec.ofChange fnExactMergeWrong)

/-- 'laws.FnFull': WHATEVER THE INPUT: true; the input reads as it did. -/
def fnFullSpec : ChangeSpec := { name := "fnFull", fn := fun _ => fun
  | [d] => { results := [.lit (.bool true)], args := [d] }
  | _ => none }
def fnFullRow : OpenClaim := { program := "ytmgmdnmfalepkaagreat", sum := "5791fdc3a210ba02f96e55757c8bf514e984582d231c04436bb9f3df5f60b95d", func := "loop.example/s0027/laws.FnFull", spec := "fnFull", inPlace := ["internal/bytealg.IndexByte", "internal/bytealg.Index"], unfollowed := true, recurses := true, named := ["internal/bytealg.MaxLen"], apart := false }
def FnFullSaid : Prop := fnFullRow.holds Tryz.pinned (OpenSpec.ofChange fnFullSpec)

/-- ITS FALSE NEIGHBOUR: 'it returns false'. Refute it at one input. -/
def fnFullWrong : ChangeSpec := { name := "fnFull", fn := fun _ => fun
  | [d] => { results := [.lit (.bool false)], args := [d] }
  | _ => none }
def FnFullWrongFalsely : Prop := fnFullRow.holds Tryz.pinned (OpenSpec.ofChange fnFullWrong)

/- THE SECOND FORM. 'bulk': how many values and letters a reading holds, each counted each time it is reached (what is shared counts as often as it is met; a slice's spare places count too). A statement '..UptoSaid' is the law's where the arguments, and the package variables that the reading takes, are together of bulk at most 1048576: NARROWER than '..Said'. Prove '..Said' where nothing that the law and all that it calls make is longer than what came in: it says more and counts as full. Else prove '..UptoSaid'. A law counts once. -/
mutual
def uptoBulk {H : Type} : DataW H → Nat
  | .lit (.string bytes) => bytes.length + 1
  | .lit _ => 1
  | .nil => 1
  | .ptr d => uptoBulk d + 1
  | .slice elems spare => uptoBulkAll elems + uptoBulkAll spare + 1
  | .agg parts => uptoBulkAll parts + 1
  | .iface _ d => uptoBulk d + 1
  | .map entries => uptoBulkEntries entries + 1
  | .held _ => 1
def uptoBulkAll {H : Type} : List (DataW H) → Nat
  | [] => 0
  | d :: r => uptoBulk d + uptoBulkAll r
def uptoBulkEntries {H : Type} : List (Lit × DataW H) → Nat
  | [] => 0
  | x :: r => uptoBulkEntry x + uptoBulkEntries r
def uptoBulkEntry {H : Type} : Lit × DataW H → Nat
  | (.string bytes, d) => bytes.length + uptoBulk d + 1
  | (_, d) => uptoBulk d + 1
 end
def uptoSmall : (H : Type) → List (DataW H) → Bool := fun _ ds => decide (uptoBulkAll ds ≤ 1048576)
def OpenSpec.upto (s : _root_.Go.ChangeSpec) : _root_.Go.OpenSpec := { _root_.Go.OpenSpec.ofChange s with cond := some uptoSmall }

/-- 'laws.FnExactIngest', WHERE WHAT IT READS IS OF BULK AT MOST 1048576: true; the input reads as it did. -/
def fnExactIngestUptoRow : OpenClaim := { program := "ytmgmdnmfalepkaagreat", sum := "5791fdc3a210ba02f96e55757c8bf514e984582d231c04436bb9f3df5f60b95d", func := "loop.example/s0027/laws.FnExactIngest", spec := "fnExactIngest", inPlace := ["internal/bytealg.IndexByte", "internal/bytealg.Index"], unfollowed := true, recurses := true, named := ["internal/bytealg.MaxLen"], apart := false, narrowed := true }
def FnExactIngestUptoSaid : Prop := fnExactIngestUptoRow.holds Tryz.pinned (OpenSpec.upto fnExactIngestSpec)

/-- 'laws.FnExactMerge', WHERE WHAT IT READS IS OF BULK AT MOST 1048576: true; the input reads as it did. -/
def fnExactMergeUptoRow : OpenClaim := { program := "ytmgmdnmfalepkaagreat", sum := "5791fdc3a210ba02f96e55757c8bf514e984582d231c04436bb9f3df5f60b95d", func := "loop.example/s0027/laws.FnExactMerge", spec := "fnExactMerge", inPlace := ["internal/bytealg.IndexByte", "slices.overlaps[loop.example/s0027/impl.Segment]"], unfollowed := true, recurses := true, apart := false, narrowed := true }
def FnExactMergeUptoSaid : Prop := fnExactMergeUptoRow.holds Tryz.pinned (OpenSpec.upto fnExactMergeSpec)

/-- 'laws.FnFull', WHERE WHAT IT READS IS OF BULK AT MOST 1048576: true; the input reads as it did. -/
def fnFullUptoRow : OpenClaim := { program := "ytmgmdnmfalepkaagreat", sum := "5791fdc3a210ba02f96e55757c8bf514e984582d231c04436bb9f3df5f60b95d", func := "loop.example/s0027/laws.FnFull", spec := "fnFull", inPlace := ["internal/bytealg.IndexByte", "internal/bytealg.Index"], unfollowed := true, recurses := true, named := ["internal/bytealg.MaxLen"], apart := false, narrowed := true }
def FnFullUptoSaid : Prop := fnFullUptoRow.holds Tryz.pinned (OpenSpec.upto fnFullSpec)

end Rows
end Go.Proofs.YtmgmdnmfalepkaaGreat
