/-
  No cell of these rows narrows 'for every input' (looked for: loops, veiled, ifaces, maps, wideKeys, modest, calm, conditions, laid).
  DERIVED. THE GIVEN ROWS OF THIS SEAT. 5 by the template 'for every input the law returns true; each argument reads behind the call as it read before'; 0 by the template 'total and deterministic' (their statements: YtnpmkcbbmeekaaaTotals.lean).
  GIVEN WITH THE SEED: the statements are not yours to turn. If you find one false, say at which input.
  Laid BY PROGRAM, IN A SANDBOX (cutbox-rows.mjs): the forced cells as the released guide's own fill.sh prints them over the translation dd39986d8fe7e1fe… (all of the seat's roots in one cut). By AI agents, Wed Nov 11 2026. No macro, syntax, notation, axiom, sorry.
-/
import Derived.Test.YtnpmkcbbmeekaaaChecked
import GoSem.Claim
import GoSem.ClaimJoined
import GoSem.ClaimMapViews
import Derived.JoinedTies
import Derived.KernelRfl
namespace Go.Proofs.Ytnpmkcbbmeekaaa
/- THE CELL 'sum', in the pinned program and in every row, IS THE sha256 OF THE DUMP (.gsa) THAT YtnpmkcbbmeekaaaProg.lean LOADS. Nothing in Lean hashes anything: it is a label: what it is worth is what the hold of that sum in a sandbox is worth. -/
noncomputable def Try.pinned : Pinned := { name := "ytnpmkcbbmeekaaa", sum := "dd39986d8fe7e1fe26088fd37122cf8a3d449bbdb3beb8e0c4401d277d3bdd49", checked := Try.checked }
namespace Rows
def none {H : Type} : Left H := { results := [], args := [] }

/-- 'laws.FnExactConstants': WHATEVER THE INPUT: true; the input reads as it did. -/
def fnExactConstantsSpec : ChangeSpec := { name := "fnExactConstants", fn := fun _ => fun
  | [] => { results := [.lit (.bool true)], args := [] }
  | _ => none }
def fnExactConstantsRow : OpenClaim := { program := "ytnpmkcbbmeekaaa", sum := "dd39986d8fe7e1fe26088fd37122cf8a3d449bbdb3beb8e0c4401d277d3bdd49", func := "loop.example/s0027/laws.FnExactConstants", spec := "fnExactConstants", apart := false }
def FnExactConstantsSaid : Prop := fnExactConstantsRow.holds Try.pinned (OpenSpec.ofChange fnExactConstantsSpec)

/-- ITS FALSE NEIGHBOUR: 'it returns false'. Refute it at one input. -/
def fnExactConstantsWrong : ChangeSpec := { name := "fnExactConstants", fn := fun _ => fun
  | [] => { results := [.lit (.bool false)], args := [] }
  | _ => none }
def FnExactConstantsWrongFalsely : Prop := fnExactConstantsRow.holds Try.pinned (OpenSpec.ofChange fnExactConstantsWrong)

/-- 'laws.FnExactEvalQuery': WHATEVER THE INPUT: true; the input reads as it did. -/
def fnExactEvalQuerySpec : ChangeSpec := { name := "fnExactEvalQuery", fn := fun _ => fun
  | [d1, d2] => { results := [.lit (.bool true)], args := [d1, d2] }
  | _ => none }
def fnExactEvalQueryRow : OpenClaim := { program := "ytnpmkcbbmeekaaa", sum := "dd39986d8fe7e1fe26088fd37122cf8a3d449bbdb3beb8e0c4401d277d3bdd49", func := "loop.example/s0027/laws.FnExactEvalQuery", spec := "fnExactEvalQuery", unfollowed := true, recurses := true, apart := false }
def FnExactEvalQuerySaid : Prop := fnExactEvalQueryRow.holds Try.pinned (OpenSpec.ofChange fnExactEvalQuerySpec)

/-- ITS FALSE NEIGHBOUR: 'it returns false'. Refute it at one input. -/
def fnExactEvalQueryWrong : ChangeSpec := { name := "fnExactEvalQuery", fn := fun _ => fun
  | [d1, d2] => { results := [.lit (.bool false)], args := [d1, d2] }
  | _ => none }
def FnExactEvalQueryWrongFalsely : Prop := fnExactEvalQueryRow.holds Try.pinned (OpenSpec.ofChange fnExactEvalQueryWrong)

/-- 'laws.FnExactRunDFA': WHATEVER THE INPUT: true; the input reads as it did. -/
def fnExactRunDFASpec : ChangeSpec := { name := "fnExactRunDFA", fn := fun _ => fun
  | [d1, d2] => { results := [.lit (.bool true)], args := [d1, d2] }
  | _ => none }
def fnExactRunDFARow : OpenClaim := { program := "ytnpmkcbbmeekaaa", sum := "dd39986d8fe7e1fe26088fd37122cf8a3d449bbdb3beb8e0c4401d277d3bdd49", func := "loop.example/s0027/laws.FnExactRunDFA", spec := "fnExactRunDFA", unfollowed := true, recurses := true, apart := false }
def FnExactRunDFASaid : Prop := fnExactRunDFARow.holds Try.pinned (OpenSpec.ofChange fnExactRunDFASpec)

/-- ITS FALSE NEIGHBOUR: 'it returns false'. Refute it at one input. -/
def fnExactRunDFAWrong : ChangeSpec := { name := "fnExactRunDFA", fn := fun _ => fun
  | [d1, d2] => { results := [.lit (.bool false)], args := [d1, d2] }
  | _ => none }
def FnExactRunDFAWrongFalsely : Prop := fnExactRunDFARow.holds Try.pinned (OpenSpec.ofChange fnExactRunDFAWrong)

/-- 'laws.FnExactSplitLines': WHATEVER THE INPUT: true; the input reads as it did. -/
def fnExactSplitLinesSpec : ChangeSpec := { name := "fnExactSplitLines", fn := fun _ => fun
  | [d] => { results := [.lit (.bool true)], args := [d] }
  | _ => none }
def fnExactSplitLinesRow : OpenClaim := { program := "ytnpmkcbbmeekaaa", sum := "dd39986d8fe7e1fe26088fd37122cf8a3d449bbdb3beb8e0c4401d277d3bdd49", func := "loop.example/s0027/laws.FnExactSplitLines", spec := "fnExactSplitLines", inPlace := ["internal/bytealg.IndexByte", "internal/bytealg.Index"], named := ["internal/bytealg.MaxLen"], apart := false }
def FnExactSplitLinesSaid : Prop := fnExactSplitLinesRow.holds Try.pinned (OpenSpec.ofChange fnExactSplitLinesSpec)

/-- ITS FALSE NEIGHBOUR: 'it returns false'. Refute it at one input. -/
def fnExactSplitLinesWrong : ChangeSpec := { name := "fnExactSplitLines", fn := fun _ => fun
  | [d] => { results := [.lit (.bool false)], args := [d] }
  | _ => none }
def FnExactSplitLinesWrongFalsely : Prop := fnExactSplitLinesRow.holds Try.pinned (OpenSpec.ofChange fnExactSplitLinesWrong)

/-- 'laws.FnExactValidPattern': WHATEVER THE INPUT: true; the input reads as it did. -/
def fnExactValidPatternSpec : ChangeSpec := { name := "fnExactValidPattern", fn := fun _ => fun
  | [d] => { results := [.lit (.bool true)], args := [d] }
  | _ => none }
def fnExactValidPatternRow : OpenClaim := { program := "ytnpmkcbbmeekaaa", sum := "dd39986d8fe7e1fe26088fd37122cf8a3d449bbdb3beb8e0c4401d277d3bdd49", func := "loop.example/s0027/laws.FnExactValidPattern", spec := "fnExactValidPattern", unfollowed := true, recurses := true, apart := false }
def FnExactValidPatternSaid : Prop := fnExactValidPatternRow.holds Try.pinned (OpenSpec.ofChange fnExactValidPatternSpec)

/-- ITS FALSE NEIGHBOUR: 'it returns false'. Refute it at one input. -/
def fnExactValidPatternWrong : ChangeSpec := { name := "fnExactValidPattern", fn := fun _ => fun
  | [d] => { results := [.lit (.bool false)], args := [d] }
  | _ => none }
def FnExactValidPatternWrongFalsely : Prop := fnExactValidPatternRow.holds Try.pinned (OpenSpec.ofChange fnExactValidPatternWrong)

/- THE SECOND FORM. 'bulk': how many values and letters a reading holds, each counted each time it is reached (what is shared counts as often as it is met; a slice's spare places count too). A statement '..UptoSaid' is the law's where the arguments, and the package variables that the reading takes, are together of bulk at most 1048576: NARROWER than '..Said'. Prove '..Said' where nothing that the law and all that it calls make is longer than what came in: it says more and counts as full. Else prove '..UptoSaid'. A law counts once. -/
mutual
def uptoBulk {H : Type} : DataW H → Nat
  | .lit (.string bytes) => bytes.length + 1
  | .lit _ => 1
  | .nil => 1
  | .ptr d => uptoBulk d + 1
  | .slice elems spare => uptoBulkAll elems + uptoBulkAll spare + 1
  | .agg parts => uptoBulkAll parts + 1
  | .iface _ d => uptoBulk d + 1
  | .map entries => uptoBulkEntries entries + 1
  | .held _ => 1
def uptoBulkAll {H : Type} : List (DataW H) → Nat
  | [] => 0
  | d :: r => uptoBulk d + uptoBulkAll r
def uptoBulkEntries {H : Type} : List (Lit × DataW H) → Nat
  | [] => 0
  | x :: r => uptoBulkEntry x + uptoBulkEntries r
def uptoBulkEntry {H : Type} : Lit × DataW H → Nat
  | (.string bytes, d) => bytes.length + uptoBulk d + 1
  | (_, d) => uptoBulk d + 1
 end
def uptoSmall : (H : Type) → List (DataW H) → Bool := fun _ ds => decide (uptoBulkAll ds ≤ 1048576)
def OpenSpec.upto (s : _root_.Go.ChangeSpec) : _root_.Go.OpenSpec := { _root_.Go.OpenSpec.ofChange s with cond := some uptoSmall }

/-- 'laws.FnExactConstants', WHERE WHAT IT READS IS OF BULK AT MOST 1048576: true; the input reads as it did. -/
def fnExactConstantsUptoRow : OpenClaim := { program := "ytnpmkcbbmeekaaa", sum := "dd39986d8fe7e1fe26088fd37122cf8a3d449bbdb3beb8e0c4401d277d3bdd49", func := "loop.example/s0027/laws.FnExactConstants", spec := "fnExactConstants", apart := false, narrowed := true }
def FnExactConstantsUptoSaid : Prop := fnExactConstantsUptoRow.holds Try.pinned (OpenSpec.upto fnExactConstantsSpec)

/-- 'laws.FnExactEvalQuery', WHERE WHAT IT READS IS OF BULK AT MOST 1048576: true; the input reads as it did. -/
def fnExactEvalQueryUptoRow : OpenClaim := { program := "ytnpmkcbbmeekaaa", sum := "dd39986d8fe7e1fe26088fd37122cf8a3d449bbdb3beb8e0c4401d277d3bdd49", func := "loop.example/s0027/laws.FnExactEvalQuery", spec := "fnExactEvalQuery", unfollowed := true, recurses := true, apart := false, narrowed := true }
def FnExactEvalQueryUptoSaid : Prop := fnExactEvalQueryUptoRow.holds Try.pinned (OpenSpec.upto fnExactEvalQuerySpec)

/-- 'laws.FnExactRunDFA', WHERE WHAT IT READS IS OF BULK AT MOST 1048576: true; the input reads as it did. -/
def fnExactRunDFAUptoRow : OpenClaim := { program := "ytnpmkcbbmeekaaa", sum := "dd39986d8fe7e1fe26088fd37122cf8a3d449bbdb3beb8e0c4401d277d3bdd49", func := "loop.example/s0027/laws.FnExactRunDFA", spec := "fnExactRunDFA", unfollowed := true, recurses := true, apart := false, narrowed := true }
def FnExactRunDFAUptoSaid : Prop := fnExactRunDFAUptoRow.holds Try.pinned (OpenSpec.upto fnExactRunDFASpec)

/-- 'laws.FnExactSplitLines', WHERE WHAT IT READS IS OF BULK AT MOST 1048576: true; the input reads as it did. -/
def fnExactSplitLinesUptoRow : OpenClaim := { program := "ytnpmkcbbmeekaaa", sum := "dd39986d8fe7e1fe26088fd37122cf8a3d449bbdb3beb8e0c4401d277d3bdd49", func := "loop.example/s0027/laws.FnExactSplitLines", spec := "fnExactSplitLines", inPlace := ["internal/bytealg.IndexByte", "internal/bytealg.Index"], named := ["internal/bytealg.MaxLen"], apart := false, narrowed := true }
def FnExactSplitLinesUptoSaid : Prop := fnExactSplitLinesUptoRow.holds Try.pinned (OpenSpec.upto fnExactSplitLinesSpec)

/-- 'laws.FnExactValidPattern', WHERE WHAT IT READS IS OF BULK AT MOST 1048576: true; the input reads as it did. -/
def fnExactValidPatternUptoRow : OpenClaim := { program := "ytnpmkcbbmeekaaa", sum := "dd39986d8fe7e1fe26088fd37122cf8a3d449bbdb3beb8e0c4401d277d3bdd49", func := "loop.example/s0027/laws.FnExactValidPattern", spec := "fnExactValidPattern", unfollowed := true, recurses := true, apart := false, narrowed := true }
def FnExactValidPatternUptoSaid : Prop := fnExactValidPatternUptoRow.holds Try.pinned (OpenSpec.upto fnExactValidPatternSpec)

end Rows
end Go.Proofs.Ytnpmkcbbmeekaaa
