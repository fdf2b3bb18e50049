/- FnExactMerge returns true at every state and every number, and leaves the state as it was. No condition. -/
import Derived.Test.YtmgmdnmfalepkaaGreatG00
import Derived.Test.YtmgmdnmfalepkaaGreatRows
import Derived.Test.YtmgmdnmfalepkaaGreatG2
import Derived.Test.YtmgmdnmfalepkaaGreatG20
import Derived.WalkKit
import Derived.ProofKit
import Derived.OpenShut
import Derived.ShutString
import Derived.ChangeOld
import Derived.Below
import Derived.SizedLaws
namespace Go.Proofs.YtmgmdnmfalepkaaGreat.fnExactMerge
open Go.ChangeShapes Go.WideShapes Go.ChangeAt Go.RowKit Go.Proofs.YtmgmdnmfalepkaaGreat.Rd Go.Proofs.YtmgmdnmfalepkaaGreatW.PrintWords
open Go.ChangeMaps (open_string shut_string)
set_option linter.unusedVariables false
theorem own : ownKnob Tryz.prog.godebug = none := by kernel_rfl
theorem laidOut : laidOutB Tryz.prog = true := by kernel_rfl
set_option maxRecDepth 100000 in
set_option maxHeartbeats 1000000 in
theorem lifted (os : Os) (started : os.Started) (H : Type) (enc : TypeId × Value → H) :
  ReturnsInHanded {} Tryz.checked os 4 .any (Rows.fnExactMergeSpec.pre6 enc Tryz.prog Tryz.f4 Rows.fnExactMergeRow.domain false) (Rows.fnExactMergeSpec.post enc Tryz.prog Tryz.f4 false true false false) := by
 refine returnsInHanded_of_change_sized (C := Tryz.checked) own started zq5 Tryz.func4
  (ChangeSpec.witness6 (enc := enc) (C := Tryz.checked) false ⟨#[], #[.agg #[.slice none 0 0, .slice none 0 0], .int .i64 0], []⟩ 8 zq5 zq5 zq5 zq5) ?_
 intro W base args ds gs before hval0 hW hcnd hsz0 _
 have hval : ∀ (j : Nat) t v, Tryz.f4.params[j]? = some t → args[j]? = some v → Value.okWide Tryz.prog W .any base t v := hval0
 have hW' := hW
 obtain ⟨p, q, hA0, hV, rfl, hfz, hnd⟩ := hW
 have hA : DataW.TrodAll enc Tryz.prog W 0 (fun _ => true) true Tryz.f4.params.toList args.toList ds p := hA0
 rw [Tryz.params4] at hA hval
 obtain ⟨v0, vs0, d0, ds0, p0, q0, hargs, rfl, rfl, h0, r0⟩ := trodAll_cons hA
 obtain ⟨v1, vs1, d1, ds1, p1, q1, rfl, rfl, rfl, h1, r1⟩ := trodAll_cons r0
 obtain ⟨rfl, rfl, rfl⟩ := trodAll_nil r1
 obtain rfl : args = #[v0, v1] := by cases args; simp_all
 obtain ⟨rfl, rfl⟩ := trodVars_none hV
 have k0 := h0
 have lt0 : ∀ x ∈ p0, x.block < W.heap.size := by obtain ⟨m, hm⟩ := k0; exact DataW.trod_lt m _ _ _ hm
 obtain ⟨cs0, rfl, hz0⟩ := okWide_struct Tryz.underlying24 (hval 0 24 v0 rfl rfl)
 obtain ⟨fuel0, hf0⟩ := h0
 have hrd0 : Rd Tryz.prog _ 24 _ := rd_struct_cells Tryz.underlying24 zq5 (rdF_cons rfl zq5 (rd_slice Tryz.underlying22 zq5 (rd_slice Tryz.underlying25 zq5 (rd_int Tryz.underlying5))) (rdF_last rfl zq5 (rd_slice Tryz.underlying22 zq5 (rd_slice Tryz.underlying25 zq5 (rd_int Tryz.underlying5)))))
 obtain ⟨y0, hK0, hV0⟩ := hrd0 H enc W fuel0 _ _ hf0
 obtain ⟨c0_0a, c0_0b, e0_0, K0_0, R0_0⟩ := hK0
 have K0_1 := R0_0
 obtain ⟨A0_0, c0_0, z0_0, hc0_0, hr0_0⟩ := K0_0
 obtain ⟨A0_1, c0_1, z0_1, hc0_1, hr0_1⟩ := K0_1
 obtain rfl : cs0 = #[.slice A0_0 y0.1.length c0_0, .slice A0_1 y0.2.length c0_1] := by
  apply Array.ext'
  have e_ : cs0.toList = _ := e0_0
  rw [z0_0] at e_
  rw [z0_1] at e_
  exact e_
 obtain ⟨a1, rfl, rfl, rfl, w1⟩ := open_int Tryz.underlying3 (hval 1 3 v1 rfl rfl) h1
 clear hA0 hval0 hsz0
 refine (LawMer.law_calls y0 a1 (.agg #[.slice A0_0 y0.1.length c0_0, .slice A0_1 y0.2.length c0_1]) W ⟨[_, _], rfl, _, _, rfl, ⟨A0_0, c0_0, rfl, hc0_0, hr0_0⟩, _, rfl, ⟨A0_1, c0_1, rfl, hc0_1, hr0_1⟩⟩ (fun l hl x hx => Go.bounds_u8 ((hV0.1.2 l hl).2 x hx)) (fun l hl x hx => Go.bounds_u8 ((hV0.2.2 l hl).2 x hx)) (Go.bounds_i64 w1).1 (Go.bounds_i64 w1).2).mono fun e W' ⟨he, bel⟩ => ?_
 subst he
 exact ⟨_, rfl, _, _, _, [], _, [], hW', trodAll_mk1 (shut_bool Tryz.underlying4 _), (trodAll_cons_mk (Below.trod laidOut zq5 (of_decide_eq_true zq5) k0 bel lt0) (trodAll_cons_mk (shut_int Tryz.underlying3 w1) trodAll_mk0)), rfl, bel.frame _, fun h => by cases h⟩
theorem over : Rows.fnExactMergeRow.holds Tryz.pinned (OpenSpec.ofChange Rows.fnExactMergeSpec) :=
 OpenClaim.holds_of_wide 4 Tryz.f4 rfl rfl rfl rfl rfl rfl rfl ⟨rfl, rfl, rfl, rfl, rfl⟩ rfl rfl rfl rfl rfl zq5 Tryz.func4 zq5
  (of_decide_eq_true zq5) (by unfold Func.isWrapper; first | (rw [if_pos (by decide +kernel)]; kernel_rfl) | (rw [if_neg (by decide +kernel)]; exact ⟨rfl, rfl⟩))
  (fun os started H enc _ => lifted os started H enc)
theorem proved : Rows.FnExactMergeSaid := over
end Go.Proofs.YtmgmdnmfalepkaaGreat.fnExactMerge
namespace Go.Proofs.YtmgmdnmfalepkaaGreat
theorem fnExactMerge_holds : Rows.FnExactMergeSaid := fnExactMerge.proved
end Go.Proofs.YtmgmdnmfalepkaaGreat
