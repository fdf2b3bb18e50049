/- FnExactEvalQuery returns true at every query and every list, and leaves them as they were. No condition. -/
import Derived.Test.YtnpmkcbbmeekaaaRows
import Derived.Test.YtnpmkcbbmeekaaaRd
import Derived.Test.YtnpmkcbbmeekaaaPEval
import Derived.WalkKit
import Derived.ProofKit
import Derived.OpenShut
import Derived.ShutString
import Derived.ChangeOld
import Derived.Below
import Derived.SizedLaws
namespace Go.Proofs.Ytnpmkcbbmeekaaa.fnExactEvalQuery
open Go.ChangeShapes Go.WideShapes Go.ChangeAt Go.RowKit Go.Proofs.Ytnpmkcbbmeekaaa.Rd Go.Proofs.YtnpmkcbbmeekaaaW.PrintWords
open Go.ChangeMaps (open_string shut_string)
set_option linter.unusedVariables false
theorem own : ownKnob Try.prog.godebug = none := by kernel_rfl
theorem laidOut : laidOutB Try.prog = true := by kernel_rfl
set_option maxRecDepth 100000 in
set_option maxHeartbeats 1000000 in
theorem lifted (os : Os) (started : os.Started) (H : Type) (enc : TypeId × Value → H) :
    ReturnsInHanded {} Try.checked os 4 .any (Rows.fnExactEvalQuerySpec.pre6 enc Try.prog Try.f4 Rows.fnExactEvalQueryRow.domain false) (Rows.fnExactEvalQuerySpec.post enc Try.prog Try.f4 false true false false) := by
  refine returnsInHanded_of_change_sized (C := Try.checked) own started (by kernel_rfl) Try.func4
    (ChangeSpec.witness6 (enc := enc) (C := Try.checked) false ⟨#[], #[.agg #[.slice none 0 0], .slice none 0 0], []⟩ 8 (by kernel_rfl) (by kernel_rfl) (by kernel_rfl) (by kernel_rfl)) ?_
  intro W base args ds gs before hval0 hW hcnd hsz0 _
  have hval : ∀ (j : Nat) t v, Try.f4.params[j]? = some t → args[j]? = some v → Value.okWide Try.prog W .any base t v := hval0
  have hW' := hW
  obtain ⟨p, q, hA0, hV, rfl, hfz, hnd⟩ := hW
  have hA : DataW.TrodAll enc Try.prog W 0 (fun _ => true) true Try.f4.params.toList args.toList ds p := hA0
  rw [Try.params4] at hA hval
  obtain ⟨v0, vs0, d0, ds0, p0, q0, hargs, rfl, rfl, h0, r0⟩ := trodAll_cons hA
  obtain ⟨v1, vs1, d1, ds1, p1, q1, rfl, rfl, rfl, h1, r1⟩ := trodAll_cons r0
  obtain ⟨rfl, rfl, rfl⟩ := trodAll_nil r1
  obtain rfl : args = #[v0, v1] := by cases args; simp_all
  obtain ⟨rfl, rfl⟩ := trodVars_none hV
  have k0 := h0
  have lt0 : ∀ x ∈ p0, x.block < W.heap.size := by obtain ⟨m, hm⟩ := k0; exact DataW.trod_lt m _ _ _ hm
  obtain ⟨cs0, rfl, hz0⟩ := okWide_struct Try.underlying25 (hval 0 25 v0 rfl rfl)
  obtain ⟨fuel0, hf0⟩ := h0
  have hrd0 : Rd Try.prog _ 25 _ := rd_struct_cells Try.underlying25 (by kernel_rfl) (rdF_last rfl (by kernel_rfl) (rd_slice Try.underlying23 (by kernel_rfl) (rd_slice Try.underlying26 (by kernel_rfl) (rd_int Try.underlying3))))
  obtain ⟨y0, hK0, hV0⟩ := hrd0 H enc W fuel0 _ _ hf0
  have K0_0 := hK0
  obtain ⟨A0_0, c0_0, z0_0, hc0_0, hr0_0⟩ := K0_0
  obtain rfl : cs0 = #[.slice A0_0 y0.length c0_0] := by
    apply Array.ext'
    have e_ : cs0.toList = _ := z0_0
    exact e_
  have k1 := h1
  have lt1 : ∀ x ∈ p1, x.block < W.heap.size := by obtain ⟨m, hm⟩ := k1; exact DataW.trod_lt m _ _ _ hm
  obtain ⟨a1, len1, cap1, rfl⟩ := okWide_slice Try.underlying26 (hval 1 26 v1 rfl rfl)
  obtain ⟨fuel1, hf1⟩ := h1
  have hrd1 : Rd Try.prog _ 26 _ := (rd_slice Try.underlying26 (by kernel_rfl) (rd_int Try.underlying3))
  obtain ⟨l1, hK1, hV1⟩ := hrd1 H enc W fuel1 _ _ hf1
  obtain ⟨A1, c1, e1, hc1, hr1⟩ := hK1
  obtain ⟨rfl, rfl, rfl⟩ : a1 = A1 ∧ len1 = l1.length ∧ cap1 = c1 := by simpa [Value.cells] using e1
  clear hA0 hval0 hsz0
  obtain ⟨k, hk⟩ := PEval.pure y0 l1 (by have := hV0.1; unfold maxLen at this; omega) (fun x hx => by have := (hV0.2 x hx).1; unfold maxLen at this; omega) (fun c hc x hx => (hV0.2 c hc).2 x hx) hV1.2
  refine (Q.laws_FnExactEvalQuery.calls k A0_0 c0_0 y0 a1 cap1 l1 true W hr0_0 hc0_0 hr1 hc1 hk).mono fun e W' ⟨he, bel⟩ => ?_
  subst he
  exact ⟨_, rfl, _, _, _, [], _, [], hW', trodAll_mk1 (shut_bool Try.underlying4 _), (trodAll_cons_mk (Below.trod laidOut (by kernel_rfl) (of_decide_eq_true (by kernel_rfl)) k0 bel lt0) (trodAll_cons_mk (Below.trod laidOut (by kernel_rfl) (of_decide_eq_true (by kernel_rfl)) k1 bel lt1) trodAll_mk0)), rfl, bel.frame _, fun h => by cases h⟩
theorem over : Rows.fnExactEvalQueryRow.holds Try.pinned (OpenSpec.ofChange Rows.fnExactEvalQuerySpec) :=
  OpenClaim.holds_of_wide 4 Try.f4 rfl rfl rfl rfl rfl rfl rfl ⟨rfl, rfl, rfl, rfl, rfl⟩ rfl rfl rfl rfl rfl (by kernel_rfl) Try.func4 (by kernel_rfl)
    (of_decide_eq_true (by kernel_rfl)) (by unfold Func.isWrapper; first | (rw [if_pos (by decide +kernel)]; kernel_rfl) | (rw [if_neg (by decide +kernel)]; exact ⟨rfl, rfl⟩))
    (fun os started H enc _ => lifted os started H enc)
theorem proved : Rows.FnExactEvalQuerySaid := over
#print axioms proved
end Go.Proofs.Ytnpmkcbbmeekaaa.fnExactEvalQuery
namespace Go.Proofs.Ytnpmkcbbmeekaaa
/-- The row, under a short name, for the claim. -/
theorem fnExactEvalQuery_holds : Rows.FnExactEvalQuerySaid := fnExactEvalQuery.proved
end Go.Proofs.Ytnpmkcbbmeekaaa
