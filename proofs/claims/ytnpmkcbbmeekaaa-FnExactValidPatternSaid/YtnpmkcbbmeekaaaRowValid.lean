/- FnExactValidPattern returns true at every pattern, and leaves it as it was. No condition. -/
import Derived.Test.YtnpmkcbbmeekaaaRows
import Derived.Test.YtnpmkcbbmeekaaaRd
import Derived.Test.YtnpmkcbbmeekaaaPValidL
import Derived.WalkKit
import Derived.ProofKit
import Derived.OpenShut
import Derived.ShutString
import Derived.ChangeOld
import Derived.Below
import Derived.SizedLaws
namespace Go.Proofs.Ytnpmkcbbmeekaaa.fnExactValidPattern
open Go.ChangeShapes Go.WideShapes Go.ChangeAt Go.RowKit Go.Proofs.Ytnpmkcbbmeekaaa.Rd Go.Proofs.YtnpmkcbbmeekaaaW.PrintWords
open Go.ChangeMaps (open_string shut_string)
set_option linter.unusedVariables false
theorem own : ownKnob Try.prog.godebug = none := by kernel_rfl
theorem laidOut : laidOutB Try.prog = true := by kernel_rfl
set_option maxRecDepth 100000 in
set_option maxHeartbeats 1000000 in
theorem lifted (os : Os) (started : os.Started) (H : Type) (enc : TypeId × Value → H) :
    ReturnsInHanded {} Try.checked os 7 .any (Rows.fnExactValidPatternSpec.pre6 enc Try.prog Try.f7 Rows.fnExactValidPatternRow.domain false) (Rows.fnExactValidPatternSpec.post enc Try.prog Try.f7 false true false false) := by
  refine returnsInHanded_of_change_sized (C := Try.checked) own started (by kernel_rfl) Try.func7
    (ChangeSpec.witness6 (enc := enc) (C := Try.checked) false ⟨#[], #[.agg #[.bool false, .bool false, .slice none 0 0]], []⟩ 8 (by kernel_rfl) (by kernel_rfl) (by kernel_rfl) (by kernel_rfl)) ?_
  intro W base args ds gs before hval0 hW hcnd hsz0 _
  have hval : ∀ (j : Nat) t v, Try.f7.params[j]? = some t → args[j]? = some v → Value.okWide Try.prog W .any base t v := hval0
  have hW' := hW
  obtain ⟨p, q, hA0, hV, rfl, hfz, hnd⟩ := hW
  have hA : DataW.TrodAll enc Try.prog W 0 (fun _ => true) true Try.f7.params.toList args.toList ds p := hA0
  rw [Try.params7] at hA hval
  obtain ⟨v0, vs0, d0, ds0, p0, q0, hargs, rfl, rfl, h0, r0⟩ := trodAll_cons hA
  obtain ⟨rfl, rfl, rfl⟩ := trodAll_nil r0
  obtain rfl : args = #[v0] := by cases args; simp_all
  obtain ⟨rfl, rfl⟩ := trodVars_none hV
  have k0 := h0
  have lt0 : ∀ x ∈ p0, x.block < W.heap.size := by obtain ⟨m, hm⟩ := k0; exact DataW.trod_lt m _ _ _ hm
  obtain ⟨cs0, rfl, hz0⟩ := okWide_struct Try.underlying58 (hval 0 58 v0 rfl rfl)
  obtain ⟨fuel0, hf0⟩ := h0
  have hrd0 : Rd Try.prog _ 58 _ := rd_struct_cells Try.underlying58 (by kernel_rfl) (rdF_cons rfl (by kernel_rfl) (rd_bool Try.underlying4) (rdF_cons rfl (by kernel_rfl) (rd_bool Try.underlying4) (rdF_last rfl (by kernel_rfl) (rd_slice Try.underlying56 (by kernel_rfl) (rd_struct Try.underlying94 (by kernel_rfl) (rdF_cons rfl (by kernel_rfl) (rd_int Try.underlying3) (rdF_cons rfl (by kernel_rfl) (rd_slice Try.underlying26 (by kernel_rfl) (rd_int Try.underlying3)) (rdF_cons rfl (by kernel_rfl) (rd_int Try.underlying3) (rdF_last rfl (by kernel_rfl) (rd_int Try.underlying3))))) (fun x : V.S94 => (x.f0, x.f1, x.f2, x.f3)) (fun y => (⟨y.1, y.2.1, y.2.2.1, y.2.2.2⟩ : V.S94)) (fun _ => rfl))))))
  obtain ⟨y0, hK0, hV0⟩ := hrd0 H enc W fuel0 _ _ hf0
  obtain ⟨c0_0a, c0_0b, e0_0, K0_0, R0_0⟩ := hK0
  obtain ⟨c0_1a, c0_1b, e0_1, K0_1, R0_1⟩ := R0_0
  have K0_2 := R0_1
  have z0_0 := K0_0
  have z0_1 := K0_1
  obtain ⟨A0_2, c0_2, z0_2, hc0_2, hr0_2⟩ := K0_2
  obtain rfl : cs0 = #[.bool y0.1, .bool y0.2.1, .slice A0_2 y0.2.2.length c0_2] := by
    apply Array.ext'
    have e_ : cs0.toList = _ := e0_0
    rw [z0_0] at e_
    rw [e0_1, z0_1] at e_
    rw [z0_2] at e_
    exact e_
  clear hA0 hval0 hsz0
  obtain ⟨k, hk⟩ := PValid.pure y0.1 y0.2.1 y0.2.2 (by have := hV0.2.2.1; unfold maxLen at this; omega) (fun x hx => by have := (hV0.2.2.2 x hx).2.1.1; unfold maxLen at this; omega)
  refine (V.laws_FnExactValidPattern.calls k y0.1 y0.2.1 A0_2 c0_2 y0.2.2 true W hr0_2 hc0_2 hk).mono fun e W' ⟨he, bel⟩ => ?_
  subst he
  exact ⟨_, rfl, _, _, _, [], _, [], hW', trodAll_mk1 (shut_bool Try.underlying4 _), (trodAll_cons_mk (Below.trod laidOut (by kernel_rfl) (of_decide_eq_true (by kernel_rfl)) k0 bel lt0) trodAll_mk0), rfl, bel.frame _, fun h => by cases h⟩
theorem over : Rows.fnExactValidPatternRow.holds Try.pinned (OpenSpec.ofChange Rows.fnExactValidPatternSpec) :=
  OpenClaim.holds_of_wide 7 Try.f7 rfl rfl rfl rfl rfl rfl rfl ⟨rfl, rfl, rfl, rfl, rfl⟩ rfl rfl rfl rfl rfl (by kernel_rfl) Try.func7 (by kernel_rfl)
    (of_decide_eq_true (by kernel_rfl)) (by unfold Func.isWrapper; first | (rw [if_pos (by decide +kernel)]; kernel_rfl) | (rw [if_neg (by decide +kernel)]; exact ⟨rfl, rfl⟩))
    (fun os started H enc _ => lifted os started H enc)
theorem proved : Rows.FnExactValidPatternSaid := over
#print axioms proved
end Go.Proofs.Ytnpmkcbbmeekaaa.fnExactValidPattern
namespace Go.Proofs.Ytnpmkcbbmeekaaa
/-- The row, under a short name, for the claim. -/
theorem fnExactValidPattern_holds : Rows.FnExactValidPatternSaid := fnExactValidPattern.proved
end Go.Proofs.Ytnpmkcbbmeekaaa
