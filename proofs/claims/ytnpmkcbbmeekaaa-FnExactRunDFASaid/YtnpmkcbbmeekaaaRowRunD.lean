/- FnExactRunDFA returns true at every table and every line, and leaves them as they were. No condition. -/
import Derived.Test.YtnpmkcbbmeekaaaRows
import Derived.Test.YtnpmkcbbmeekaaaRd
import Derived.Test.YtnpmkcbbmeekaaaPRunF
import Derived.WalkKit
import Derived.ProofKit
import Derived.OpenShut
import Derived.ShutString
import Derived.ChangeOld
import Derived.Below
import Derived.SizedLaws
namespace Go.Proofs.Ytnpmkcbbmeekaaa.fnExactRunDFA
open Go.ChangeShapes Go.WideShapes Go.ChangeAt Go.RowKit Go.Proofs.Ytnpmkcbbmeekaaa.Rd Go.Proofs.YtnpmkcbbmeekaaaW.PrintWords
open Go.ChangeMaps (open_string shut_string)
set_option linter.unusedVariables false
theorem own : ownKnob Try.prog.godebug = none := by kernel_rfl
theorem laidOut : laidOutB Try.prog = true := by kernel_rfl
set_option maxRecDepth 100000 in
set_option maxHeartbeats 1000000 in
theorem lifted (os : Os) (started : os.Started) (H : Type) (enc : TypeId × Value → H) :
    ReturnsInHanded {} Try.checked os 5 .any (Rows.fnExactRunDFASpec.pre6 enc Try.prog Try.f5 Rows.fnExactRunDFARow.domain false) (Rows.fnExactRunDFASpec.post enc Try.prog Try.f5 false true false false) := by
  refine returnsInHanded_of_change_sized (C := Try.checked) own started (by kernel_rfl) Try.func5
    (ChangeSpec.witness6 (enc := enc) (C := Try.checked) false ⟨#[], #[.agg #[.slice none 0 0, .int .i64 0, .slice none 0 0, .slice none 0 0], .slice none 0 0], []⟩ 8 (by kernel_rfl) (by kernel_rfl) (by kernel_rfl) (by kernel_rfl)) ?_
  intro W base args ds gs before hval0 hW hcnd hsz0 _
  have hval : ∀ (j : Nat) t v, Try.f5.params[j]? = some t → args[j]? = some v → Value.okWide Try.prog W .any base t v := hval0
  have hW' := hW
  obtain ⟨p, q, hA0, hV, rfl, hfz, hnd⟩ := hW
  have hA : DataW.TrodAll enc Try.prog W 0 (fun _ => true) true Try.f5.params.toList args.toList ds p := hA0
  rw [Try.params5] at hA hval
  obtain ⟨v0, vs0, d0, ds0, p0, q0, hargs, rfl, rfl, h0, r0⟩ := trodAll_cons hA
  obtain ⟨v1, vs1, d1, ds1, p1, q1, rfl, rfl, rfl, h1, r1⟩ := trodAll_cons r0
  obtain ⟨rfl, rfl, rfl⟩ := trodAll_nil r1
  obtain rfl : args = #[v0, v1] := by cases args; simp_all
  obtain ⟨rfl, rfl⟩ := trodVars_none hV
  have k0 := h0
  have lt0 : ∀ x ∈ p0, x.block < W.heap.size := by obtain ⟨m, hm⟩ := k0; exact DataW.trod_lt m _ _ _ hm
  obtain ⟨cs0, rfl, hz0⟩ := okWide_struct Try.underlying37 (hval 0 37 v0 rfl rfl)
  obtain ⟨fuel0, hf0⟩ := h0
  have hrd0 : Rd Try.prog _ 37 _ := rd_struct_cells Try.underlying37 (by kernel_rfl) (rdF_cons rfl (by kernel_rfl) (rd_slice Try.underlying26 (by kernel_rfl) (rd_int Try.underlying3)) (rdF_cons rfl (by kernel_rfl) (rd_int Try.underlying3) (rdF_cons rfl (by kernel_rfl) (rd_slice Try.underlying26 (by kernel_rfl) (rd_int Try.underlying3)) (rdF_last rfl (by kernel_rfl) (rd_slice Try.underlying35 (by kernel_rfl) (rd_bool Try.underlying4))))))
  obtain ⟨y0, hK0, hV0⟩ := hrd0 H enc W fuel0 _ _ hf0
  obtain ⟨c0_0a, c0_0b, e0_0, K0_0, R0_0⟩ := hK0
  obtain ⟨c0_1a, c0_1b, e0_1, K0_1, R0_1⟩ := R0_0
  obtain ⟨c0_2a, c0_2b, e0_2, K0_2, R0_2⟩ := R0_1
  have K0_3 := R0_2
  obtain ⟨A0_0, c0_0, z0_0, hc0_0, hr0_0⟩ := K0_0
  have z0_1 := K0_1
  obtain ⟨A0_2, c0_2, z0_2, hc0_2, hr0_2⟩ := K0_2
  obtain ⟨A0_3, c0_3, z0_3, hc0_3, hr0_3⟩ := K0_3
  obtain rfl : cs0 = #[.slice A0_0 y0.1.length c0_0, .int .i64 y0.2.1, .slice A0_2 y0.2.2.1.length c0_2, .slice A0_3 y0.2.2.2.length c0_3] := by
    apply Array.ext'
    have e_ : cs0.toList = _ := e0_0
    rw [z0_0] at e_
    rw [e0_1, z0_1] at e_
    rw [e0_2, z0_2] at e_
    rw [z0_3] at e_
    exact e_
  have k1 := h1
  have lt1 : ∀ x ∈ p1, x.block < W.heap.size := by obtain ⟨m, hm⟩ := k1; exact DataW.trod_lt m _ _ _ hm
  obtain ⟨a1, len1, cap1, rfl⟩ := okWide_slice Try.underlying38 (hval 1 38 v1 rfl rfl)
  obtain ⟨fuel1, hf1⟩ := h1
  have hrd1 : Rd Try.prog _ 38 _ := (rd_slice Try.underlying38 (by kernel_rfl) (rd_int Try.underlying5))
  obtain ⟨l1, hK1, hV1⟩ := hrd1 H enc W fuel1 _ _ hf1
  obtain ⟨A1, c1, e1, hc1, hr1⟩ := hK1
  obtain ⟨rfl, rfl, rfl⟩ : a1 = A1 ∧ len1 = l1.length ∧ cap1 = c1 := by simpa [Value.cells] using e1
  clear hA0 hval0 hsz0
  obtain ⟨k, hk⟩ := PRunD.pure y0.1 y0.2.1 y0.2.2.1 y0.2.2.2 l1 (by have := hV0.1.1; unfold maxLen at this; omega) (by have := hV0.2.2.1.1; unfold maxLen at this; omega) (by have := hV0.2.2.2.1; unfold maxLen at this; omega) hV1.2
  refine (Q.laws_FnExactRunDFA.calls k A0_0 c0_0 y0.1 y0.2.1 A0_2 c0_2 y0.2.2.1 A0_3 c0_3 y0.2.2.2 a1 cap1 l1 true W hr0_0 hc0_0 hr0_2 hc0_2 hr0_3 hc0_3 hr1 hc1 hk).mono fun e W' ⟨he, bel⟩ => ?_
  subst he
  exact ⟨_, rfl, _, _, _, [], _, [], hW', trodAll_mk1 (shut_bool Try.underlying4 _), (trodAll_cons_mk (Below.trod laidOut (by kernel_rfl) (of_decide_eq_true (by kernel_rfl)) k0 bel lt0) (trodAll_cons_mk (Below.trod laidOut (by kernel_rfl) (of_decide_eq_true (by kernel_rfl)) k1 bel lt1) trodAll_mk0)), rfl, bel.frame _, fun h => by cases h⟩
theorem over : Rows.fnExactRunDFARow.holds Try.pinned (OpenSpec.ofChange Rows.fnExactRunDFASpec) :=
  OpenClaim.holds_of_wide 5 Try.f5 rfl rfl rfl rfl rfl rfl rfl ⟨rfl, rfl, rfl, rfl, rfl⟩ rfl rfl rfl rfl rfl (by kernel_rfl) Try.func5 (by kernel_rfl)
    (of_decide_eq_true (by kernel_rfl)) (by unfold Func.isWrapper; first | (rw [if_pos (by decide +kernel)]; kernel_rfl) | (rw [if_neg (by decide +kernel)]; exact ⟨rfl, rfl⟩))
    (fun os started H enc _ => lifted os started H enc)
theorem proved : Rows.FnExactRunDFASaid := over
#print axioms proved
end Go.Proofs.Ytnpmkcbbmeekaaa.fnExactRunDFA
namespace Go.Proofs.Ytnpmkcbbmeekaaa
/-- The row, under a short name, for the claim. -/
theorem fnExactRunDFA_holds : Rows.FnExactRunDFASaid := fnExactRunDFA.proved
end Go.Proofs.Ytnpmkcbbmeekaaa
