/- FnExactMergeSegments returns true at all pairs of segments, and leaves them as they were. No condition. -/
import Derived.Test.YtmgmdnmfalepkaaRows
import Derived.Test.YtmgmdnmfalepkaaG2
import Derived.Test.YtmgmdnmfalepkaaG17
import Derived.WalkKit
import Derived.ProofKit
import Derived.OpenShut
import Derived.ShutString
import Derived.ChangeOld
import Derived.Below
import Derived.SizedLaws
namespace Go.Proofs.Ytmgmdnmfalepkaa.fnExactMergeSegments
open Go.ChangeShapes Go.WideShapes Go.ChangeAt Go.RowKit Go.Proofs.Ytmgmdnmfalepkaa.Rd Go.Proofs.YtmgmdnmfalepkaaW.PrintWords
open Go.ChangeMaps (open_string shut_string)
set_option linter.unusedVariables false
theorem own : ownKnob Try.prog.godebug = none := by kernel_rfl
theorem laidOut : laidOutB Try.prog = true := by kernel_rfl
set_option maxRecDepth 100000 in
set_option maxHeartbeats 1000000 in
theorem lifted (os : Os) (started : os.Started) (H : Type) (enc : TypeId × Value → H) :
    ReturnsInHanded {} Try.checked os 8 .any (Rows.fnExactMergeSegmentsSpec.pre6 enc Try.prog Try.f8 Rows.fnExactMergeSegmentsRow.domain false) (Rows.fnExactMergeSegmentsSpec.post enc Try.prog Try.f8 false true false false) := by
  refine returnsInHanded_of_change_sized (C := Try.checked) own started (by kernel_rfl) Try.func8
    (ChangeSpec.witness6 (enc := enc) (C := Try.checked) false ⟨#[], #[.agg #[.int .i64 0, .slice none 0 0, .slice none 0 0, .slice none 0 0], .agg #[.int .i64 0, .slice none 0 0, .slice none 0 0, .slice none 0 0]], []⟩ 8 (by kernel_rfl) (by kernel_rfl) (by kernel_rfl) (by kernel_rfl)) ?_
  intro W base args ds gs before hval0 hW hcnd hsz0 _
  have hval : ∀ (j : Nat) t v, Try.f8.params[j]? = some t → args[j]? = some v → Value.okWide Try.prog W .any base t v := hval0
  have hW' := hW
  obtain ⟨p, q, hA0, hV, rfl, hfz, hnd⟩ := hW
  have hA : DataW.TrodAll enc Try.prog W 0 (fun _ => true) true Try.f8.params.toList args.toList ds p := hA0
  rw [Try.params8] at hA hval
  obtain ⟨v0, vs0, d0, ds0, p0, q0, hargs, rfl, rfl, h0, r0⟩ := trodAll_cons hA
  obtain ⟨v1, vs1, d1, ds1, p1, q1, rfl, rfl, rfl, h1, r1⟩ := trodAll_cons r0
  obtain ⟨rfl, rfl, rfl⟩ := trodAll_nil r1
  obtain rfl : args = #[v0, v1] := by cases args; simp_all
  obtain ⟨rfl, rfl⟩ := trodVars_none hV
  have k0 := h0
  have lt0 : ∀ x ∈ p0, x.block < W.heap.size := by obtain ⟨m, hm⟩ := k0; exact DataW.trod_lt m _ _ _ hm
  obtain ⟨cs0, rfl, hz0⟩ := okWide_struct Try.underlying44 (hval 0 44 v0 rfl rfl)
  obtain ⟨fuel0, hf0⟩ := h0
  have hrd0 : Rd Try.prog _ 44 _ := rd_struct_cells Try.underlying44 (by kernel_rfl) (rdF_cons rfl (by kernel_rfl) (rd_int Try.underlying3) (rdF_cons rfl (by kernel_rfl) (rd_slice Try.underlying41 (by kernel_rfl) (rd_slice Try.underlying33 (by kernel_rfl) (rd_int Try.underlying5))) (rdF_cons rfl (by kernel_rfl) (rd_slice Try.underlying22 (by kernel_rfl) (rd_int Try.underlying3)) (rdF_last rfl (by kernel_rfl) (rd_slice Try.underlying42 (by kernel_rfl) (rd_slice Try.underlying22 (by kernel_rfl) (rd_int Try.underlying3)))))))
  obtain ⟨y0, hK0, hV0⟩ := hrd0 H enc W fuel0 _ _ hf0
  obtain ⟨c0_0a, c0_0b, e0_0, K0_0, R0_0⟩ := hK0
  obtain ⟨c0_1a, c0_1b, e0_1, K0_1, R0_1⟩ := R0_0
  obtain ⟨c0_2a, c0_2b, e0_2, K0_2, R0_2⟩ := R0_1
  have K0_3 := R0_2
  have z0_0 := K0_0
  obtain ⟨A0_1, c0_1, z0_1, hc0_1, hr0_1⟩ := K0_1
  obtain ⟨A0_2, c0_2, z0_2, hc0_2, hr0_2⟩ := K0_2
  obtain ⟨A0_3, c0_3, z0_3, hc0_3, hr0_3⟩ := K0_3
  obtain rfl : cs0 = #[.int .i64 y0.1, .slice A0_1 y0.2.1.length c0_1, .slice A0_2 y0.2.2.1.length c0_2, .slice A0_3 y0.2.2.2.length c0_3] := by
    apply Array.ext'
    have e_ : cs0.toList = _ := e0_0
    rw [z0_0] at e_
    rw [e0_1, z0_1] at e_
    rw [e0_2, z0_2] at e_
    rw [z0_3] at e_
    exact e_
  have k1 := h1
  have lt1 : ∀ x ∈ p1, x.block < W.heap.size := by obtain ⟨m, hm⟩ := k1; exact DataW.trod_lt m _ _ _ hm
  obtain ⟨cs1, rfl, hz1⟩ := okWide_struct Try.underlying44 (hval 1 44 v1 rfl rfl)
  obtain ⟨fuel1, hf1⟩ := h1
  have hrd1 : Rd Try.prog _ 44 _ := rd_struct_cells Try.underlying44 (by kernel_rfl) (rdF_cons rfl (by kernel_rfl) (rd_int Try.underlying3) (rdF_cons rfl (by kernel_rfl) (rd_slice Try.underlying41 (by kernel_rfl) (rd_slice Try.underlying33 (by kernel_rfl) (rd_int Try.underlying5))) (rdF_cons rfl (by kernel_rfl) (rd_slice Try.underlying22 (by kernel_rfl) (rd_int Try.underlying3)) (rdF_last rfl (by kernel_rfl) (rd_slice Try.underlying42 (by kernel_rfl) (rd_slice Try.underlying22 (by kernel_rfl) (rd_int Try.underlying3)))))))
  obtain ⟨y1, hK1, hV1⟩ := hrd1 H enc W fuel1 _ _ hf1
  obtain ⟨c1_0a, c1_0b, e1_0, K1_0, R1_0⟩ := hK1
  obtain ⟨c1_1a, c1_1b, e1_1, K1_1, R1_1⟩ := R1_0
  obtain ⟨c1_2a, c1_2b, e1_2, K1_2, R1_2⟩ := R1_1
  have K1_3 := R1_2
  have z1_0 := K1_0
  obtain ⟨A1_1, c1_1, z1_1, hc1_1, hr1_1⟩ := K1_1
  obtain ⟨A1_2, c1_2, z1_2, hc1_2, hr1_2⟩ := K1_2
  obtain ⟨A1_3, c1_3, z1_3, hc1_3, hr1_3⟩ := K1_3
  obtain rfl : cs1 = #[.int .i64 y1.1, .slice A1_1 y1.2.1.length c1_1, .slice A1_2 y1.2.2.1.length c1_2, .slice A1_3 y1.2.2.2.length c1_3] := by
    apply Array.ext'
    have e_ : cs1.toList = _ := e1_0
    rw [z1_0] at e_
    rw [e1_1, z1_1] at e_
    rw [e1_2, z1_2] at e_
    rw [z1_3] at e_
    exact e_
  clear hA0 hval0 hsz0
  refine (LawMrg.law_calls y0 y1 (.agg #[.int .i64 y0.1, .slice A0_1 y0.2.1.length c0_1, .slice A0_2 y0.2.2.1.length c0_2, .slice A0_3 y0.2.2.2.length c0_3]) (.agg #[.int .i64 y1.1, .slice A1_1 y1.2.1.length c1_1, .slice A1_2 y1.2.2.1.length c1_2, .slice A1_3 y1.2.2.2.length c1_3]) W ⟨[_, _, _, _], rfl, _, _, rfl, rfl, _, _, rfl, ⟨A0_1, c0_1, rfl, hc0_1, hr0_1⟩, _, _, rfl, ⟨A0_2, c0_2, rfl, hc0_2, hr0_2⟩, _, rfl, ⟨A0_3, c0_3, rfl, hc0_3, hr0_3⟩⟩ ⟨[_, _, _, _], rfl, _, _, rfl, rfl, _, _, rfl, ⟨A1_1, c1_1, rfl, hc1_1, hr1_1⟩, _, _, rfl, ⟨A1_2, c1_2, rfl, hc1_2, hr1_2⟩, _, rfl, ⟨A1_3, c1_3, rfl, hc1_3, hr1_3⟩⟩ (fun l hl x hx => Go.bounds_u8 ((hV0.2.1.2 l hl).2 x hx)) (fun l hl x hx => Go.bounds_u8 ((hV1.2.1.2 l hl).2 x hx))).mono fun e W' ⟨he, bel⟩ => ?_
  subst he
  exact ⟨_, rfl, _, _, _, [], _, [], hW', trodAll_mk1 (shut_bool Try.underlying4 _), (trodAll_cons_mk (Below.trod laidOut (by kernel_rfl) (of_decide_eq_true (by kernel_rfl)) k0 bel lt0) (trodAll_cons_mk (Below.trod laidOut (by kernel_rfl) (of_decide_eq_true (by kernel_rfl)) k1 bel lt1) trodAll_mk0)), rfl, bel.frame _, fun h => by cases h⟩
theorem over : Rows.fnExactMergeSegmentsRow.holds Try.pinned (OpenSpec.ofChange Rows.fnExactMergeSegmentsSpec) :=
  OpenClaim.holds_of_wide 8 Try.f8 rfl rfl rfl rfl rfl rfl rfl ⟨rfl, rfl, rfl, rfl, rfl⟩ rfl rfl rfl rfl rfl (by kernel_rfl) Try.func8 (by kernel_rfl)
    (of_decide_eq_true (by kernel_rfl)) (by unfold Func.isWrapper; first | (rw [if_pos (by decide +kernel)]; kernel_rfl) | (rw [if_neg (by decide +kernel)]; exact ⟨rfl, rfl⟩))
    (fun os started H enc _ => lifted os started H enc)
theorem proved : Rows.FnExactMergeSegmentsSaid := over
end Go.Proofs.Ytmgmdnmfalepkaa.fnExactMergeSegments
namespace Go.Proofs.Ytmgmdnmfalepkaa
theorem fnExactMergeSegments_holds : Rows.FnExactMergeSegmentsSaid := fnExactMergeSegments.proved
end Go.Proofs.Ytmgmdnmfalepkaa
