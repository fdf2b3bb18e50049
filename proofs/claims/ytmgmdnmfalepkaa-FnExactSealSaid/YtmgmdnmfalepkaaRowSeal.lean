/- FnExactSeal returns true at every state, and leaves it as it was. No condition. -/
import Derived.Test.YtmgmdnmfalepkaaRows
import Derived.Test.YtmgmdnmfalepkaaG2
import Derived.Test.YtmgmdnmfalepkaaG19
import Derived.WalkKit
import Derived.ProofKit
import Derived.OpenShut
import Derived.ShutString
import Derived.ChangeOld
import Derived.Below
import Derived.SizedLaws
namespace Go.Proofs.Ytmgmdnmfalepkaa.fnExactSeal
open Go.ChangeShapes Go.WideShapes Go.ChangeAt Go.RowKit Go.Proofs.Ytmgmdnmfalepkaa.Rd Go.Proofs.YtmgmdnmfalepkaaW.PrintWords
open Go.ChangeMaps (open_string shut_string)
set_option linter.unusedVariables false
theorem own : ownKnob Try.prog.godebug = none := by kernel_rfl
theorem laidOut : laidOutB Try.prog = true := by kernel_rfl
set_option maxRecDepth 100000 in
set_option maxHeartbeats 1000000 in
theorem lifted (os : Os) (started : os.Started) (H : Type) (enc : TypeId × Value → H) :
    ReturnsInHanded {} Try.checked os 10 .any (Rows.fnExactSealSpec.pre6 enc Try.prog Try.f10 Rows.fnExactSealRow.domain false) (Rows.fnExactSealSpec.post enc Try.prog Try.f10 false true false false) := by
  refine returnsInHanded_of_change_sized (C := Try.checked) own started (by kernel_rfl) Try.func10
    (ChangeSpec.witness6 (enc := enc) (C := Try.checked) false ⟨#[], #[.agg #[.slice none 0 0, .slice none 0 0]], []⟩ 8 (by kernel_rfl) (by kernel_rfl) (by kernel_rfl) (by kernel_rfl)) ?_
  intro W base args ds gs before hval0 hW hcnd hsz0 _
  have hval : ∀ (j : Nat) t v, Try.f10.params[j]? = some t → args[j]? = some v → Value.okWide Try.prog W .any base t v := hval0
  have hW' := hW
  obtain ⟨p, q, hA0, hV, rfl, hfz, hnd⟩ := hW
  have hA : DataW.TrodAll enc Try.prog W 0 (fun _ => true) true Try.f10.params.toList args.toList ds p := hA0
  rw [Try.params10] at hA hval
  obtain ⟨v0, vs0, d0, ds0, p0, q0, hargs, rfl, rfl, h0, r0⟩ := trodAll_cons hA
  obtain ⟨rfl, rfl, rfl⟩ := trodAll_nil r0
  obtain rfl : args = #[v0] := by cases args; simp_all
  obtain ⟨rfl, rfl⟩ := trodVars_none hV
  have k0 := h0
  have lt0 : ∀ x ∈ p0, x.block < W.heap.size := by obtain ⟨m, hm⟩ := k0; exact DataW.trod_lt m _ _ _ hm
  obtain ⟨cs0, rfl, hz0⟩ := okWide_struct Try.underlying71 (hval 0 71 v0 rfl rfl)
  obtain ⟨fuel0, hf0⟩ := h0
  have hrd0 : Rd Try.prog _ 71 _ := rd_struct_cells Try.underlying71 (by kernel_rfl) (rdF_cons rfl (by kernel_rfl) (rd_slice Try.underlying41 (by kernel_rfl) (rd_slice Try.underlying33 (by kernel_rfl) (rd_int Try.underlying5))) (rdF_last rfl (by kernel_rfl) (rd_slice Try.underlying41 (by kernel_rfl) (rd_slice Try.underlying33 (by kernel_rfl) (rd_int Try.underlying5)))))
  obtain ⟨y0, hK0, hV0⟩ := hrd0 H enc W fuel0 _ _ hf0
  obtain ⟨c0_0a, c0_0b, e0_0, K0_0, R0_0⟩ := hK0
  have K0_1 := R0_0
  obtain ⟨A0_0, c0_0, z0_0, hc0_0, hr0_0⟩ := K0_0
  obtain ⟨A0_1, c0_1, z0_1, hc0_1, hr0_1⟩ := K0_1
  obtain rfl : cs0 = #[.slice A0_0 y0.1.length c0_0, .slice A0_1 y0.2.length c0_1] := by
    apply Array.ext'
    have e_ : cs0.toList = _ := e0_0
    rw [z0_0] at e_
    rw [z0_1] at e_
    exact e_
  clear hA0 hval0 hsz0
  refine (LawSeal.law_calls y0 (.agg #[.slice A0_0 y0.1.length c0_0, .slice A0_1 y0.2.length c0_1]) W ⟨[_, _], rfl, _, _, rfl, ⟨A0_0, c0_0, rfl, hc0_0, hr0_0⟩, _, rfl, ⟨A0_1, c0_1, rfl, hc0_1, hr0_1⟩⟩ (fun l hl x hx => Go.bounds_u8 ((hV0.1.2 l hl).2 x hx)) (fun l hl x hx => Go.bounds_u8 ((hV0.2.2 l hl).2 x hx))).mono fun e W' ⟨he, bel⟩ => ?_
  subst he
  exact ⟨_, rfl, _, _, _, [], _, [], hW', trodAll_mk1 (shut_bool Try.underlying4 _), (trodAll_cons_mk (Below.trod laidOut (by kernel_rfl) (of_decide_eq_true (by kernel_rfl)) k0 bel lt0) trodAll_mk0), rfl, bel.frame _, fun h => by cases h⟩
theorem over : Rows.fnExactSealRow.holds Try.pinned (OpenSpec.ofChange Rows.fnExactSealSpec) :=
  OpenClaim.holds_of_wide 10 Try.f10 rfl rfl rfl rfl rfl rfl rfl ⟨rfl, rfl, rfl, rfl, rfl⟩ rfl rfl rfl rfl rfl (by kernel_rfl) Try.func10 (by kernel_rfl)
    (of_decide_eq_true (by kernel_rfl)) (by unfold Func.isWrapper; first | (rw [if_pos (by decide +kernel)]; kernel_rfl) | (rw [if_neg (by decide +kernel)]; exact ⟨rfl, rfl⟩))
    (fun os started H enc _ => lifted os started H enc)
theorem proved : Rows.FnExactSealSaid := over
end Go.Proofs.Ytmgmdnmfalepkaa.fnExactSeal
namespace Go.Proofs.Ytmgmdnmfalepkaa
theorem fnExactSeal_holds : Rows.FnExactSealSaid := fnExactSeal.proved
end Go.Proofs.Ytmgmdnmfalepkaa
