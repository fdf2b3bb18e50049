/- FnExactTrigrams: the law's walk, one way: it returns true. -/
import Derived.Test.YtmgmdnmfalepkaaHelpB
import Derived.Test.YtmgmdnmfalepkaaHelpI
import Derived.Test.YtmgmdnmfalepkaaTri
namespace Go.Proofs.Ytmgmdnmfalepkaa.LawTri
open Go.RowKit Go.Proofs.YtmgmdnmfalepkaaW.PrintWords Go.Proofs.YtmgmdnmfalepkaaW.PrintMore Go.Proofs.Ytmgmdnmfalepkaa.Kit Go.Proofs.Ytmgmdnmfalepkaa.PKit Go.Proofs.Ytmgmdnmfalepkaa.Ty Go.Proofs.Ytmgmdnmfalepkaa.HelpB Go.Proofs.Ytmgmdnmfalepkaa.HelpI Go.Proofs.Ytmgmdnmfalepkaa.Tri Go.Proofs.Ytmgmdnmfalepkaa.PTri
set_option linter.unusedVariables false
set_option maxRecDepth 100000 in
set_option maxHeartbeats 4000000 in
theorem law_calls (x0 : List Int) (v0 : Value) (w : World) (h0 : HelpB.tB.K w x0 v0) (hb : ∀ x ∈ x0, 0 ≤ x ∧ x ≤ 255) :
    Calls Try.prog 4 #[v0] w fun e w' => e = .returned (.bool true) ∧ Below w.heap.size w w' := by
  obtain ⟨A0, c0, rfl, hc0, hr0⟩ := h0
  have K0 := Aside0.mk (show HelpB.tB.K w x0 (.slice A0 x0.length c0) from ⟨A0, c0, rfl, hc0, hr0⟩)
  have hm0 := hr0.2.1
  clear hc0 hr0
  have Ahb := Aside0.mk hb
  clear hb
  by_cases q0 : 1048576 < x0.length
  · have qz0 : (1048576 : Int) < (x0.length : Int) := by omega
    go_enter Try.func4, Try.ntmps4
    go_wp2
    go_ret
    exact ⟨rfl, Below.refl _ _⟩
  have qz0 : ¬ (1048576 : Int) < (x0.length : Int) := by omega
  have s0 : HelpB.smallB x0 := by show x0.length ≤ 1048576; omega
  have S0 := Aside0.mk s0
  clear q0 s0
  have B0 := Aside0.mk (HelpB.bd_small S0.out)
  have rb := ans_small x0 S0.out Ahb.out
  have RB := Aside0.mk rb
  clear rb
  have cx0 : (HelpB.cntB x0 : Int) ≤ 1048576 := Int.ofNat_le.2 (HelpB.cnt_small S0.out)
  have p1 : ¬ (1 + (HelpB.cntB x0 : Int) < 0) := by omega
  generalize hR : ord (tris x0) = R at RB
  have HR := Aside0.mk hR
  clear hR
  have cr : (HelpI.cntI R : Int) ≤ 1099511627000 := Int.ofNat_le.2 RB.out.2
  have p2 : ¬ (1 + (HelpI.cntI R : Int) < 0) := by omega
  go_enter Try.func4, Try.ntmps4
  go_wp2_with fail
  go_at_call 20
  refine (HelpB.to_calls x0 (.slice A0 x0.length c0) _ (HelpB.tB.K_below (Below.refl _ _) K0.out) B0.out).mono ?_
  rintro e w1 ⟨t0, rfl, ht0, gg⟩
  have Gw1 := Aside0.mk (show Grew w w1 from grew_trans (Below.refl _ _) gg)
  have T0 := Aside0.mk ht0
  clear ht0
  clear gg
  go_wp2_with fail
  go_at_call 19
  refine (specC x0 t0 _ (HelpB.tB.K_of_M T0.out) S0.out Ahb.out).mono ?_
  rintro e w2 ⟨v, rfl, hk, gg⟩
  have Gw2 := Aside0.mk (show Grew w w2 from grew_trans (Gw1.out) gg)
  have T0' := Aside0.mk (Ty.M_below T0.out gg)
  rw [HR.out] at hk
  have W := Aside0.mk hk
  clear hk
  clear gg
  clear T0'
  have GGw2 := Aside0.mk (show Grew w2 w2 from Below.refl _ _)
  go_wp2_with fail
  go_at_call 20
  refine (HelpB.to_calls x0 (.slice A0 x0.length c0) _ (HelpB.tB.K_below (Gw2.out) K0.out) B0.out).mono ?_
  rintro e w3 ⟨t0, rfl, ht0, gg⟩
  have Gw3 := Aside0.mk (show Grew w w3 from grew_trans (Gw2.out) gg)
  have GGw3 := Aside0.mk (show Grew w2 w3 from grew_trans GGw2.out gg)
  have X0 := Aside0.mk (HelpB.tB.M_lower (GGw2.out).size (Ty.M_beyond ht0))
  have E0 := Aside0.mk gg.size
  clear ht0
  clear gg
  go_wp2_with fail
  go_at_call 21
  refine (implC x0 t0 _ (HelpB.tB.K_of_M X0.out) S0.out Ahb.out).mono ?_
  rintro e w4 ⟨g, rfl, hm, gg⟩
  have Gw4 := Aside0.mk (show Grew w w4 from grew_trans (Gw3.out) gg)
  have GGw4 := Aside0.mk (show Grew w2 w4 from grew_trans GGw3.out gg)
  have X0' := Aside0.mk (Ty.M_below X0.out gg)
  rw [HR.out] at hm
  have Y := Aside0.mk (HelpI.tI.M_lower (GGw3.out).size (Ty.M_beyond hm))
  have EY := Aside0.mk gg.size
  clear hm
  clear gg
  go_wp2_with fail
  go_at_call 22
  refine (HelpI.eq_calls R g v _ (HelpI.tI.K_of_M Y.out) (HelpI.tI.K_below GGw4.out W.out) RB.out.1).mono ?_
  rintro e w5 ⟨rfl, gg⟩
  have Gw5 := Aside0.mk (show Grew w w5 from grew_trans (Gw4.out) gg)
  have GGw5 := Aside0.mk (show Grew w2 w5 from grew_trans GGw4.out gg)
  have X0'' := Aside0.mk (Ty.M_below X0'.out gg)
  have Y' := Aside0.mk (Ty.M_below Y.out gg)
  clear gg
  go_wp2_with fail
  go_at_call 20
  refine (HelpB.to_calls x0 (.slice A0 x0.length c0) _ (HelpB.tB.K_below (Gw5.out) K0.out) B0.out).mono ?_
  rintro e w6 ⟨z0, rfl, hz_, gg⟩
  have Gw6 := Aside0.mk (show Grew w w6 from grew_trans (Gw5.out) gg)
  have GGw6 := Aside0.mk (show Grew w2 w6 from grew_trans GGw5.out gg)
  have X0''' := Aside0.mk (Ty.M_below X0''.out gg)
  have Y'' := Aside0.mk (Ty.M_below Y'.out gg)
  have Z := Aside0.mk hz_
  clear hz_
  clear gg
  go_wp2_with fail
  go_at_call 23
  refine (HelpB.eq_calls x0 t0 z0 _ (HelpB.tB.K_of_M X0'''.out) (HelpB.tB.K_of_M Z.out) B0.out).mono ?_
  rintro e w7 ⟨rfl, gg⟩
  have Gw7 := Aside0.mk (show Grew w w7 from grew_trans (Gw6.out) gg)
  have GGw7 := Aside0.mk (show Grew w2 w7 from grew_trans GGw6.out gg)
  have X0'''' := Aside0.mk (Ty.M_below X0'''.out gg)
  have Y''' := Aside0.mk (Ty.M_below Y''.out gg)
  clear Z
  clear gg
  go_wp2_with fail
  go_at_call 24
  refine (HelpB.mark_calls x0 t0 _ (1) w2 _ GGw7.out X0''''.out (by omega) (by omega) B0.out).mono ?_
  rintro e w8 ⟨rfl, hm, hb, hkp⟩
  have GGw8 := Aside0.mk (show Grew w2 w8 from hb)
  have Gw8 := Aside0.mk (show Grew w w8 from grew_trans Gw2.out hb)
  have Y'''' := Aside0.mk (Ty.M_kept Y'''.out hkp (fun k hk hs => by have h1 := hk.1; have h2 := hk.2; have h3 := hs.1; have h4 := hs.2; have e0 := E0.out; omega))
  have Nw8 := Aside0.mk hm
  clear hm hb hkp X0''''
  clear Nw8
  go_wp2_with fail
  go_at_call 22
  refine (HelpI.eq_calls R g v _ (HelpI.tI.K_of_M Y''''.out) (HelpI.tI.K_below GGw8.out W.out) RB.out.1).mono ?_
  rintro e w9 ⟨rfl, gg⟩
  have Gw9 := Aside0.mk (show Grew w w9 from grew_trans (Gw8.out) gg)
  have GGw9 := Aside0.mk (show Grew w2 w9 from grew_trans GGw8.out gg)
  have Y''''' := Aside0.mk (Ty.M_below Y''''.out gg)
  clear gg
  go_wp2_with fail
  go_at_call 25
  refine (HelpI.mark_calls R g _ (1) w2 _ GGw9.out Y'''''.out (by omega) (by omega) RB.out.1).mono ?_
  rintro e w10 ⟨rfl, hm, hb, hkp⟩
  have GGw10 := Aside0.mk (show Grew w2 w10 from hb)
  have Gw10 := Aside0.mk (show Grew w w10 from grew_trans Gw2.out hb)
  have Nw10 := Aside0.mk hm
  clear hm hb hkp Y'''''
  go_wp2_with fail
  go_at_call 26
  refine (HelpI.held_calls R g 1 _ (HelpI.tI.K_of_M Nw10.out) (by omega) (by omega) RB.out.1).mono ?_
  rintro e w11 ⟨rfl, gg⟩
  have Gw11 := Aside0.mk (show Grew w w11 from grew_trans (Gw10.out) gg)
  have GGw11 := Aside0.mk (show Grew w2 w11 from grew_trans GGw10.out gg)
  have Nw10' := Aside0.mk (Ty.M_below Nw10.out gg)
  clear gg
  go_wp2_with fail
  go_at_call 20
  refine (HelpB.to_calls x0 (.slice A0 x0.length c0) _ (HelpB.tB.K_below (Gw11.out) K0.out) B0.out).mono ?_
  rintro e w12 ⟨y0, rfl, hy0, gg⟩
  have Gw12 := Aside0.mk (show Grew w w12 from grew_trans (Gw11.out) gg)
  have GGw12 := Aside0.mk (show Grew w2 w12 from grew_trans GGw11.out gg)
  have Nw10'' := Aside0.mk (Ty.M_below Nw10'.out gg)
  have D0 := Aside0.mk hy0
  clear hy0
  clear gg
  go_wp2_with fail
  go_at_call 21
  refine (implC x0 y0 _ (HelpB.tB.K_of_M D0.out) S0.out Ahb.out).mono ?_
  rintro e w13 ⟨h, rfl, hm, gg⟩
  have Gw13 := Aside0.mk (show Grew w w13 from grew_trans (Gw12.out) gg)
  have GGw13 := Aside0.mk (show Grew w2 w13 from grew_trans GGw12.out gg)
  have Nw10''' := Aside0.mk (Ty.M_below Nw10''.out gg)
  have D0' := Aside0.mk (Ty.M_below D0.out gg)
  rw [HR.out] at hm
  have H := Aside0.mk (HelpI.tI.K_of_M hm)
  clear hm
  clear gg
  clear D0'
  go_wp2_with fail
  go_at_call 22
  refine (HelpI.eq_calls R h v _ H.out (HelpI.tI.K_below GGw13.out W.out) RB.out.1).mono ?_
  rintro e w14 ⟨rfl, gg⟩
  have Gw14 := Aside0.mk (show Grew w w14 from grew_trans (Gw13.out) gg)
  have GGw14 := Aside0.mk (show Grew w2 w14 from grew_trans GGw13.out gg)
  have Nw10'''' := Aside0.mk (Ty.M_below Nw10'''.out gg)
  clear gg
  go_wp2_with fail
  go_at_call 26
  refine (HelpI.held_calls R g 1 _ (HelpI.tI.K_of_M Nw10''''.out) (by omega) (by omega) RB.out.1).mono ?_
  rintro e w15 ⟨rfl, gg⟩
  have Gw15 := Aside0.mk (show Grew w w15 from grew_trans (Gw14.out) gg)
  have GGw15 := Aside0.mk (show Grew w2 w15 from grew_trans GGw14.out gg)
  have Nw10''''' := Aside0.mk (Ty.M_below Nw10''''.out gg)
  clear gg
  go_wp2
  go_ret
  exact ⟨rfl, Gw15.out⟩
end Go.Proofs.Ytmgmdnmfalepkaa.LawTri
