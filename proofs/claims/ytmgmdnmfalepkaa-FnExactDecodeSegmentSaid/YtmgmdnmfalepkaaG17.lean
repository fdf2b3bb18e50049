/- Parts of the proof (see the row's own text): LawDec. -/
import Derived.Test.YtmgmdnmfalepkaaG4
import Derived.Test.YtmgmdnmfalepkaaG6
import Derived.Test.YtmgmdnmfalepkaaG16
namespace Go.Proofs.Ytmgmdnmfalepkaa.LawDec
open Go.RowKit Go.Proofs.YtmgmdnmfalepkaaW.PrintWords Go.Proofs.YtmgmdnmfalepkaaW.PrintMore Go.Proofs.Ytmgmdnmfalepkaa.Kit Go.Proofs.Ytmgmdnmfalepkaa.PKit Go.Proofs.Ytmgmdnmfalepkaa.Ty Go.Proofs.Ytmgmdnmfalepkaa.Decode Go.Proofs.Ytmgmdnmfalepkaa.PSeg Go.Proofs.Ytmgmdnmfalepkaa.PDec
set_option linter.unusedVariables false
set_option maxRecDepth 100000 in
set_option maxHeartbeats 4000000 in
theorem law_calls (x0 : List Int) (v0 : Value) (w : World) (h0 : HelpB.tB.K w x0 v0) (hb : ∀ x ∈ x0, 0 ≤ x ∧ x ≤ 255) :
    Calls Try.prog 7 #[v0] w fun e w' => e = .returned (.bool true) ∧ Below w.heap.size w w' := by
  have hu50 := Try.underlying50
  obtain ⟨A0, c0, rfl, hc0, hr0⟩ := h0
  have K0 := Aside0.mk (show HelpB.tB.K w x0 (.slice A0 x0.length c0) from ⟨A0, c0, rfl, hc0, hr0⟩)
  have hm0 := hr0.2.1
  clear hc0 hr0
  have Ahb := Aside0.mk hb
  clear hb
  by_cases q0 : 1048576 < x0.length
  · have qz0 : (1048576 : Int) < (x0.length : Int) := by omega
    go_enter Try.func7, Try.ntmps7
    go_wp2
    go_ret
    exact ⟨rfl, Below.refl _ _⟩
  have qz0 : ¬ (1048576 : Int) < (x0.length : Int) := by omega
  have s0 : HelpB.smallB x0 := by show x0.length ≤ 1048576; omega
  have S0 := Aside0.mk s0
  clear q0 s0
  have B0 := Aside0.mk (HelpB.bd_small S0.out)
  have rb := ans_small x0 S0.out Ahb.out
  have RB := Aside0.mk rb
  clear rb
  have cx0 : (HelpB.cntB x0 : Int) ≤ 1048576 := Int.ofNat_le.2 (HelpB.cnt_small S0.out)
  have p1 : ¬ (1 + (HelpB.cntB x0 : Int) < 0) := by omega
  obtain ⟨C, hC⟩ : ∃ C, codeD x0 = C := ⟨_, rfl⟩
  have HCO := Aside0.mk hC
  clear hC
  generalize hR : ansD x0 = R at RB
  have HR := Aside0.mk hR
  clear hR
  have cr : (HelpSeg.cntSeg R : Int) ≤ 1099511627000 := Int.ofNat_le.2 RB.out.2
  have p2 : ¬ (1 + (HelpSeg.cntSeg R : Int) < 0) := by omega
  go_enter Try.func7, Try.ntmps7
  go_wp2_with fail
  go_at_call 20
  refine (HelpB.to_calls x0 (.slice A0 x0.length c0) _ (HelpB.tB.K_below (Below.refl _ _) K0.out) B0.out).mono ?_
  rintro e w1 ⟨tT0, rfl, ht_, gg⟩
  have Gw1 := Aside0.mk (show Grew w w1 from grew_trans (Below.refl _ _) gg)
  have Ew1 := Aside0.mk gg.size
  have T0 := Aside0.mk ( ht_)
  clear ht_
  clear gg
  go_wp2_with fail
  go_at_call 44
  refine (specC x0 tT0 _ (HelpB.tB.K_of_M T0.out) S0.out Ahb.out).mono ?_
  rintro e w2 ⟨v, rfl, hk, gg⟩
  have Gw2 := Aside0.mk (show Grew w w2 from grew_trans (Gw1.out) gg)
  have Ew2 := Aside0.mk gg.size
  have n_ := Aside0.mk (Ty.M_below T0.out gg)
  clear T0
  have T0 := n_
  clear n_
  rw [HCO.out]
  rw [HR.out] at hk
  have W := Aside0.mk hk
  clear hk
  clear gg
  clear T0
  obtain ⟨A1vw, c1vw, A2vw, c2vw, A3vw, c3vw, es_⟩ := HelpSeg.form W.out
  subst es_
  go_wp2_with fail
  obtain ⟨gvw, hgb⟩ : ∃ g_, g_ = w2.heap.size := ⟨_, rfl⟩
  obtain ⟨w3, hW_⟩ : ∃ w_, w_ = w2.alloc (.cells #[.int .i64 (R.1), .slice A1vw (R.2.1).length c1vw, .slice A2vw (R.2.2.1).length c2vw, .slice A3vw (R.2.2.2).length c3vw] 50 (0, 0)) := ⟨_, rfl⟩
  rw [← hW_, ← hgb]
  have BKvw := Aside0.mk (show w3.heap[gvw]? = some (.cells #[.int .i64 (R.1), .slice A1vw (R.2.1).length c1vw, .slice A2vw (R.2.2.1).length c2vw, .slice A3vw (R.2.2.2).length c3vw] 50 (0, 0)) from by rw [hW_, hgb]; exact blk_new w2 _)
  have gg : Grew w2 w3 := by rw [hW_]; exact below_alloc (Below.refl _ _) _
  have GW_ := Aside0.mk gg
  have PGvw := Aside0.mk (show w2.heap.size ≤ gvw from Nat.le_of_eq hgb.symm)
  have PLvw := Aside0.mk (blk_lt BKvw.out)
  clear hW_ hgb
  have Gw3 := Aside0.mk (show Grew w w3 from grew_trans (Gw2.out) gg)
  have Ew3 := Aside0.mk gg.size
  clear gg
  have GGw3 := Aside0.mk (show Grew w3 w3 from Below.refl _ _)
  have n_ := Aside0.mk (HelpSeg.tSeg.K_below GW_.out W.out)
  clear W
  have W := n_
  clear n_
  go_at_call 20
  refine (HelpB.to_calls x0 (.slice A0 x0.length c0) _ (HelpB.tB.K_below (Gw3.out) K0.out) B0.out).mono ?_
  rintro e w4 ⟨tX0, rfl, ht_, gg⟩
  have Gw4 := Aside0.mk (show Grew w w4 from grew_trans (Gw3.out) gg)
  have Ew4 := Aside0.mk gg.size
  have GGw4 := Aside0.mk (show Grew w3 w4 from grew_trans GGw3.out gg)
  have n_ := Aside0.mk (blk_below (g := gvw) (o := .cells #[.int .i64 (R.1), .slice A1vw (R.2.1).length c1vw, .slice A2vw (R.2.2.1).length c2vw, .slice A3vw (R.2.2.2).length c3vw] 50 (0, 0)) BKvw.out gg)
  clear BKvw
  have BKvw := n_
  clear n_
  have X0 := Aside0.mk (HelpB.tB.M_lower (GGw3.out).size (Ty.M_beyond ht_))
  clear ht_
  clear gg
  have hcgvw0 : w4.cell? ⟨gvw, 0, none⟩ = some (.int .i64 (R.1)) := (blk_cell BKvw.out 0).trans rfl
  have hfgvw0 := blk_frozen BKvw.out 0
  have hcgvw1 : w4.cell? ⟨gvw, 1, none⟩ = some (.slice A1vw (R.2.1).length c1vw) := (blk_cell BKvw.out 1).trans rfl
  have hfgvw1 := blk_frozen BKvw.out 1
  have hcgvw2 : w4.cell? ⟨gvw, 2, none⟩ = some (.slice A2vw (R.2.2.1).length c2vw) := (blk_cell BKvw.out 2).trans rfl
  have hfgvw2 := blk_frozen BKvw.out 2
  have hcgvw3 : w4.cell? ⟨gvw, 3, none⟩ = some (.slice A3vw (R.2.2.2).length c3vw) := (blk_cell BKvw.out 3).trans rfl
  have hfgvw3 := blk_frozen BKvw.out 3
  go_wp2_with fail
  go_at_call 45
  refine (implC x0 (tX0) _ (HelpB.tB.K_of_M X0.out) S0.out Ahb.out).mono ?_
  rintro e w5 ⟨g, rfl, hm, gg⟩
  clear hcgvw0 hfgvw0 hcgvw1 hfgvw1 hcgvw2 hfgvw2 hcgvw3 hfgvw3
  have Gw5 := Aside0.mk (show Grew w w5 from grew_trans (Gw4.out) gg)
  have Ew5 := Aside0.mk gg.size
  have GGw5 := Aside0.mk (show Grew w3 w5 from grew_trans GGw4.out gg)
  have n_ := Aside0.mk (Ty.M_below X0.out gg)
  clear X0
  have X0 := n_
  clear n_
  have n_ := Aside0.mk (blk_below (g := gvw) (o := .cells #[.int .i64 (R.1), .slice A1vw (R.2.1).length c1vw, .slice A2vw (R.2.2.1).length c2vw, .slice A3vw (R.2.2.2).length c3vw] 50 (0, 0)) BKvw.out gg)
  clear BKvw
  have BKvw := n_
  clear n_
  rw [HCO.out]
  rw [HR.out] at hm
  have Y := Aside0.mk (HelpSeg.tSeg.M_lower (GGw4.out).size (Ty.M_beyond hm))
  clear hm
  clear gg
  obtain ⟨A1vg, c1vg, A2vg, c2vg, A3vg, c3vg, es_⟩ := HelpSeg.form (HelpSeg.tSeg.K_of_M Y.out)
  subst es_
  have hcgvw0 : w5.cell? ⟨gvw, 0, none⟩ = some (.int .i64 (R.1)) := (blk_cell BKvw.out 0).trans rfl
  have hfgvw0 := blk_frozen BKvw.out 0
  have hcgvw1 : w5.cell? ⟨gvw, 1, none⟩ = some (.slice A1vw (R.2.1).length c1vw) := (blk_cell BKvw.out 1).trans rfl
  have hfgvw1 := blk_frozen BKvw.out 1
  have hcgvw2 : w5.cell? ⟨gvw, 2, none⟩ = some (.slice A2vw (R.2.2.1).length c2vw) := (blk_cell BKvw.out 2).trans rfl
  have hfgvw2 := blk_frozen BKvw.out 2
  have hcgvw3 : w5.cell? ⟨gvw, 3, none⟩ = some (.slice A3vw (R.2.2.2).length c3vw) := (blk_cell BKvw.out 3).trans rfl
  have hfgvw3 := blk_frozen BKvw.out 3
  have hdgvw0 : (w5.alloc (.cells #[.int .i64 (R.1), .slice A1vg (R.2.1).length c1vg, .slice A2vg (R.2.2.1).length c2vg, .slice A3vg (R.2.2.2).length c3vg] 50 (0, 0))).cell? ⟨gvw, 0, none⟩ = some (.int .i64 (R.1)) := (blk_cell (blk_alloc BKvw.out _) 0).trans rfl
  have hegvw0 := blk_frozen (blk_alloc BKvw.out (.cells #[.int .i64 (R.1), .slice A1vg (R.2.1).length c1vg, .slice A2vg (R.2.2.1).length c2vg, .slice A3vg (R.2.2.2).length c3vg] 50 (0, 0))) 0
  have hdgvw1 : (w5.alloc (.cells #[.int .i64 (R.1), .slice A1vg (R.2.1).length c1vg, .slice A2vg (R.2.2.1).length c2vg, .slice A3vg (R.2.2.2).length c3vg] 50 (0, 0))).cell? ⟨gvw, 1, none⟩ = some (.slice A1vw (R.2.1).length c1vw) := (blk_cell (blk_alloc BKvw.out _) 1).trans rfl
  have hegvw1 := blk_frozen (blk_alloc BKvw.out (.cells #[.int .i64 (R.1), .slice A1vg (R.2.1).length c1vg, .slice A2vg (R.2.2.1).length c2vg, .slice A3vg (R.2.2.2).length c3vg] 50 (0, 0))) 1
  have hdgvw2 : (w5.alloc (.cells #[.int .i64 (R.1), .slice A1vg (R.2.1).length c1vg, .slice A2vg (R.2.2.1).length c2vg, .slice A3vg (R.2.2.2).length c3vg] 50 (0, 0))).cell? ⟨gvw, 2, none⟩ = some (.slice A2vw (R.2.2.1).length c2vw) := (blk_cell (blk_alloc BKvw.out _) 2).trans rfl
  have hegvw2 := blk_frozen (blk_alloc BKvw.out (.cells #[.int .i64 (R.1), .slice A1vg (R.2.1).length c1vg, .slice A2vg (R.2.2.1).length c2vg, .slice A3vg (R.2.2.2).length c3vg] 50 (0, 0))) 2
  have hdgvw3 : (w5.alloc (.cells #[.int .i64 (R.1), .slice A1vg (R.2.1).length c1vg, .slice A2vg (R.2.2.1).length c2vg, .slice A3vg (R.2.2.2).length c3vg] 50 (0, 0))).cell? ⟨gvw, 3, none⟩ = some (.slice A3vw (R.2.2.2).length c3vw) := (blk_cell (blk_alloc BKvw.out _) 3).trans rfl
  have hegvw3 := blk_frozen (blk_alloc BKvw.out (.cells #[.int .i64 (R.1), .slice A1vg (R.2.1).length c1vg, .slice A2vg (R.2.2.1).length c2vg, .slice A3vg (R.2.2.2).length c3vg] 50 (0, 0))) 3
  go_wp2_with fail
  obtain ⟨gvg, hgb⟩ : ∃ g_, g_ = w5.heap.size := ⟨_, rfl⟩
  obtain ⟨w6, hW_⟩ : ∃ w_, w_ = w5.alloc (.cells #[.int .i64 (R.1), .slice A1vg (R.2.1).length c1vg, .slice A2vg (R.2.2.1).length c2vg, .slice A3vg (R.2.2.2).length c3vg] 50 (0, 0)) := ⟨_, rfl⟩
  rw [← hW_, ← hgb]
  have BKvg := Aside0.mk (show w6.heap[gvg]? = some (.cells #[.int .i64 (R.1), .slice A1vg (R.2.1).length c1vg, .slice A2vg (R.2.2.1).length c2vg, .slice A3vg (R.2.2.2).length c3vg] 50 (0, 0)) from by rw [hW_, hgb]; exact blk_new w5 _)
  have gg : Grew w5 w6 := by rw [hW_]; exact below_alloc (Below.refl _ _) _
  have PGvg := Aside0.mk (show w5.heap.size ≤ gvg from Nat.le_of_eq hgb.symm)
  have PLvg := Aside0.mk (blk_lt BKvg.out)
  clear hW_ hgb
  clear hcgvw0 hfgvw0 hcgvw1 hfgvw1 hcgvw2 hfgvw2 hcgvw3 hfgvw3 hdgvw0 hegvw0 hdgvw1 hegvw1 hdgvw2 hegvw2 hdgvw3 hegvw3
  have Gw6 := Aside0.mk (show Grew w w6 from grew_trans (Gw5.out) gg)
  have Ew6 := Aside0.mk gg.size
  have GGw6 := Aside0.mk (show Grew w3 w6 from grew_trans GGw5.out gg)
  have n_ := Aside0.mk (Ty.M_below X0.out gg)
  clear X0
  have X0 := n_
  clear n_
  have n_ := Aside0.mk (Ty.M_below Y.out gg)
  clear Y
  have Y := n_
  clear n_
  have n_ := Aside0.mk (blk_below (g := gvw) (o := .cells #[.int .i64 (R.1), .slice A1vw (R.2.1).length c1vw, .slice A2vw (R.2.2.1).length c2vw, .slice A3vw (R.2.2.2).length c3vw] 50 (0, 0)) BKvw.out gg)
  clear BKvw
  have BKvw := n_
  clear n_
  clear gg
  go_at_call 33
  refine (HelpSeg.eq_calls R (.agg #[.int .i64 (R.1), .slice A1vg (R.2.1).length c1vg, .slice A2vg (R.2.2.1).length c2vg, .slice A3vg (R.2.2.2).length c3vg]) (.agg #[.int .i64 (R.1), .slice A1vw (R.2.1).length c1vw, .slice A2vw (R.2.2.1).length c2vw, .slice A3vw (R.2.2.2).length c3vw]) _ (HelpSeg.tSeg.K_of_M Y.out) (HelpSeg.tSeg.K_below GGw6.out W.out) RB.out.1).mono ?_
  rintro e w7 ⟨rfl, gg⟩
  have Gw7 := Aside0.mk (show Grew w w7 from grew_trans (Gw6.out) gg)
  have Ew7 := Aside0.mk gg.size
  have GGw7 := Aside0.mk (show Grew w3 w7 from grew_trans GGw6.out gg)
  have n_ := Aside0.mk (Ty.M_below X0.out gg)
  clear X0
  have X0 := n_
  clear n_
  have n_ := Aside0.mk (Ty.M_below Y.out gg)
  clear Y
  have Y := n_
  clear n_
  have n_ := Aside0.mk (blk_below (g := gvw) (o := .cells #[.int .i64 (R.1), .slice A1vw (R.2.1).length c1vw, .slice A2vw (R.2.2.1).length c2vw, .slice A3vw (R.2.2.2).length c3vw] 50 (0, 0)) BKvw.out gg)
  clear BKvw
  have BKvw := n_
  clear n_
  have n_ := Aside0.mk (blk_below (g := gvg) (o := .cells #[.int .i64 (R.1), .slice A1vg (R.2.1).length c1vg, .slice A2vg (R.2.2.1).length c2vg, .slice A3vg (R.2.2.2).length c3vg] 50 (0, 0)) BKvg.out gg)
  clear BKvg
  have BKvg := n_
  clear n_
  clear gg
  have hcgvw0 : w7.cell? ⟨gvw, 0, none⟩ = some (.int .i64 (R.1)) := (blk_cell BKvw.out 0).trans rfl
  have hfgvw0 := blk_frozen BKvw.out 0
  have hcgvw1 : w7.cell? ⟨gvw, 1, none⟩ = some (.slice A1vw (R.2.1).length c1vw) := (blk_cell BKvw.out 1).trans rfl
  have hfgvw1 := blk_frozen BKvw.out 1
  have hcgvw2 : w7.cell? ⟨gvw, 2, none⟩ = some (.slice A2vw (R.2.2.1).length c2vw) := (blk_cell BKvw.out 2).trans rfl
  have hfgvw2 := blk_frozen BKvw.out 2
  have hcgvw3 : w7.cell? ⟨gvw, 3, none⟩ = some (.slice A3vw (R.2.2.2).length c3vw) := (blk_cell BKvw.out 3).trans rfl
  have hfgvw3 := blk_frozen BKvw.out 3
  have hcgvg0 : w7.cell? ⟨gvg, 0, none⟩ = some (.int .i64 (R.1)) := (blk_cell BKvg.out 0).trans rfl
  have hfgvg0 := blk_frozen BKvg.out 0
  have hcgvg1 : w7.cell? ⟨gvg, 1, none⟩ = some (.slice A1vg (R.2.1).length c1vg) := (blk_cell BKvg.out 1).trans rfl
  have hfgvg1 := blk_frozen BKvg.out 1
  have hcgvg2 : w7.cell? ⟨gvg, 2, none⟩ = some (.slice A2vg (R.2.2.1).length c2vg) := (blk_cell BKvg.out 2).trans rfl
  have hfgvg2 := blk_frozen BKvg.out 2
  have hcgvg3 : w7.cell? ⟨gvg, 3, none⟩ = some (.slice A3vg (R.2.2.2).length c3vg) := (blk_cell BKvg.out 3).trans rfl
  have hfgvg3 := blk_frozen BKvg.out 3
  go_wp2_with fail
  go_at_call 20
  refine (HelpB.to_calls x0 (.slice A0 x0.length c0) _ (HelpB.tB.K_below (Gw7.out) K0.out) B0.out).mono ?_
  rintro e w8 ⟨z0, rfl, hz_, gg⟩
  clear hcgvw0 hfgvw0 hcgvw1 hfgvw1 hcgvw2 hfgvw2 hcgvw3 hfgvw3 hcgvg0 hfgvg0 hcgvg1 hfgvg1 hcgvg2 hfgvg2 hcgvg3 hfgvg3
  have Gw8 := Aside0.mk (show Grew w w8 from grew_trans (Gw7.out) gg)
  have Ew8 := Aside0.mk gg.size
  have GGw8 := Aside0.mk (show Grew w3 w8 from grew_trans GGw7.out gg)
  have n_ := Aside0.mk (Ty.M_below X0.out gg)
  clear X0
  have X0 := n_
  clear n_
  have n_ := Aside0.mk (Ty.M_below Y.out gg)
  clear Y
  have Y := n_
  clear n_
  have n_ := Aside0.mk (blk_below (g := gvw) (o := .cells #[.int .i64 (R.1), .slice A1vw (R.2.1).length c1vw, .slice A2vw (R.2.2.1).length c2vw, .slice A3vw (R.2.2.2).length c3vw] 50 (0, 0)) BKvw.out gg)
  clear BKvw
  have BKvw := n_
  clear n_
  have n_ := Aside0.mk (blk_below (g := gvg) (o := .cells #[.int .i64 (R.1), .slice A1vg (R.2.1).length c1vg, .slice A2vg (R.2.2.1).length c2vg, .slice A3vg (R.2.2.2).length c3vg] 50 (0, 0)) BKvg.out gg)
  clear BKvg
  have BKvg := n_
  clear n_
  have Z := Aside0.mk hz_
  clear hz_
  clear gg
  have hcgvw0 : w8.cell? ⟨gvw, 0, none⟩ = some (.int .i64 (R.1)) := (blk_cell BKvw.out 0).trans rfl
  have hfgvw0 := blk_frozen BKvw.out 0
  have hcgvw1 : w8.cell? ⟨gvw, 1, none⟩ = some (.slice A1vw (R.2.1).length c1vw) := (blk_cell BKvw.out 1).trans rfl
  have hfgvw1 := blk_frozen BKvw.out 1
  have hcgvw2 : w8.cell? ⟨gvw, 2, none⟩ = some (.slice A2vw (R.2.2.1).length c2vw) := (blk_cell BKvw.out 2).trans rfl
  have hfgvw2 := blk_frozen BKvw.out 2
  have hcgvw3 : w8.cell? ⟨gvw, 3, none⟩ = some (.slice A3vw (R.2.2.2).length c3vw) := (blk_cell BKvw.out 3).trans rfl
  have hfgvw3 := blk_frozen BKvw.out 3
  have hcgvg0 : w8.cell? ⟨gvg, 0, none⟩ = some (.int .i64 (R.1)) := (blk_cell BKvg.out 0).trans rfl
  have hfgvg0 := blk_frozen BKvg.out 0
  have hcgvg1 : w8.cell? ⟨gvg, 1, none⟩ = some (.slice A1vg (R.2.1).length c1vg) := (blk_cell BKvg.out 1).trans rfl
  have hfgvg1 := blk_frozen BKvg.out 1
  have hcgvg2 : w8.cell? ⟨gvg, 2, none⟩ = some (.slice A2vg (R.2.2.1).length c2vg) := (blk_cell BKvg.out 2).trans rfl
  have hfgvg2 := blk_frozen BKvg.out 2
  have hcgvg3 : w8.cell? ⟨gvg, 3, none⟩ = some (.slice A3vg (R.2.2.2).length c3vg) := (blk_cell BKvg.out 3).trans rfl
  have hfgvg3 := blk_frozen BKvg.out 3
  go_wp2_with fail
  go_at_call 23
  refine (HelpB.eq_calls x0 (tX0) z0 _ (HelpB.tB.K_of_M X0.out) (HelpB.tB.K_of_M Z.out) B0.out).mono ?_
  rintro e w9 ⟨rfl, gg⟩
  clear hcgvw0 hfgvw0 hcgvw1 hfgvw1 hcgvw2 hfgvw2 hcgvw3 hfgvw3 hcgvg0 hfgvg0 hcgvg1 hfgvg1 hcgvg2 hfgvg2 hcgvg3 hfgvg3
  have Gw9 := Aside0.mk (show Grew w w9 from grew_trans (Gw8.out) gg)
  have Ew9 := Aside0.mk gg.size
  have GGw9 := Aside0.mk (show Grew w3 w9 from grew_trans GGw8.out gg)
  have n_ := Aside0.mk (Ty.M_below X0.out gg)
  clear X0
  have X0 := n_
  clear n_
  have n_ := Aside0.mk (Ty.M_below Y.out gg)
  clear Y
  have Y := n_
  clear n_
  have n_ := Aside0.mk (blk_below (g := gvw) (o := .cells #[.int .i64 (R.1), .slice A1vw (R.2.1).length c1vw, .slice A2vw (R.2.2.1).length c2vw, .slice A3vw (R.2.2.2).length c3vw] 50 (0, 0)) BKvw.out gg)
  clear BKvw
  have BKvw := n_
  clear n_
  have n_ := Aside0.mk (blk_below (g := gvg) (o := .cells #[.int .i64 (R.1), .slice A1vg (R.2.1).length c1vg, .slice A2vg (R.2.2.1).length c2vg, .slice A3vg (R.2.2.2).length c3vg] 50 (0, 0)) BKvg.out gg)
  clear BKvg
  have BKvg := n_
  clear n_
  clear Z
  clear gg
  have hcgvw0 : w9.cell? ⟨gvw, 0, none⟩ = some (.int .i64 (R.1)) := (blk_cell BKvw.out 0).trans rfl
  have hfgvw0 := blk_frozen BKvw.out 0
  have hcgvw1 : w9.cell? ⟨gvw, 1, none⟩ = some (.slice A1vw (R.2.1).length c1vw) := (blk_cell BKvw.out 1).trans rfl
  have hfgvw1 := blk_frozen BKvw.out 1
  have hcgvw2 : w9.cell? ⟨gvw, 2, none⟩ = some (.slice A2vw (R.2.2.1).length c2vw) := (blk_cell BKvw.out 2).trans rfl
  have hfgvw2 := blk_frozen BKvw.out 2
  have hcgvw3 : w9.cell? ⟨gvw, 3, none⟩ = some (.slice A3vw (R.2.2.2).length c3vw) := (blk_cell BKvw.out 3).trans rfl
  have hfgvw3 := blk_frozen BKvw.out 3
  have hcgvg0 : w9.cell? ⟨gvg, 0, none⟩ = some (.int .i64 (R.1)) := (blk_cell BKvg.out 0).trans rfl
  have hfgvg0 := blk_frozen BKvg.out 0
  have hcgvg1 : w9.cell? ⟨gvg, 1, none⟩ = some (.slice A1vg (R.2.1).length c1vg) := (blk_cell BKvg.out 1).trans rfl
  have hfgvg1 := blk_frozen BKvg.out 1
  have hcgvg2 : w9.cell? ⟨gvg, 2, none⟩ = some (.slice A2vg (R.2.2.1).length c2vg) := (blk_cell BKvg.out 2).trans rfl
  have hfgvg2 := blk_frozen BKvg.out 2
  have hcgvg3 : w9.cell? ⟨gvg, 3, none⟩ = some (.slice A3vg (R.2.2.2).length c3vg) := (blk_cell BKvg.out 3).trans rfl
  have hfgvg3 := blk_frozen BKvg.out 3
  go_wp2_with fail
  go_at_call 24
  refine (HelpB.mark_calls x0 (tX0) _ (1) w3 _ GGw9.out X0.out (by omega) (by omega) B0.out).mono ?_
  rintro e w10 ⟨rfl, hm, hb, hkp⟩
  clear hcgvw0 hfgvw0 hcgvw1 hfgvw1 hcgvw2 hfgvw2 hcgvw3 hfgvw3 hcgvg0 hfgvg0 hcgvg1 hfgvg1 hcgvg2 hfgvg2 hcgvg3 hfgvg3
  have GGw10 := Aside0.mk (show Grew w3 w10 from hb)
  have Gw10 := Aside0.mk (show Grew w w10 from grew_trans Gw3.out hb)
  have Ew10 := Aside0.mk hkp.1
  have n_ := Aside0.mk (Ty.M_kept Y.out hkp (fun k hk hs => by have a1_ := hk.1; have a2_ := hk.2; have a3_ := hs.1; have a4_ := hs.2; have e0_ := Ew1.out; have e1_ := Ew2.out; have e2_ := Ew3.out; have e3_ := PGvw.out; have e4_ := PLvw.out; have e5_ := Ew4.out; have e6_ := Ew5.out; have e7_ := Ew6.out; have e8_ := PGvg.out; have e9_ := PLvg.out; have e10_ := Ew7.out; have e11_ := Ew8.out; have e12_ := Ew9.out; have e13_ := Ew10.out; omega))
  clear Y
  have Y := n_
  clear n_
  have n_ := Aside0.mk (show w10.heap[gvw]? = some (.cells #[.int .i64 (R.1), .slice A1vw (R.2.1).length c1vw, .slice A2vw (R.2.2.1).length c2vw, .slice A3vw (R.2.2.2).length c3vw] 50 (0, 0)) from (hkp.2 gvw (blk_lt BKvw.out) (fun hk => by have a1_ := hk.1; have a2_ := hk.2; have e0_ := Ew1.out; have e1_ := Ew2.out; have e2_ := Ew3.out; have e3_ := PGvw.out; have e4_ := PLvw.out; have e5_ := Ew4.out; have e6_ := Ew5.out; have e7_ := Ew6.out; have e8_ := PGvg.out; have e9_ := PLvg.out; have e10_ := Ew7.out; have e11_ := Ew8.out; have e12_ := Ew9.out; have e13_ := Ew10.out; omega)).trans BKvw.out)
  clear BKvw
  have BKvw := n_
  clear n_
  have n_ := Aside0.mk (show w10.heap[gvg]? = some (.cells #[.int .i64 (R.1), .slice A1vg (R.2.1).length c1vg, .slice A2vg (R.2.2.1).length c2vg, .slice A3vg (R.2.2.2).length c3vg] 50 (0, 0)) from (hkp.2 gvg (blk_lt BKvg.out) (fun hk => by have a1_ := hk.1; have a2_ := hk.2; have e0_ := Ew1.out; have e1_ := Ew2.out; have e2_ := Ew3.out; have e3_ := PGvw.out; have e4_ := PLvw.out; have e5_ := Ew4.out; have e6_ := Ew5.out; have e7_ := Ew6.out; have e8_ := PGvg.out; have e9_ := PLvg.out; have e10_ := Ew7.out; have e11_ := Ew8.out; have e12_ := Ew9.out; have e13_ := Ew10.out; omega)).trans BKvg.out)
  clear BKvg
  have BKvg := n_
  clear n_
  have N_ := Aside0.mk hm
  clear hm hb hkp X0
  clear N_
  have hcgvw0 : w10.cell? ⟨gvw, 0, none⟩ = some (.int .i64 (R.1)) := (blk_cell BKvw.out 0).trans rfl
  have hfgvw0 := blk_frozen BKvw.out 0
  have hcgvw1 : w10.cell? ⟨gvw, 1, none⟩ = some (.slice A1vw (R.2.1).length c1vw) := (blk_cell BKvw.out 1).trans rfl
  have hfgvw1 := blk_frozen BKvw.out 1
  have hcgvw2 : w10.cell? ⟨gvw, 2, none⟩ = some (.slice A2vw (R.2.2.1).length c2vw) := (blk_cell BKvw.out 2).trans rfl
  have hfgvw2 := blk_frozen BKvw.out 2
  have hcgvw3 : w10.cell? ⟨gvw, 3, none⟩ = some (.slice A3vw (R.2.2.2).length c3vw) := (blk_cell BKvw.out 3).trans rfl
  have hfgvw3 := blk_frozen BKvw.out 3
  have hcgvg0 : w10.cell? ⟨gvg, 0, none⟩ = some (.int .i64 (R.1)) := (blk_cell BKvg.out 0).trans rfl
  have hfgvg0 := blk_frozen BKvg.out 0
  have hcgvg1 : w10.cell? ⟨gvg, 1, none⟩ = some (.slice A1vg (R.2.1).length c1vg) := (blk_cell BKvg.out 1).trans rfl
  have hfgvg1 := blk_frozen BKvg.out 1
  have hcgvg2 : w10.cell? ⟨gvg, 2, none⟩ = some (.slice A2vg (R.2.2.1).length c2vg) := (blk_cell BKvg.out 2).trans rfl
  have hfgvg2 := blk_frozen BKvg.out 2
  have hcgvg3 : w10.cell? ⟨gvg, 3, none⟩ = some (.slice A3vg (R.2.2.2).length c3vg) := (blk_cell BKvg.out 3).trans rfl
  have hfgvg3 := blk_frozen BKvg.out 3
  go_wp2_with fail
  go_at_call 33
  refine (HelpSeg.eq_calls R (.agg #[.int .i64 (R.1), .slice A1vg (R.2.1).length c1vg, .slice A2vg (R.2.2.1).length c2vg, .slice A3vg (R.2.2.2).length c3vg]) (.agg #[.int .i64 (R.1), .slice A1vw (R.2.1).length c1vw, .slice A2vw (R.2.2.1).length c2vw, .slice A3vw (R.2.2.2).length c3vw]) _ (HelpSeg.tSeg.K_of_M Y.out) (HelpSeg.tSeg.K_below GGw10.out W.out) RB.out.1).mono ?_
  rintro e w11 ⟨rfl, gg⟩
  clear hcgvw0 hfgvw0 hcgvw1 hfgvw1 hcgvw2 hfgvw2 hcgvw3 hfgvw3 hcgvg0 hfgvg0 hcgvg1 hfgvg1 hcgvg2 hfgvg2 hcgvg3 hfgvg3
  have Gw11 := Aside0.mk (show Grew w w11 from grew_trans (Gw10.out) gg)
  have Ew11 := Aside0.mk gg.size
  have GGw11 := Aside0.mk (show Grew w3 w11 from grew_trans GGw10.out gg)
  have n_ := Aside0.mk (Ty.M_below Y.out gg)
  clear Y
  have Y := n_
  clear n_
  have n_ := Aside0.mk (blk_below (g := gvw) (o := .cells #[.int .i64 (R.1), .slice A1vw (R.2.1).length c1vw, .slice A2vw (R.2.2.1).length c2vw, .slice A3vw (R.2.2.2).length c3vw] 50 (0, 0)) BKvw.out gg)
  clear BKvw
  have BKvw := n_
  clear n_
  have n_ := Aside0.mk (blk_below (g := gvg) (o := .cells #[.int .i64 (R.1), .slice A1vg (R.2.1).length c1vg, .slice A2vg (R.2.2.1).length c2vg, .slice A3vg (R.2.2.2).length c3vg] 50 (0, 0)) BKvg.out gg)
  clear BKvg
  have BKvg := n_
  clear n_
  clear gg
  have hcgvw0 : w11.cell? ⟨gvw, 0, none⟩ = some (.int .i64 (R.1)) := (blk_cell BKvw.out 0).trans rfl
  have hfgvw0 := blk_frozen BKvw.out 0
  have hcgvw1 : w11.cell? ⟨gvw, 1, none⟩ = some (.slice A1vw (R.2.1).length c1vw) := (blk_cell BKvw.out 1).trans rfl
  have hfgvw1 := blk_frozen BKvw.out 1
  have hcgvw2 : w11.cell? ⟨gvw, 2, none⟩ = some (.slice A2vw (R.2.2.1).length c2vw) := (blk_cell BKvw.out 2).trans rfl
  have hfgvw2 := blk_frozen BKvw.out 2
  have hcgvw3 : w11.cell? ⟨gvw, 3, none⟩ = some (.slice A3vw (R.2.2.2).length c3vw) := (blk_cell BKvw.out 3).trans rfl
  have hfgvw3 := blk_frozen BKvw.out 3
  have hcgvg0 : w11.cell? ⟨gvg, 0, none⟩ = some (.int .i64 (R.1)) := (blk_cell BKvg.out 0).trans rfl
  have hfgvg0 := blk_frozen BKvg.out 0
  have hcgvg1 : w11.cell? ⟨gvg, 1, none⟩ = some (.slice A1vg (R.2.1).length c1vg) := (blk_cell BKvg.out 1).trans rfl
  have hfgvg1 := blk_frozen BKvg.out 1
  have hcgvg2 : w11.cell? ⟨gvg, 2, none⟩ = some (.slice A2vg (R.2.2.1).length c2vg) := (blk_cell BKvg.out 2).trans rfl
  have hfgvg2 := blk_frozen BKvg.out 2
  have hcgvg3 : w11.cell? ⟨gvg, 3, none⟩ = some (.slice A3vg (R.2.2.2).length c3vg) := (blk_cell BKvg.out 3).trans rfl
  have hfgvg3 := blk_frozen BKvg.out 3
  go_wp2_with fail
  go_at_call 35
  refine (HelpSeg.mark_calls R (.agg #[.int .i64 (R.1), .slice A1vg (R.2.1).length c1vg, .slice A2vg (R.2.2.1).length c2vg, .slice A3vg (R.2.2.2).length c3vg]) _ (1) w3 _ GGw11.out Y.out (by omega) (by omega) RB.out.1).mono ?_
  rintro e w12 ⟨rfl, hm, hb, hkp⟩
  clear hcgvw0 hfgvw0 hcgvw1 hfgvw1 hcgvw2 hfgvw2 hcgvw3 hfgvw3 hcgvg0 hfgvg0 hcgvg1 hfgvg1 hcgvg2 hfgvg2 hcgvg3 hfgvg3
  have GGw12 := Aside0.mk (show Grew w3 w12 from hb)
  have Gw12 := Aside0.mk (show Grew w w12 from grew_trans Gw3.out hb)
  have Ew12 := Aside0.mk hkp.1
  have n_ := Aside0.mk (show w12.heap[gvw]? = some (.cells #[.int .i64 (R.1), .slice A1vw (R.2.1).length c1vw, .slice A2vw (R.2.2.1).length c2vw, .slice A3vw (R.2.2.2).length c3vw] 50 (0, 0)) from (hkp.2 gvw (blk_lt BKvw.out) (fun hk => by have a1_ := hk.1; have a2_ := hk.2; have e0_ := Ew1.out; have e1_ := Ew2.out; have e2_ := Ew3.out; have e3_ := PGvw.out; have e4_ := PLvw.out; have e5_ := Ew4.out; have e6_ := Ew5.out; have e7_ := Ew6.out; have e8_ := PGvg.out; have e9_ := PLvg.out; have e10_ := Ew7.out; have e11_ := Ew8.out; have e12_ := Ew9.out; have e13_ := Ew10.out; have e14_ := Ew11.out; have e15_ := Ew12.out; omega)).trans BKvw.out)
  clear BKvw
  have BKvw := n_
  clear n_
  have n_ := Aside0.mk (show w12.heap[gvg]? = some (.cells #[.int .i64 (R.1), .slice A1vg (R.2.1).length c1vg, .slice A2vg (R.2.2.1).length c2vg, .slice A3vg (R.2.2.2).length c3vg] 50 (0, 0)) from (hkp.2 gvg (blk_lt BKvg.out) (fun hk => by have a1_ := hk.1; have a2_ := hk.2; have e0_ := Ew1.out; have e1_ := Ew2.out; have e2_ := Ew3.out; have e3_ := PGvw.out; have e4_ := PLvw.out; have e5_ := Ew4.out; have e6_ := Ew5.out; have e7_ := Ew6.out; have e8_ := PGvg.out; have e9_ := PLvg.out; have e10_ := Ew7.out; have e11_ := Ew8.out; have e12_ := Ew9.out; have e13_ := Ew10.out; have e14_ := Ew11.out; have e15_ := Ew12.out; omega)).trans BKvg.out)
  clear BKvg
  have BKvg := n_
  clear n_
  have N_ := Aside0.mk hm
  clear hm hb hkp Y
  have Y := N_
  clear N_
  have hcgvw0 : w12.cell? ⟨gvw, 0, none⟩ = some (.int .i64 (R.1)) := (blk_cell BKvw.out 0).trans rfl
  have hfgvw0 := blk_frozen BKvw.out 0
  have hcgvw1 : w12.cell? ⟨gvw, 1, none⟩ = some (.slice A1vw (R.2.1).length c1vw) := (blk_cell BKvw.out 1).trans rfl
  have hfgvw1 := blk_frozen BKvw.out 1
  have hcgvw2 : w12.cell? ⟨gvw, 2, none⟩ = some (.slice A2vw (R.2.2.1).length c2vw) := (blk_cell BKvw.out 2).trans rfl
  have hfgvw2 := blk_frozen BKvw.out 2
  have hcgvw3 : w12.cell? ⟨gvw, 3, none⟩ = some (.slice A3vw (R.2.2.2).length c3vw) := (blk_cell BKvw.out 3).trans rfl
  have hfgvw3 := blk_frozen BKvw.out 3
  have hcgvg0 : w12.cell? ⟨gvg, 0, none⟩ = some (.int .i64 (R.1)) := (blk_cell BKvg.out 0).trans rfl
  have hfgvg0 := blk_frozen BKvg.out 0
  have hcgvg1 : w12.cell? ⟨gvg, 1, none⟩ = some (.slice A1vg (R.2.1).length c1vg) := (blk_cell BKvg.out 1).trans rfl
  have hfgvg1 := blk_frozen BKvg.out 1
  have hcgvg2 : w12.cell? ⟨gvg, 2, none⟩ = some (.slice A2vg (R.2.2.1).length c2vg) := (blk_cell BKvg.out 2).trans rfl
  have hfgvg2 := blk_frozen BKvg.out 2
  have hcgvg3 : w12.cell? ⟨gvg, 3, none⟩ = some (.slice A3vg (R.2.2.2).length c3vg) := (blk_cell BKvg.out 3).trans rfl
  have hfgvg3 := blk_frozen BKvg.out 3
  go_wp2_with fail
  go_at_call 43
  refine (HelpSeg.held_calls R (.agg #[.int .i64 (R.1), .slice A1vg (R.2.1).length c1vg, .slice A2vg (R.2.2.1).length c2vg, .slice A3vg (R.2.2.2).length c3vg]) 1 _ (HelpSeg.tSeg.K_of_M Y.out) (by omega) (by omega) RB.out.1).mono ?_
  rintro e w13 ⟨rfl, gg⟩
  clear hcgvw0 hfgvw0 hcgvw1 hfgvw1 hcgvw2 hfgvw2 hcgvw3 hfgvw3 hcgvg0 hfgvg0 hcgvg1 hfgvg1 hcgvg2 hfgvg2 hcgvg3 hfgvg3
  have Gw13 := Aside0.mk (show Grew w w13 from grew_trans (Gw12.out) gg)
  have Ew13 := Aside0.mk gg.size
  have GGw13 := Aside0.mk (show Grew w3 w13 from grew_trans GGw12.out gg)
  have n_ := Aside0.mk (Ty.M_below Y.out gg)
  clear Y
  have Y := n_
  clear n_
  have n_ := Aside0.mk (blk_below (g := gvw) (o := .cells #[.int .i64 (R.1), .slice A1vw (R.2.1).length c1vw, .slice A2vw (R.2.2.1).length c2vw, .slice A3vw (R.2.2.2).length c3vw] 50 (0, 0)) BKvw.out gg)
  clear BKvw
  have BKvw := n_
  clear n_
  have n_ := Aside0.mk (blk_below (g := gvg) (o := .cells #[.int .i64 (R.1), .slice A1vg (R.2.1).length c1vg, .slice A2vg (R.2.2.1).length c2vg, .slice A3vg (R.2.2.2).length c3vg] 50 (0, 0)) BKvg.out gg)
  clear BKvg
  have BKvg := n_
  clear n_
  clear gg
  have hcgvw0 : w13.cell? ⟨gvw, 0, none⟩ = some (.int .i64 (R.1)) := (blk_cell BKvw.out 0).trans rfl
  have hfgvw0 := blk_frozen BKvw.out 0
  have hcgvw1 : w13.cell? ⟨gvw, 1, none⟩ = some (.slice A1vw (R.2.1).length c1vw) := (blk_cell BKvw.out 1).trans rfl
  have hfgvw1 := blk_frozen BKvw.out 1
  have hcgvw2 : w13.cell? ⟨gvw, 2, none⟩ = some (.slice A2vw (R.2.2.1).length c2vw) := (blk_cell BKvw.out 2).trans rfl
  have hfgvw2 := blk_frozen BKvw.out 2
  have hcgvw3 : w13.cell? ⟨gvw, 3, none⟩ = some (.slice A3vw (R.2.2.2).length c3vw) := (blk_cell BKvw.out 3).trans rfl
  have hfgvw3 := blk_frozen BKvw.out 3
  have hcgvg0 : w13.cell? ⟨gvg, 0, none⟩ = some (.int .i64 (R.1)) := (blk_cell BKvg.out 0).trans rfl
  have hfgvg0 := blk_frozen BKvg.out 0
  have hcgvg1 : w13.cell? ⟨gvg, 1, none⟩ = some (.slice A1vg (R.2.1).length c1vg) := (blk_cell BKvg.out 1).trans rfl
  have hfgvg1 := blk_frozen BKvg.out 1
  have hcgvg2 : w13.cell? ⟨gvg, 2, none⟩ = some (.slice A2vg (R.2.2.1).length c2vg) := (blk_cell BKvg.out 2).trans rfl
  have hfgvg2 := blk_frozen BKvg.out 2
  have hcgvg3 : w13.cell? ⟨gvg, 3, none⟩ = some (.slice A3vg (R.2.2.2).length c3vg) := (blk_cell BKvg.out 3).trans rfl
  have hfgvg3 := blk_frozen BKvg.out 3
  go_wp2_with fail
  go_at_call 20
  refine (HelpB.to_calls x0 (.slice A0 x0.length c0) _ (HelpB.tB.K_below (Gw13.out) K0.out) B0.out).mono ?_
  rintro e w14 ⟨y0, rfl, hy_, gg⟩
  clear hcgvw0 hfgvw0 hcgvw1 hfgvw1 hcgvw2 hfgvw2 hcgvw3 hfgvw3 hcgvg0 hfgvg0 hcgvg1 hfgvg1 hcgvg2 hfgvg2 hcgvg3 hfgvg3
  have Gw14 := Aside0.mk (show Grew w w14 from grew_trans (Gw13.out) gg)
  have Ew14 := Aside0.mk gg.size
  have GGw14 := Aside0.mk (show Grew w3 w14 from grew_trans GGw13.out gg)
  have n_ := Aside0.mk (Ty.M_below Y.out gg)
  clear Y
  have Y := n_
  clear n_
  have n_ := Aside0.mk (blk_below (g := gvw) (o := .cells #[.int .i64 (R.1), .slice A1vw (R.2.1).length c1vw, .slice A2vw (R.2.2.1).length c2vw, .slice A3vw (R.2.2.2).length c3vw] 50 (0, 0)) BKvw.out gg)
  clear BKvw
  have BKvw := n_
  clear n_
  have n_ := Aside0.mk (blk_below (g := gvg) (o := .cells #[.int .i64 (R.1), .slice A1vg (R.2.1).length c1vg, .slice A2vg (R.2.2.1).length c2vg, .slice A3vg (R.2.2.2).length c3vg] 50 (0, 0)) BKvg.out gg)
  clear BKvg
  have BKvg := n_
  clear n_
  have D0 := Aside0.mk hy_
  clear hy_
  clear gg
  have hcgvw0 : w14.cell? ⟨gvw, 0, none⟩ = some (.int .i64 (R.1)) := (blk_cell BKvw.out 0).trans rfl
  have hfgvw0 := blk_frozen BKvw.out 0
  have hcgvw1 : w14.cell? ⟨gvw, 1, none⟩ = some (.slice A1vw (R.2.1).length c1vw) := (blk_cell BKvw.out 1).trans rfl
  have hfgvw1 := blk_frozen BKvw.out 1
  have hcgvw2 : w14.cell? ⟨gvw, 2, none⟩ = some (.slice A2vw (R.2.2.1).length c2vw) := (blk_cell BKvw.out 2).trans rfl
  have hfgvw2 := blk_frozen BKvw.out 2
  have hcgvw3 : w14.cell? ⟨gvw, 3, none⟩ = some (.slice A3vw (R.2.2.2).length c3vw) := (blk_cell BKvw.out 3).trans rfl
  have hfgvw3 := blk_frozen BKvw.out 3
  have hcgvg0 : w14.cell? ⟨gvg, 0, none⟩ = some (.int .i64 (R.1)) := (blk_cell BKvg.out 0).trans rfl
  have hfgvg0 := blk_frozen BKvg.out 0
  have hcgvg1 : w14.cell? ⟨gvg, 1, none⟩ = some (.slice A1vg (R.2.1).length c1vg) := (blk_cell BKvg.out 1).trans rfl
  have hfgvg1 := blk_frozen BKvg.out 1
  have hcgvg2 : w14.cell? ⟨gvg, 2, none⟩ = some (.slice A2vg (R.2.2.1).length c2vg) := (blk_cell BKvg.out 2).trans rfl
  have hfgvg2 := blk_frozen BKvg.out 2
  have hcgvg3 : w14.cell? ⟨gvg, 3, none⟩ = some (.slice A3vg (R.2.2.2).length c3vg) := (blk_cell BKvg.out 3).trans rfl
  have hfgvg3 := blk_frozen BKvg.out 3
  go_wp2_with fail
  go_at_call 45
  refine (implC x0 y0 _ (HelpB.tB.K_of_M D0.out) S0.out Ahb.out).mono ?_
  rintro e w15 ⟨h, rfl, hm, gg⟩
  clear hcgvw0 hfgvw0 hcgvw1 hfgvw1 hcgvw2 hfgvw2 hcgvw3 hfgvw3 hcgvg0 hfgvg0 hcgvg1 hfgvg1 hcgvg2 hfgvg2 hcgvg3 hfgvg3
  have Gw15 := Aside0.mk (show Grew w w15 from grew_trans (Gw14.out) gg)
  have Ew15 := Aside0.mk gg.size
  have GGw15 := Aside0.mk (show Grew w3 w15 from grew_trans GGw14.out gg)
  have n_ := Aside0.mk (Ty.M_below Y.out gg)
  clear Y
  have Y := n_
  clear n_
  have n_ := Aside0.mk (Ty.M_below D0.out gg)
  clear D0
  have D0 := n_
  clear n_
  have n_ := Aside0.mk (blk_below (g := gvw) (o := .cells #[.int .i64 (R.1), .slice A1vw (R.2.1).length c1vw, .slice A2vw (R.2.2.1).length c2vw, .slice A3vw (R.2.2.2).length c3vw] 50 (0, 0)) BKvw.out gg)
  clear BKvw
  have BKvw := n_
  clear n_
  have n_ := Aside0.mk (blk_below (g := gvg) (o := .cells #[.int .i64 (R.1), .slice A1vg (R.2.1).length c1vg, .slice A2vg (R.2.2.1).length c2vg, .slice A3vg (R.2.2.2).length c3vg] 50 (0, 0)) BKvg.out gg)
  clear BKvg
  have BKvg := n_
  clear n_
  rw [HCO.out]
  rw [HR.out] at hm
  have H := Aside0.mk hm
  clear hm
  clear gg
  clear D0
  obtain ⟨A1vh, c1vh, A2vh, c2vh, A3vh, c3vh, es_⟩ := HelpSeg.form (HelpSeg.tSeg.K_of_M H.out)
  subst es_
  have hcgvw0 : w15.cell? ⟨gvw, 0, none⟩ = some (.int .i64 (R.1)) := (blk_cell BKvw.out 0).trans rfl
  have hfgvw0 := blk_frozen BKvw.out 0
  have hcgvw1 : w15.cell? ⟨gvw, 1, none⟩ = some (.slice A1vw (R.2.1).length c1vw) := (blk_cell BKvw.out 1).trans rfl
  have hfgvw1 := blk_frozen BKvw.out 1
  have hcgvw2 : w15.cell? ⟨gvw, 2, none⟩ = some (.slice A2vw (R.2.2.1).length c2vw) := (blk_cell BKvw.out 2).trans rfl
  have hfgvw2 := blk_frozen BKvw.out 2
  have hcgvw3 : w15.cell? ⟨gvw, 3, none⟩ = some (.slice A3vw (R.2.2.2).length c3vw) := (blk_cell BKvw.out 3).trans rfl
  have hfgvw3 := blk_frozen BKvw.out 3
  have hcgvg0 : w15.cell? ⟨gvg, 0, none⟩ = some (.int .i64 (R.1)) := (blk_cell BKvg.out 0).trans rfl
  have hfgvg0 := blk_frozen BKvg.out 0
  have hcgvg1 : w15.cell? ⟨gvg, 1, none⟩ = some (.slice A1vg (R.2.1).length c1vg) := (blk_cell BKvg.out 1).trans rfl
  have hfgvg1 := blk_frozen BKvg.out 1
  have hcgvg2 : w15.cell? ⟨gvg, 2, none⟩ = some (.slice A2vg (R.2.2.1).length c2vg) := (blk_cell BKvg.out 2).trans rfl
  have hfgvg2 := blk_frozen BKvg.out 2
  have hcgvg3 : w15.cell? ⟨gvg, 3, none⟩ = some (.slice A3vg (R.2.2.2).length c3vg) := (blk_cell BKvg.out 3).trans rfl
  have hfgvg3 := blk_frozen BKvg.out 3
  have hdgvw0 : (w15.alloc (.cells #[.int .i64 (R.1), .slice A1vh (R.2.1).length c1vh, .slice A2vh (R.2.2.1).length c2vh, .slice A3vh (R.2.2.2).length c3vh] 50 (0, 0))).cell? ⟨gvw, 0, none⟩ = some (.int .i64 (R.1)) := (blk_cell (blk_alloc BKvw.out _) 0).trans rfl
  have hegvw0 := blk_frozen (blk_alloc BKvw.out (.cells #[.int .i64 (R.1), .slice A1vh (R.2.1).length c1vh, .slice A2vh (R.2.2.1).length c2vh, .slice A3vh (R.2.2.2).length c3vh] 50 (0, 0))) 0
  have hdgvw1 : (w15.alloc (.cells #[.int .i64 (R.1), .slice A1vh (R.2.1).length c1vh, .slice A2vh (R.2.2.1).length c2vh, .slice A3vh (R.2.2.2).length c3vh] 50 (0, 0))).cell? ⟨gvw, 1, none⟩ = some (.slice A1vw (R.2.1).length c1vw) := (blk_cell (blk_alloc BKvw.out _) 1).trans rfl
  have hegvw1 := blk_frozen (blk_alloc BKvw.out (.cells #[.int .i64 (R.1), .slice A1vh (R.2.1).length c1vh, .slice A2vh (R.2.2.1).length c2vh, .slice A3vh (R.2.2.2).length c3vh] 50 (0, 0))) 1
  have hdgvw2 : (w15.alloc (.cells #[.int .i64 (R.1), .slice A1vh (R.2.1).length c1vh, .slice A2vh (R.2.2.1).length c2vh, .slice A3vh (R.2.2.2).length c3vh] 50 (0, 0))).cell? ⟨gvw, 2, none⟩ = some (.slice A2vw (R.2.2.1).length c2vw) := (blk_cell (blk_alloc BKvw.out _) 2).trans rfl
  have hegvw2 := blk_frozen (blk_alloc BKvw.out (.cells #[.int .i64 (R.1), .slice A1vh (R.2.1).length c1vh, .slice A2vh (R.2.2.1).length c2vh, .slice A3vh (R.2.2.2).length c3vh] 50 (0, 0))) 2
  have hdgvw3 : (w15.alloc (.cells #[.int .i64 (R.1), .slice A1vh (R.2.1).length c1vh, .slice A2vh (R.2.2.1).length c2vh, .slice A3vh (R.2.2.2).length c3vh] 50 (0, 0))).cell? ⟨gvw, 3, none⟩ = some (.slice A3vw (R.2.2.2).length c3vw) := (blk_cell (blk_alloc BKvw.out _) 3).trans rfl
  have hegvw3 := blk_frozen (blk_alloc BKvw.out (.cells #[.int .i64 (R.1), .slice A1vh (R.2.1).length c1vh, .slice A2vh (R.2.2.1).length c2vh, .slice A3vh (R.2.2.2).length c3vh] 50 (0, 0))) 3
  have hdgvg0 : (w15.alloc (.cells #[.int .i64 (R.1), .slice A1vh (R.2.1).length c1vh, .slice A2vh (R.2.2.1).length c2vh, .slice A3vh (R.2.2.2).length c3vh] 50 (0, 0))).cell? ⟨gvg, 0, none⟩ = some (.int .i64 (R.1)) := (blk_cell (blk_alloc BKvg.out _) 0).trans rfl
  have hegvg0 := blk_frozen (blk_alloc BKvg.out (.cells #[.int .i64 (R.1), .slice A1vh (R.2.1).length c1vh, .slice A2vh (R.2.2.1).length c2vh, .slice A3vh (R.2.2.2).length c3vh] 50 (0, 0))) 0
  have hdgvg1 : (w15.alloc (.cells #[.int .i64 (R.1), .slice A1vh (R.2.1).length c1vh, .slice A2vh (R.2.2.1).length c2vh, .slice A3vh (R.2.2.2).length c3vh] 50 (0, 0))).cell? ⟨gvg, 1, none⟩ = some (.slice A1vg (R.2.1).length c1vg) := (blk_cell (blk_alloc BKvg.out _) 1).trans rfl
  have hegvg1 := blk_frozen (blk_alloc BKvg.out (.cells #[.int .i64 (R.1), .slice A1vh (R.2.1).length c1vh, .slice A2vh (R.2.2.1).length c2vh, .slice A3vh (R.2.2.2).length c3vh] 50 (0, 0))) 1
  have hdgvg2 : (w15.alloc (.cells #[.int .i64 (R.1), .slice A1vh (R.2.1).length c1vh, .slice A2vh (R.2.2.1).length c2vh, .slice A3vh (R.2.2.2).length c3vh] 50 (0, 0))).cell? ⟨gvg, 2, none⟩ = some (.slice A2vg (R.2.2.1).length c2vg) := (blk_cell (blk_alloc BKvg.out _) 2).trans rfl
  have hegvg2 := blk_frozen (blk_alloc BKvg.out (.cells #[.int .i64 (R.1), .slice A1vh (R.2.1).length c1vh, .slice A2vh (R.2.2.1).length c2vh, .slice A3vh (R.2.2.2).length c3vh] 50 (0, 0))) 2
  have hdgvg3 : (w15.alloc (.cells #[.int .i64 (R.1), .slice A1vh (R.2.1).length c1vh, .slice A2vh (R.2.2.1).length c2vh, .slice A3vh (R.2.2.2).length c3vh] 50 (0, 0))).cell? ⟨gvg, 3, none⟩ = some (.slice A3vg (R.2.2.2).length c3vg) := (blk_cell (blk_alloc BKvg.out _) 3).trans rfl
  have hegvg3 := blk_frozen (blk_alloc BKvg.out (.cells #[.int .i64 (R.1), .slice A1vh (R.2.1).length c1vh, .slice A2vh (R.2.2.1).length c2vh, .slice A3vh (R.2.2.2).length c3vh] 50 (0, 0))) 3
  go_wp2_with fail
  obtain ⟨gvh, hgb⟩ : ∃ g_, g_ = w15.heap.size := ⟨_, rfl⟩
  obtain ⟨w16, hW_⟩ : ∃ w_, w_ = w15.alloc (.cells #[.int .i64 (R.1), .slice A1vh (R.2.1).length c1vh, .slice A2vh (R.2.2.1).length c2vh, .slice A3vh (R.2.2.2).length c3vh] 50 (0, 0)) := ⟨_, rfl⟩
  rw [← hW_, ← hgb]
  have BKvh := Aside0.mk (show w16.heap[gvh]? = some (.cells #[.int .i64 (R.1), .slice A1vh (R.2.1).length c1vh, .slice A2vh (R.2.2.1).length c2vh, .slice A3vh (R.2.2.2).length c3vh] 50 (0, 0)) from by rw [hW_, hgb]; exact blk_new w15 _)
  have gg : Grew w15 w16 := by rw [hW_]; exact below_alloc (Below.refl _ _) _
  have PGvh := Aside0.mk (show w15.heap.size ≤ gvh from Nat.le_of_eq hgb.symm)
  have PLvh := Aside0.mk (blk_lt BKvh.out)
  clear hW_ hgb
  clear hcgvw0 hfgvw0 hcgvw1 hfgvw1 hcgvw2 hfgvw2 hcgvw3 hfgvw3 hcgvg0 hfgvg0 hcgvg1 hfgvg1 hcgvg2 hfgvg2 hcgvg3 hfgvg3 hdgvw0 hegvw0 hdgvw1 hegvw1 hdgvw2 hegvw2 hdgvw3 hegvw3 hdgvg0 hegvg0 hdgvg1 hegvg1 hdgvg2 hegvg2 hdgvg3 hegvg3
  have Gw16 := Aside0.mk (show Grew w w16 from grew_trans (Gw15.out) gg)
  have Ew16 := Aside0.mk gg.size
  have GGw16 := Aside0.mk (show Grew w3 w16 from grew_trans GGw15.out gg)
  have n_ := Aside0.mk (Ty.M_below Y.out gg)
  clear Y
  have Y := n_
  clear n_
  have n_ := Aside0.mk (Ty.M_below H.out gg)
  clear H
  have H := n_
  clear n_
  have n_ := Aside0.mk (blk_below (g := gvw) (o := .cells #[.int .i64 (R.1), .slice A1vw (R.2.1).length c1vw, .slice A2vw (R.2.2.1).length c2vw, .slice A3vw (R.2.2.2).length c3vw] 50 (0, 0)) BKvw.out gg)
  clear BKvw
  have BKvw := n_
  clear n_
  have n_ := Aside0.mk (blk_below (g := gvg) (o := .cells #[.int .i64 (R.1), .slice A1vg (R.2.1).length c1vg, .slice A2vg (R.2.2.1).length c2vg, .slice A3vg (R.2.2.2).length c3vg] 50 (0, 0)) BKvg.out gg)
  clear BKvg
  have BKvg := n_
  clear n_
  clear gg
  go_at_call 33
  refine (HelpSeg.eq_calls R (.agg #[.int .i64 (R.1), .slice A1vh (R.2.1).length c1vh, .slice A2vh (R.2.2.1).length c2vh, .slice A3vh (R.2.2.2).length c3vh]) (.agg #[.int .i64 (R.1), .slice A1vw (R.2.1).length c1vw, .slice A2vw (R.2.2.1).length c2vw, .slice A3vw (R.2.2.2).length c3vw]) _ (HelpSeg.tSeg.K_of_M H.out) (HelpSeg.tSeg.K_below GGw16.out W.out) RB.out.1).mono ?_
  rintro e w17 ⟨rfl, gg⟩
  have Gw17 := Aside0.mk (show Grew w w17 from grew_trans (Gw16.out) gg)
  have Ew17 := Aside0.mk gg.size
  have GGw17 := Aside0.mk (show Grew w3 w17 from grew_trans GGw16.out gg)
  have n_ := Aside0.mk (Ty.M_below Y.out gg)
  clear Y
  have Y := n_
  clear n_
  have n_ := Aside0.mk (Ty.M_below H.out gg)
  clear H
  have H := n_
  clear n_
  have n_ := Aside0.mk (blk_below (g := gvw) (o := .cells #[.int .i64 (R.1), .slice A1vw (R.2.1).length c1vw, .slice A2vw (R.2.2.1).length c2vw, .slice A3vw (R.2.2.2).length c3vw] 50 (0, 0)) BKvw.out gg)
  clear BKvw
  have BKvw := n_
  clear n_
  have n_ := Aside0.mk (blk_below (g := gvg) (o := .cells #[.int .i64 (R.1), .slice A1vg (R.2.1).length c1vg, .slice A2vg (R.2.2.1).length c2vg, .slice A3vg (R.2.2.2).length c3vg] 50 (0, 0)) BKvg.out gg)
  clear BKvg
  have BKvg := n_
  clear n_
  have n_ := Aside0.mk (blk_below (g := gvh) (o := .cells #[.int .i64 (R.1), .slice A1vh (R.2.1).length c1vh, .slice A2vh (R.2.2.1).length c2vh, .slice A3vh (R.2.2.2).length c3vh] 50 (0, 0)) BKvh.out gg)
  clear BKvh
  have BKvh := n_
  clear n_
  clear gg
  have hcgvw0 : w17.cell? ⟨gvw, 0, none⟩ = some (.int .i64 (R.1)) := (blk_cell BKvw.out 0).trans rfl
  have hfgvw0 := blk_frozen BKvw.out 0
  have hcgvw1 : w17.cell? ⟨gvw, 1, none⟩ = some (.slice A1vw (R.2.1).length c1vw) := (blk_cell BKvw.out 1).trans rfl
  have hfgvw1 := blk_frozen BKvw.out 1
  have hcgvw2 : w17.cell? ⟨gvw, 2, none⟩ = some (.slice A2vw (R.2.2.1).length c2vw) := (blk_cell BKvw.out 2).trans rfl
  have hfgvw2 := blk_frozen BKvw.out 2
  have hcgvw3 : w17.cell? ⟨gvw, 3, none⟩ = some (.slice A3vw (R.2.2.2).length c3vw) := (blk_cell BKvw.out 3).trans rfl
  have hfgvw3 := blk_frozen BKvw.out 3
  have hcgvg0 : w17.cell? ⟨gvg, 0, none⟩ = some (.int .i64 (R.1)) := (blk_cell BKvg.out 0).trans rfl
  have hfgvg0 := blk_frozen BKvg.out 0
  have hcgvg1 : w17.cell? ⟨gvg, 1, none⟩ = some (.slice A1vg (R.2.1).length c1vg) := (blk_cell BKvg.out 1).trans rfl
  have hfgvg1 := blk_frozen BKvg.out 1
  have hcgvg2 : w17.cell? ⟨gvg, 2, none⟩ = some (.slice A2vg (R.2.2.1).length c2vg) := (blk_cell BKvg.out 2).trans rfl
  have hfgvg2 := blk_frozen BKvg.out 2
  have hcgvg3 : w17.cell? ⟨gvg, 3, none⟩ = some (.slice A3vg (R.2.2.2).length c3vg) := (blk_cell BKvg.out 3).trans rfl
  have hfgvg3 := blk_frozen BKvg.out 3
  have hcgvh0 : w17.cell? ⟨gvh, 0, none⟩ = some (.int .i64 (R.1)) := (blk_cell BKvh.out 0).trans rfl
  have hfgvh0 := blk_frozen BKvh.out 0
  have hcgvh1 : w17.cell? ⟨gvh, 1, none⟩ = some (.slice A1vh (R.2.1).length c1vh) := (blk_cell BKvh.out 1).trans rfl
  have hfgvh1 := blk_frozen BKvh.out 1
  have hcgvh2 : w17.cell? ⟨gvh, 2, none⟩ = some (.slice A2vh (R.2.2.1).length c2vh) := (blk_cell BKvh.out 2).trans rfl
  have hfgvh2 := blk_frozen BKvh.out 2
  have hcgvh3 : w17.cell? ⟨gvh, 3, none⟩ = some (.slice A3vh (R.2.2.2).length c3vh) := (blk_cell BKvh.out 3).trans rfl
  have hfgvh3 := blk_frozen BKvh.out 3
  go_wp2_with fail
  go_at_call 43
  refine (HelpSeg.held_calls R (.agg #[.int .i64 (R.1), .slice A1vg (R.2.1).length c1vg, .slice A2vg (R.2.2.1).length c2vg, .slice A3vg (R.2.2.2).length c3vg]) 1 _ (HelpSeg.tSeg.K_of_M Y.out) (by omega) (by omega) RB.out.1).mono ?_
  rintro e w18 ⟨rfl, gg⟩
  clear hcgvw0 hfgvw0 hcgvw1 hfgvw1 hcgvw2 hfgvw2 hcgvw3 hfgvw3 hcgvg0 hfgvg0 hcgvg1 hfgvg1 hcgvg2 hfgvg2 hcgvg3 hfgvg3 hcgvh0 hfgvh0 hcgvh1 hfgvh1 hcgvh2 hfgvh2 hcgvh3 hfgvh3
  have Gw18 := Aside0.mk (show Grew w w18 from grew_trans (Gw17.out) gg)
  have Ew18 := Aside0.mk gg.size
  have GGw18 := Aside0.mk (show Grew w3 w18 from grew_trans GGw17.out gg)
  have n_ := Aside0.mk (Ty.M_below Y.out gg)
  clear Y
  have Y := n_
  clear n_
  have n_ := Aside0.mk (Ty.M_below H.out gg)
  clear H
  have H := n_
  clear n_
  have n_ := Aside0.mk (blk_below (g := gvw) (o := .cells #[.int .i64 (R.1), .slice A1vw (R.2.1).length c1vw, .slice A2vw (R.2.2.1).length c2vw, .slice A3vw (R.2.2.2).length c3vw] 50 (0, 0)) BKvw.out gg)
  clear BKvw
  have BKvw := n_
  clear n_
  have n_ := Aside0.mk (blk_below (g := gvg) (o := .cells #[.int .i64 (R.1), .slice A1vg (R.2.1).length c1vg, .slice A2vg (R.2.2.1).length c2vg, .slice A3vg (R.2.2.2).length c3vg] 50 (0, 0)) BKvg.out gg)
  clear BKvg
  have BKvg := n_
  clear n_
  have n_ := Aside0.mk (blk_below (g := gvh) (o := .cells #[.int .i64 (R.1), .slice A1vh (R.2.1).length c1vh, .slice A2vh (R.2.2.1).length c2vh, .slice A3vh (R.2.2.2).length c3vh] 50 (0, 0)) BKvh.out gg)
  clear BKvh
  have BKvh := n_
  clear n_
  clear gg
  have hcgvw0 : w18.cell? ⟨gvw, 0, none⟩ = some (.int .i64 (R.1)) := (blk_cell BKvw.out 0).trans rfl
  have hfgvw0 := blk_frozen BKvw.out 0
  have hcgvw1 : w18.cell? ⟨gvw, 1, none⟩ = some (.slice A1vw (R.2.1).length c1vw) := (blk_cell BKvw.out 1).trans rfl
  have hfgvw1 := blk_frozen BKvw.out 1
  have hcgvw2 : w18.cell? ⟨gvw, 2, none⟩ = some (.slice A2vw (R.2.2.1).length c2vw) := (blk_cell BKvw.out 2).trans rfl
  have hfgvw2 := blk_frozen BKvw.out 2
  have hcgvw3 : w18.cell? ⟨gvw, 3, none⟩ = some (.slice A3vw (R.2.2.2).length c3vw) := (blk_cell BKvw.out 3).trans rfl
  have hfgvw3 := blk_frozen BKvw.out 3
  have hcgvg0 : w18.cell? ⟨gvg, 0, none⟩ = some (.int .i64 (R.1)) := (blk_cell BKvg.out 0).trans rfl
  have hfgvg0 := blk_frozen BKvg.out 0
  have hcgvg1 : w18.cell? ⟨gvg, 1, none⟩ = some (.slice A1vg (R.2.1).length c1vg) := (blk_cell BKvg.out 1).trans rfl
  have hfgvg1 := blk_frozen BKvg.out 1
  have hcgvg2 : w18.cell? ⟨gvg, 2, none⟩ = some (.slice A2vg (R.2.2.1).length c2vg) := (blk_cell BKvg.out 2).trans rfl
  have hfgvg2 := blk_frozen BKvg.out 2
  have hcgvg3 : w18.cell? ⟨gvg, 3, none⟩ = some (.slice A3vg (R.2.2.2).length c3vg) := (blk_cell BKvg.out 3).trans rfl
  have hfgvg3 := blk_frozen BKvg.out 3
  have hcgvh0 : w18.cell? ⟨gvh, 0, none⟩ = some (.int .i64 (R.1)) := (blk_cell BKvh.out 0).trans rfl
  have hfgvh0 := blk_frozen BKvh.out 0
  have hcgvh1 : w18.cell? ⟨gvh, 1, none⟩ = some (.slice A1vh (R.2.1).length c1vh) := (blk_cell BKvh.out 1).trans rfl
  have hfgvh1 := blk_frozen BKvh.out 1
  have hcgvh2 : w18.cell? ⟨gvh, 2, none⟩ = some (.slice A2vh (R.2.2.1).length c2vh) := (blk_cell BKvh.out 2).trans rfl
  have hfgvh2 := blk_frozen BKvh.out 2
  have hcgvh3 : w18.cell? ⟨gvh, 3, none⟩ = some (.slice A3vh (R.2.2.2).length c3vh) := (blk_cell BKvh.out 3).trans rfl
  have hfgvh3 := blk_frozen BKvh.out 3
  go_wp2
  go_ret
  exact ⟨rfl, Gw18.out⟩
end Go.Proofs.Ytmgmdnmfalepkaa.LawDec
