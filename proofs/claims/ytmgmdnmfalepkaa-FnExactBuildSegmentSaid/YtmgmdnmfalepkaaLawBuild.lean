import Derived.Test.YtmgmdnmfalepkaaHelpBB
import Derived.Test.YtmgmdnmfalepkaaHelpSeg
import Derived.Test.YtmgmdnmfalepkaaBuild
namespace Go.Proofs.Ytmgmdnmfalepkaa.LawBuild
open Go.RowKit Go.Proofs.YtmgmdnmfalepkaaW.PrintWords Go.Proofs.YtmgmdnmfalepkaaW.PrintMore Go.Proofs.Ytmgmdnmfalepkaa.Kit Go.Proofs.Ytmgmdnmfalepkaa.PKit Go.Proofs.Ytmgmdnmfalepkaa.Ty Go.Proofs.Ytmgmdnmfalepkaa.Build Go.Proofs.Ytmgmdnmfalepkaa.PSeg
set_option linter.unusedVariables false
set_option maxRecDepth 100000 in
set_option maxHeartbeats 4000000 in
theorem law_calls (x0 : Int) (x1 : List (List Int)) (v1 : Value) (w : World) (h1 : HelpBB.tBB.K w x1 v1) (hb : Bytes x1) :
    Calls Try.prog 6 #[.int .i64 x0, v1] w fun e w' => e = .returned (.bool true) ∧ Below w.heap.size w w' := by
  have hu50 := Try.underlying50
  obtain ⟨A1, c1, rfl, hc1, hr1⟩ := h1
  have K1 := Aside0.mk (show HelpBB.tBB.K w x1 (.slice A1 x1.length c1) from ⟨A1, c1, rfl, hc1, hr1⟩)
  have hm1 := hr1.2.1
  clear hc1 hr1
  have Ahb := Aside0.mk hb
  clear hb
  obtain ⟨r1, hr1, hz1⟩ := HelpBB.sz_pure x1 1048576 (by omega) (by omega) ⟨w, _, K1.out⟩
  by_cases q1 : r1 < 0
  · clear hr1
    go_enter Try.func6, Try.ntmps6
    go_wp2_with fail
    go_at_call 37
    refine (hz1 _ (HelpBB.tBB.K_below (Below.refl _ _) K1.out)).mono ?_
    rintro e w1 ⟨rfl, gg⟩
    have Gw1 := Aside0.mk (show Grew w w1 from grew_trans (Below.refl _ _) gg)
    have Ew1 := Aside0.mk gg.size
    clear gg
    go_wp2
    go_ret
    exact ⟨rfl, Gw1.out⟩
  obtain ⟨l1, m1, s1⟩ := hr1 (by omega)
  have S1 := Aside0.mk s1
  clear s1 hr1
  have B1 := Aside0.mk (HelpBB.bd_small S1.out)
  have rb := ans_small x0 x1 S1.out Ahb.out
  have RB := Aside0.mk rb
  clear rb
  have cx1 : (HelpBB.cntBB x1 : Int) ≤ 1048576 := Int.ofNat_le.2 (HelpBB.cnt_small S1.out)
  have p1 : ¬ (1 + (HelpBB.cntBB x1 : Int) < 0) := by omega
  obtain ⟨C, hC⟩ : ∃ C, code x0 x1 = C := ⟨_, rfl⟩
  have HCO := Aside0.mk hC
  clear hC
  generalize hR : ans x0 x1 = R at RB
  have HR := Aside0.mk hR
  clear hR
  have cr : (HelpSeg.cntSeg R : Int) ≤ 1099511627000 := Int.ofNat_le.2 RB.out.2
  have p2 : ¬ (1 + (HelpSeg.cntSeg R : Int) < 0) := by omega
  go_enter Try.func6, Try.ntmps6
  go_wp2_with fail
  go_at_call 37
  refine (hz1 _ (HelpBB.tBB.K_below (Below.refl _ _) K1.out)).mono ?_
  rintro e w1 ⟨rfl, gg⟩
  have Gw1 := Aside0.mk (show Grew w w1 from grew_trans (Below.refl _ _) gg)
  have Ew1 := Aside0.mk gg.size
  clear gg
  go_wp2_with fail
  go_at_call 39
  refine (HelpBB.to_calls x1 (.slice A1 x1.length c1) _ (HelpBB.tBB.K_below (Gw1.out) K1.out) B1.out).mono ?_
  rintro e w2 ⟨tT1, rfl, ht_, gg⟩
  have Gw2 := Aside0.mk (show Grew w w2 from grew_trans (Gw1.out) gg)
  have Ew2 := Aside0.mk gg.size
  have T1 := Aside0.mk ( ht_)
  clear ht_
  clear gg
  go_wp2_with fail
  go_at_call 38
  refine (specC x0 x1 tT1 _ (HelpBB.tBB.K_of_M T1.out) S1.out Ahb.out).mono ?_
  rintro e w3 ⟨v, rfl, hk, gg⟩
  have Gw3 := Aside0.mk (show Grew w w3 from grew_trans (Gw2.out) gg)
  have Ew3 := Aside0.mk gg.size
  have n_ := Aside0.mk (Ty.M_below T1.out gg)
  clear T1
  have T1 := n_
  clear n_
  rw [HCO.out]
  rw [HR.out] at hk
  have W := Aside0.mk hk
  clear hk
  clear gg
  clear T1
  obtain ⟨A1vw, c1vw, A2vw, c2vw, A3vw, c3vw, es_⟩ := HelpSeg.form W.out
  subst es_
  go_wp2_with fail
  obtain ⟨gvw, hgb⟩ : ∃ g_, g_ = w3.heap.size := ⟨_, rfl⟩
  obtain ⟨w4, hW_⟩ : ∃ w_, w_ = w3.alloc (.cells #[.int .i64 (R.1), .slice A1vw (R.2.1).length c1vw, .slice A2vw (R.2.2.1).length c2vw, .slice A3vw (R.2.2.2).length c3vw] 50 (0, 0)) := ⟨_, rfl⟩
  rw [← hW_, ← hgb]
  have BKvw := Aside0.mk (show w4.heap[gvw]? = some (.cells #[.int .i64 (R.1), .slice A1vw (R.2.1).length c1vw, .slice A2vw (R.2.2.1).length c2vw, .slice A3vw (R.2.2.2).length c3vw] 50 (0, 0)) from by rw [hW_, hgb]; exact blk_new w3 _)
  have gg : Grew w3 w4 := by rw [hW_]; exact below_alloc (Below.refl _ _) _
  have GW_ := Aside0.mk gg
  have PGvw := Aside0.mk (show w3.heap.size ≤ gvw from Nat.le_of_eq hgb.symm)
  have PLvw := Aside0.mk (blk_lt BKvw.out)
  clear hW_ hgb
  have Gw4 := Aside0.mk (show Grew w w4 from grew_trans (Gw3.out) gg)
  have Ew4 := Aside0.mk gg.size
  clear gg
  have GGw4 := Aside0.mk (show Grew w4 w4 from Below.refl _ _)
  have n_ := Aside0.mk (HelpSeg.tSeg.K_below GW_.out W.out)
  clear W
  have W := n_
  clear n_
  go_at_call 39
  refine (HelpBB.to_calls x1 (.slice A1 x1.length c1) _ (HelpBB.tBB.K_below (Gw4.out) K1.out) B1.out).mono ?_
  rintro e w5 ⟨tX1, rfl, ht_, gg⟩
  have Gw5 := Aside0.mk (show Grew w w5 from grew_trans (Gw4.out) gg)
  have Ew5 := Aside0.mk gg.size
  have GGw5 := Aside0.mk (show Grew w4 w5 from grew_trans GGw4.out gg)
  have n_ := Aside0.mk (blk_below (g := gvw) (o := .cells #[.int .i64 (R.1), .slice A1vw (R.2.1).length c1vw, .slice A2vw (R.2.2.1).length c2vw, .slice A3vw (R.2.2.2).length c3vw] 50 (0, 0)) BKvw.out gg)
  clear BKvw
  have BKvw := n_
  clear n_
  have X1 := Aside0.mk (HelpBB.tBB.M_lower (GGw4.out).size (Ty.M_beyond ht_))
  clear ht_
  clear gg
  have hcgvw0 : w5.cell? ⟨gvw, 0, none⟩ = some (.int .i64 (R.1)) := (blk_cell BKvw.out 0).trans rfl
  have hfgvw0 := blk_frozen BKvw.out 0
  have hcgvw1 : w5.cell? ⟨gvw, 1, none⟩ = some (.slice A1vw (R.2.1).length c1vw) := (blk_cell BKvw.out 1).trans rfl
  have hfgvw1 := blk_frozen BKvw.out 1
  have hcgvw2 : w5.cell? ⟨gvw, 2, none⟩ = some (.slice A2vw (R.2.2.1).length c2vw) := (blk_cell BKvw.out 2).trans rfl
  have hfgvw2 := blk_frozen BKvw.out 2
  have hcgvw3 : w5.cell? ⟨gvw, 3, none⟩ = some (.slice A3vw (R.2.2.2).length c3vw) := (blk_cell BKvw.out 3).trans rfl
  have hfgvw3 := blk_frozen BKvw.out 3
  go_wp2_with fail
  go_at_call 40
  refine (implC x0 x1 (tX1) _ (HelpBB.tBB.K_of_M X1.out) S1.out Ahb.out).mono ?_
  rintro e w6 ⟨g, rfl, hm, gg⟩
  clear hcgvw0 hfgvw0 hcgvw1 hfgvw1 hcgvw2 hfgvw2 hcgvw3 hfgvw3
  have Gw6 := Aside0.mk (show Grew w w6 from grew_trans (Gw5.out) gg)
  have Ew6 := Aside0.mk gg.size
  have GGw6 := Aside0.mk (show Grew w4 w6 from grew_trans GGw5.out gg)
  have n_ := Aside0.mk (Ty.M_below X1.out gg)
  clear X1
  have X1 := n_
  clear n_
  have n_ := Aside0.mk (blk_below (g := gvw) (o := .cells #[.int .i64 (R.1), .slice A1vw (R.2.1).length c1vw, .slice A2vw (R.2.2.1).length c2vw, .slice A3vw (R.2.2.2).length c3vw] 50 (0, 0)) BKvw.out gg)
  clear BKvw
  have BKvw := n_
  clear n_
  rw [HCO.out]
  rw [HR.out] at hm
  have Y := Aside0.mk (HelpSeg.tSeg.M_lower (GGw5.out).size (Ty.M_beyond hm))
  clear hm
  clear gg
  obtain ⟨A1vg, c1vg, A2vg, c2vg, A3vg, c3vg, es_⟩ := HelpSeg.form (HelpSeg.tSeg.K_of_M Y.out)
  subst es_
  have hcgvw0 : w6.cell? ⟨gvw, 0, none⟩ = some (.int .i64 (R.1)) := (blk_cell BKvw.out 0).trans rfl
  have hfgvw0 := blk_frozen BKvw.out 0
  have hcgvw1 : w6.cell? ⟨gvw, 1, none⟩ = some (.slice A1vw (R.2.1).length c1vw) := (blk_cell BKvw.out 1).trans rfl
  have hfgvw1 := blk_frozen BKvw.out 1
  have hcgvw2 : w6.cell? ⟨gvw, 2, none⟩ = some (.slice A2vw (R.2.2.1).length c2vw) := (blk_cell BKvw.out 2).trans rfl
  have hfgvw2 := blk_frozen BKvw.out 2
  have hcgvw3 : w6.cell? ⟨gvw, 3, none⟩ = some (.slice A3vw (R.2.2.2).length c3vw) := (blk_cell BKvw.out 3).trans rfl
  have hfgvw3 := blk_frozen BKvw.out 3
  have hdgvw0 : (w6.alloc (.cells #[.int .i64 (R.1), .slice A1vg (R.2.1).length c1vg, .slice A2vg (R.2.2.1).length c2vg, .slice A3vg (R.2.2.2).length c3vg] 50 (0, 0))).cell? ⟨gvw, 0, none⟩ = some (.int .i64 (R.1)) := (blk_cell (blk_alloc BKvw.out _) 0).trans rfl
  have hegvw0 := blk_frozen (blk_alloc BKvw.out (.cells #[.int .i64 (R.1), .slice A1vg (R.2.1).length c1vg, .slice A2vg (R.2.2.1).length c2vg, .slice A3vg (R.2.2.2).length c3vg] 50 (0, 0))) 0
  have hdgvw1 : (w6.alloc (.cells #[.int .i64 (R.1), .slice A1vg (R.2.1).length c1vg, .slice A2vg (R.2.2.1).length c2vg, .slice A3vg (R.2.2.2).length c3vg] 50 (0, 0))).cell? ⟨gvw, 1, none⟩ = some (.slice A1vw (R.2.1).length c1vw) := (blk_cell (blk_alloc BKvw.out _) 1).trans rfl
  have hegvw1 := blk_frozen (blk_alloc BKvw.out (.cells #[.int .i64 (R.1), .slice A1vg (R.2.1).length c1vg, .slice A2vg (R.2.2.1).length c2vg, .slice A3vg (R.2.2.2).length c3vg] 50 (0, 0))) 1
  have hdgvw2 : (w6.alloc (.cells #[.int .i64 (R.1), .slice A1vg (R.2.1).length c1vg, .slice A2vg (R.2.2.1).length c2vg, .slice A3vg (R.2.2.2).length c3vg] 50 (0, 0))).cell? ⟨gvw, 2, none⟩ = some (.slice A2vw (R.2.2.1).length c2vw) := (blk_cell (blk_alloc BKvw.out _) 2).trans rfl
  have hegvw2 := blk_frozen (blk_alloc BKvw.out (.cells #[.int .i64 (R.1), .slice A1vg (R.2.1).length c1vg, .slice A2vg (R.2.2.1).length c2vg, .slice A3vg (R.2.2.2).length c3vg] 50 (0, 0))) 2
  have hdgvw3 : (w6.alloc (.cells #[.int .i64 (R.1), .slice A1vg (R.2.1).length c1vg, .slice A2vg (R.2.2.1).length c2vg, .slice A3vg (R.2.2.2).length c3vg] 50 (0, 0))).cell? ⟨gvw, 3, none⟩ = some (.slice A3vw (R.2.2.2).length c3vw) := (blk_cell (blk_alloc BKvw.out _) 3).trans rfl
  have hegvw3 := blk_frozen (blk_alloc BKvw.out (.cells #[.int .i64 (R.1), .slice A1vg (R.2.1).length c1vg, .slice A2vg (R.2.2.1).length c2vg, .slice A3vg (R.2.2.2).length c3vg] 50 (0, 0))) 3
  go_wp2_with fail
  obtain ⟨gvg, hgb⟩ : ∃ g_, g_ = w6.heap.size := ⟨_, rfl⟩
  obtain ⟨w7, hW_⟩ : ∃ w_, w_ = w6.alloc (.cells #[.int .i64 (R.1), .slice A1vg (R.2.1).length c1vg, .slice A2vg (R.2.2.1).length c2vg, .slice A3vg (R.2.2.2).length c3vg] 50 (0, 0)) := ⟨_, rfl⟩
  rw [← hW_, ← hgb]
  have BKvg := Aside0.mk (show w7.heap[gvg]? = some (.cells #[.int .i64 (R.1), .slice A1vg (R.2.1).length c1vg, .slice A2vg (R.2.2.1).length c2vg, .slice A3vg (R.2.2.2).length c3vg] 50 (0, 0)) from by rw [hW_, hgb]; exact blk_new w6 _)
  have gg : Grew w6 w7 := by rw [hW_]; exact below_alloc (Below.refl _ _) _
  have PGvg := Aside0.mk (show w6.heap.size ≤ gvg from Nat.le_of_eq hgb.symm)
  have PLvg := Aside0.mk (blk_lt BKvg.out)
  clear hW_ hgb
  clear hcgvw0 hfgvw0 hcgvw1 hfgvw1 hcgvw2 hfgvw2 hcgvw3 hfgvw3 hdgvw0 hegvw0 hdgvw1 hegvw1 hdgvw2 hegvw2 hdgvw3 hegvw3
  have Gw7 := Aside0.mk (show Grew w w7 from grew_trans (Gw6.out) gg)
  have Ew7 := Aside0.mk gg.size
  have GGw7 := Aside0.mk (show Grew w4 w7 from grew_trans GGw6.out gg)
  have n_ := Aside0.mk (Ty.M_below X1.out gg)
  clear X1
  have X1 := n_
  clear n_
  have n_ := Aside0.mk (Ty.M_below Y.out gg)
  clear Y
  have Y := n_
  clear n_
  have n_ := Aside0.mk (blk_below (g := gvw) (o := .cells #[.int .i64 (R.1), .slice A1vw (R.2.1).length c1vw, .slice A2vw (R.2.2.1).length c2vw, .slice A3vw (R.2.2.2).length c3vw] 50 (0, 0)) BKvw.out gg)
  clear BKvw
  have BKvw := n_
  clear n_
  clear gg
  go_at_call 33
  refine (HelpSeg.eq_calls R (.agg #[.int .i64 (R.1), .slice A1vg (R.2.1).length c1vg, .slice A2vg (R.2.2.1).length c2vg, .slice A3vg (R.2.2.2).length c3vg]) (.agg #[.int .i64 (R.1), .slice A1vw (R.2.1).length c1vw, .slice A2vw (R.2.2.1).length c2vw, .slice A3vw (R.2.2.2).length c3vw]) _ (HelpSeg.tSeg.K_of_M Y.out) (HelpSeg.tSeg.K_below GGw7.out W.out) RB.out.1).mono ?_
  rintro e w8 ⟨rfl, gg⟩
  have Gw8 := Aside0.mk (show Grew w w8 from grew_trans (Gw7.out) gg)
  have Ew8 := Aside0.mk gg.size
  have GGw8 := Aside0.mk (show Grew w4 w8 from grew_trans GGw7.out gg)
  have n_ := Aside0.mk (Ty.M_below X1.out gg)
  clear X1
  have X1 := n_
  clear n_
  have n_ := Aside0.mk (Ty.M_below Y.out gg)
  clear Y
  have Y := n_
  clear n_
  have n_ := Aside0.mk (blk_below (g := gvw) (o := .cells #[.int .i64 (R.1), .slice A1vw (R.2.1).length c1vw, .slice A2vw (R.2.2.1).length c2vw, .slice A3vw (R.2.2.2).length c3vw] 50 (0, 0)) BKvw.out gg)
  clear BKvw
  have BKvw := n_
  clear n_
  have n_ := Aside0.mk (blk_below (g := gvg) (o := .cells #[.int .i64 (R.1), .slice A1vg (R.2.1).length c1vg, .slice A2vg (R.2.2.1).length c2vg, .slice A3vg (R.2.2.2).length c3vg] 50 (0, 0)) BKvg.out gg)
  clear BKvg
  have BKvg := n_
  clear n_
  clear gg
  have hcgvw0 : w8.cell? ⟨gvw, 0, none⟩ = some (.int .i64 (R.1)) := (blk_cell BKvw.out 0).trans rfl
  have hfgvw0 := blk_frozen BKvw.out 0
  have hcgvw1 : w8.cell? ⟨gvw, 1, none⟩ = some (.slice A1vw (R.2.1).length c1vw) := (blk_cell BKvw.out 1).trans rfl
  have hfgvw1 := blk_frozen BKvw.out 1
  have hcgvw2 : w8.cell? ⟨gvw, 2, none⟩ = some (.slice A2vw (R.2.2.1).length c2vw) := (blk_cell BKvw.out 2).trans rfl
  have hfgvw2 := blk_frozen BKvw.out 2
  have hcgvw3 : w8.cell? ⟨gvw, 3, none⟩ = some (.slice A3vw (R.2.2.2).length c3vw) := (blk_cell BKvw.out 3).trans rfl
  have hfgvw3 := blk_frozen BKvw.out 3
  have hcgvg0 : w8.cell? ⟨gvg, 0, none⟩ = some (.int .i64 (R.1)) := (blk_cell BKvg.out 0).trans rfl
  have hfgvg0 := blk_frozen BKvg.out 0
  have hcgvg1 : w8.cell? ⟨gvg, 1, none⟩ = some (.slice A1vg (R.2.1).length c1vg) := (blk_cell BKvg.out 1).trans rfl
  have hfgvg1 := blk_frozen BKvg.out 1
  have hcgvg2 : w8.cell? ⟨gvg, 2, none⟩ = some (.slice A2vg (R.2.2.1).length c2vg) := (blk_cell BKvg.out 2).trans rfl
  have hfgvg2 := blk_frozen BKvg.out 2
  have hcgvg3 : w8.cell? ⟨gvg, 3, none⟩ = some (.slice A3vg (R.2.2.2).length c3vg) := (blk_cell BKvg.out 3).trans rfl
  have hfgvg3 := blk_frozen BKvg.out 3
  go_wp2_with fail
  go_at_call 39
  refine (HelpBB.to_calls x1 (.slice A1 x1.length c1) _ (HelpBB.tBB.K_below (Gw8.out) K1.out) B1.out).mono ?_
  rintro e w9 ⟨z1, rfl, hz_, gg⟩
  clear hcgvw0 hfgvw0 hcgvw1 hfgvw1 hcgvw2 hfgvw2 hcgvw3 hfgvw3 hcgvg0 hfgvg0 hcgvg1 hfgvg1 hcgvg2 hfgvg2 hcgvg3 hfgvg3
  have Gw9 := Aside0.mk (show Grew w w9 from grew_trans (Gw8.out) gg)
  have Ew9 := Aside0.mk gg.size
  have GGw9 := Aside0.mk (show Grew w4 w9 from grew_trans GGw8.out gg)
  have n_ := Aside0.mk (Ty.M_below X1.out gg)
  clear X1
  have X1 := n_
  clear n_
  have n_ := Aside0.mk (Ty.M_below Y.out gg)
  clear Y
  have Y := n_
  clear n_
  have n_ := Aside0.mk (blk_below (g := gvw) (o := .cells #[.int .i64 (R.1), .slice A1vw (R.2.1).length c1vw, .slice A2vw (R.2.2.1).length c2vw, .slice A3vw (R.2.2.2).length c3vw] 50 (0, 0)) BKvw.out gg)
  clear BKvw
  have BKvw := n_
  clear n_
  have n_ := Aside0.mk (blk_below (g := gvg) (o := .cells #[.int .i64 (R.1), .slice A1vg (R.2.1).length c1vg, .slice A2vg (R.2.2.1).length c2vg, .slice A3vg (R.2.2.2).length c3vg] 50 (0, 0)) BKvg.out gg)
  clear BKvg
  have BKvg := n_
  clear n_
  have Z := Aside0.mk hz_
  clear hz_
  clear gg
  have hcgvw0 : w9.cell? ⟨gvw, 0, none⟩ = some (.int .i64 (R.1)) := (blk_cell BKvw.out 0).trans rfl
  have hfgvw0 := blk_frozen BKvw.out 0
  have hcgvw1 : w9.cell? ⟨gvw, 1, none⟩ = some (.slice A1vw (R.2.1).length c1vw) := (blk_cell BKvw.out 1).trans rfl
  have hfgvw1 := blk_frozen BKvw.out 1
  have hcgvw2 : w9.cell? ⟨gvw, 2, none⟩ = some (.slice A2vw (R.2.2.1).length c2vw) := (blk_cell BKvw.out 2).trans rfl
  have hfgvw2 := blk_frozen BKvw.out 2
  have hcgvw3 : w9.cell? ⟨gvw, 3, none⟩ = some (.slice A3vw (R.2.2.2).length c3vw) := (blk_cell BKvw.out 3).trans rfl
  have hfgvw3 := blk_frozen BKvw.out 3
  have hcgvg0 : w9.cell? ⟨gvg, 0, none⟩ = some (.int .i64 (R.1)) := (blk_cell BKvg.out 0).trans rfl
  have hfgvg0 := blk_frozen BKvg.out 0
  have hcgvg1 : w9.cell? ⟨gvg, 1, none⟩ = some (.slice A1vg (R.2.1).length c1vg) := (blk_cell BKvg.out 1).trans rfl
  have hfgvg1 := blk_frozen BKvg.out 1
  have hcgvg2 : w9.cell? ⟨gvg, 2, none⟩ = some (.slice A2vg (R.2.2.1).length c2vg) := (blk_cell BKvg.out 2).trans rfl
  have hfgvg2 := blk_frozen BKvg.out 2
  have hcgvg3 : w9.cell? ⟨gvg, 3, none⟩ = some (.slice A3vg (R.2.2.2).length c3vg) := (blk_cell BKvg.out 3).trans rfl
  have hfgvg3 := blk_frozen BKvg.out 3
  go_wp2_with fail
  go_at_call 41
  refine (HelpBB.eq_calls x1 (tX1) z1 _ (HelpBB.tBB.K_of_M X1.out) (HelpBB.tBB.K_of_M Z.out) B1.out).mono ?_
  rintro e w10 ⟨rfl, gg⟩
  clear hcgvw0 hfgvw0 hcgvw1 hfgvw1 hcgvw2 hfgvw2 hcgvw3 hfgvw3 hcgvg0 hfgvg0 hcgvg1 hfgvg1 hcgvg2 hfgvg2 hcgvg3 hfgvg3
  have Gw10 := Aside0.mk (show Grew w w10 from grew_trans (Gw9.out) gg)
  have Ew10 := Aside0.mk gg.size
  have GGw10 := Aside0.mk (show Grew w4 w10 from grew_trans GGw9.out gg)
  have n_ := Aside0.mk (Ty.M_below X1.out gg)
  clear X1
  have X1 := n_
  clear n_
  have n_ := Aside0.mk (Ty.M_below Y.out gg)
  clear Y
  have Y := n_
  clear n_
  have n_ := Aside0.mk (blk_below (g := gvw) (o := .cells #[.int .i64 (R.1), .slice A1vw (R.2.1).length c1vw, .slice A2vw (R.2.2.1).length c2vw, .slice A3vw (R.2.2.2).length c3vw] 50 (0, 0)) BKvw.out gg)
  clear BKvw
  have BKvw := n_
  clear n_
  have n_ := Aside0.mk (blk_below (g := gvg) (o := .cells #[.int .i64 (R.1), .slice A1vg (R.2.1).length c1vg, .slice A2vg (R.2.2.1).length c2vg, .slice A3vg (R.2.2.2).length c3vg] 50 (0, 0)) BKvg.out gg)
  clear BKvg
  have BKvg := n_
  clear n_
  clear Z
  clear gg
  have hcgvw0 : w10.cell? ⟨gvw, 0, none⟩ = some (.int .i64 (R.1)) := (blk_cell BKvw.out 0).trans rfl
  have hfgvw0 := blk_frozen BKvw.out 0
  have hcgvw1 : w10.cell? ⟨gvw, 1, none⟩ = some (.slice A1vw (R.2.1).length c1vw) := (blk_cell BKvw.out 1).trans rfl
  have hfgvw1 := blk_frozen BKvw.out 1
  have hcgvw2 : w10.cell? ⟨gvw, 2, none⟩ = some (.slice A2vw (R.2.2.1).length c2vw) := (blk_cell BKvw.out 2).trans rfl
  have hfgvw2 := blk_frozen BKvw.out 2
  have hcgvw3 : w10.cell? ⟨gvw, 3, none⟩ = some (.slice A3vw (R.2.2.2).length c3vw) := (blk_cell BKvw.out 3).trans rfl
  have hfgvw3 := blk_frozen BKvw.out 3
  have hcgvg0 : w10.cell? ⟨gvg, 0, none⟩ = some (.int .i64 (R.1)) := (blk_cell BKvg.out 0).trans rfl
  have hfgvg0 := blk_frozen BKvg.out 0
  have hcgvg1 : w10.cell? ⟨gvg, 1, none⟩ = some (.slice A1vg (R.2.1).length c1vg) := (blk_cell BKvg.out 1).trans rfl
  have hfgvg1 := blk_frozen BKvg.out 1
  have hcgvg2 : w10.cell? ⟨gvg, 2, none⟩ = some (.slice A2vg (R.2.2.1).length c2vg) := (blk_cell BKvg.out 2).trans rfl
  have hfgvg2 := blk_frozen BKvg.out 2
  have hcgvg3 : w10.cell? ⟨gvg, 3, none⟩ = some (.slice A3vg (R.2.2.2).length c3vg) := (blk_cell BKvg.out 3).trans rfl
  have hfgvg3 := blk_frozen BKvg.out 3
  go_wp2_with fail
  go_at_call 42
  refine (HelpBB.mark_calls x1 (tX1) _ (1) w4 _ GGw10.out X1.out (by omega) (by omega) B1.out).mono ?_
  rintro e w11 ⟨rfl, hm, hb, hkp⟩
  clear hcgvw0 hfgvw0 hcgvw1 hfgvw1 hcgvw2 hfgvw2 hcgvw3 hfgvw3 hcgvg0 hfgvg0 hcgvg1 hfgvg1 hcgvg2 hfgvg2 hcgvg3 hfgvg3
  have GGw11 := Aside0.mk (show Grew w4 w11 from hb)
  have Gw11 := Aside0.mk (show Grew w w11 from grew_trans Gw4.out hb)
  have Ew11 := Aside0.mk hkp.1
  have n_ := Aside0.mk (Ty.M_kept Y.out hkp (fun k hk hs => by have a1_ := hk.1; have a2_ := hk.2; have a3_ := hs.1; have a4_ := hs.2; have e0_ := Ew1.out; have e1_ := Ew2.out; have e2_ := Ew3.out; have e3_ := Ew4.out; have e4_ := PGvw.out; have e5_ := PLvw.out; have e6_ := Ew5.out; have e7_ := Ew6.out; have e8_ := Ew7.out; have e9_ := PGvg.out; have e10_ := PLvg.out; have e11_ := Ew8.out; have e12_ := Ew9.out; have e13_ := Ew10.out; have e14_ := Ew11.out; omega))
  clear Y
  have Y := n_
  clear n_
  have n_ := Aside0.mk (show w11.heap[gvw]? = some (.cells #[.int .i64 (R.1), .slice A1vw (R.2.1).length c1vw, .slice A2vw (R.2.2.1).length c2vw, .slice A3vw (R.2.2.2).length c3vw] 50 (0, 0)) from (hkp.2 gvw (blk_lt BKvw.out) (fun hk => by have a1_ := hk.1; have a2_ := hk.2; have e0_ := Ew1.out; have e1_ := Ew2.out; have e2_ := Ew3.out; have e3_ := Ew4.out; have e4_ := PGvw.out; have e5_ := PLvw.out; have e6_ := Ew5.out; have e7_ := Ew6.out; have e8_ := Ew7.out; have e9_ := PGvg.out; have e10_ := PLvg.out; have e11_ := Ew8.out; have e12_ := Ew9.out; have e13_ := Ew10.out; have e14_ := Ew11.out; omega)).trans BKvw.out)
  clear BKvw
  have BKvw := n_
  clear n_
  have n_ := Aside0.mk (show w11.heap[gvg]? = some (.cells #[.int .i64 (R.1), .slice A1vg (R.2.1).length c1vg, .slice A2vg (R.2.2.1).length c2vg, .slice A3vg (R.2.2.2).length c3vg] 50 (0, 0)) from (hkp.2 gvg (blk_lt BKvg.out) (fun hk => by have a1_ := hk.1; have a2_ := hk.2; have e0_ := Ew1.out; have e1_ := Ew2.out; have e2_ := Ew3.out; have e3_ := Ew4.out; have e4_ := PGvw.out; have e5_ := PLvw.out; have e6_ := Ew5.out; have e7_ := Ew6.out; have e8_ := Ew7.out; have e9_ := PGvg.out; have e10_ := PLvg.out; have e11_ := Ew8.out; have e12_ := Ew9.out; have e13_ := Ew10.out; have e14_ := Ew11.out; omega)).trans BKvg.out)
  clear BKvg
  have BKvg := n_
  clear n_
  have N_ := Aside0.mk hm
  clear hm hb hkp X1
  clear N_
  have hcgvw0 : w11.cell? ⟨gvw, 0, none⟩ = some (.int .i64 (R.1)) := (blk_cell BKvw.out 0).trans rfl
  have hfgvw0 := blk_frozen BKvw.out 0
  have hcgvw1 : w11.cell? ⟨gvw, 1, none⟩ = some (.slice A1vw (R.2.1).length c1vw) := (blk_cell BKvw.out 1).trans rfl
  have hfgvw1 := blk_frozen BKvw.out 1
  have hcgvw2 : w11.cell? ⟨gvw, 2, none⟩ = some (.slice A2vw (R.2.2.1).length c2vw) := (blk_cell BKvw.out 2).trans rfl
  have hfgvw2 := blk_frozen BKvw.out 2
  have hcgvw3 : w11.cell? ⟨gvw, 3, none⟩ = some (.slice A3vw (R.2.2.2).length c3vw) := (blk_cell BKvw.out 3).trans rfl
  have hfgvw3 := blk_frozen BKvw.out 3
  have hcgvg0 : w11.cell? ⟨gvg, 0, none⟩ = some (.int .i64 (R.1)) := (blk_cell BKvg.out 0).trans rfl
  have hfgvg0 := blk_frozen BKvg.out 0
  have hcgvg1 : w11.cell? ⟨gvg, 1, none⟩ = some (.slice A1vg (R.2.1).length c1vg) := (blk_cell BKvg.out 1).trans rfl
  have hfgvg1 := blk_frozen BKvg.out 1
  have hcgvg2 : w11.cell? ⟨gvg, 2, none⟩ = some (.slice A2vg (R.2.2.1).length c2vg) := (blk_cell BKvg.out 2).trans rfl
  have hfgvg2 := blk_frozen BKvg.out 2
  have hcgvg3 : w11.cell? ⟨gvg, 3, none⟩ = some (.slice A3vg (R.2.2.2).length c3vg) := (blk_cell BKvg.out 3).trans rfl
  have hfgvg3 := blk_frozen BKvg.out 3
  go_wp2_with fail
  go_at_call 33
  refine (HelpSeg.eq_calls R (.agg #[.int .i64 (R.1), .slice A1vg (R.2.1).length c1vg, .slice A2vg (R.2.2.1).length c2vg, .slice A3vg (R.2.2.2).length c3vg]) (.agg #[.int .i64 (R.1), .slice A1vw (R.2.1).length c1vw, .slice A2vw (R.2.2.1).length c2vw, .slice A3vw (R.2.2.2).length c3vw]) _ (HelpSeg.tSeg.K_of_M Y.out) (HelpSeg.tSeg.K_below GGw11.out W.out) RB.out.1).mono ?_
  rintro e w12 ⟨rfl, gg⟩
  clear hcgvw0 hfgvw0 hcgvw1 hfgvw1 hcgvw2 hfgvw2 hcgvw3 hfgvw3 hcgvg0 hfgvg0 hcgvg1 hfgvg1 hcgvg2 hfgvg2 hcgvg3 hfgvg3
  have Gw12 := Aside0.mk (show Grew w w12 from grew_trans (Gw11.out) gg)
  have Ew12 := Aside0.mk gg.size
  have GGw12 := Aside0.mk (show Grew w4 w12 from grew_trans GGw11.out gg)
  have n_ := Aside0.mk (Ty.M_below Y.out gg)
  clear Y
  have Y := n_
  clear n_
  have n_ := Aside0.mk (blk_below (g := gvw) (o := .cells #[.int .i64 (R.1), .slice A1vw (R.2.1).length c1vw, .slice A2vw (R.2.2.1).length c2vw, .slice A3vw (R.2.2.2).length c3vw] 50 (0, 0)) BKvw.out gg)
  clear BKvw
  have BKvw := n_
  clear n_
  have n_ := Aside0.mk (blk_below (g := gvg) (o := .cells #[.int .i64 (R.1), .slice A1vg (R.2.1).length c1vg, .slice A2vg (R.2.2.1).length c2vg, .slice A3vg (R.2.2.2).length c3vg] 50 (0, 0)) BKvg.out gg)
  clear BKvg
  have BKvg := n_
  clear n_
  clear gg
  have hcgvw0 : w12.cell? ⟨gvw, 0, none⟩ = some (.int .i64 (R.1)) := (blk_cell BKvw.out 0).trans rfl
  have hfgvw0 := blk_frozen BKvw.out 0
  have hcgvw1 : w12.cell? ⟨gvw, 1, none⟩ = some (.slice A1vw (R.2.1).length c1vw) := (blk_cell BKvw.out 1).trans rfl
  have hfgvw1 := blk_frozen BKvw.out 1
  have hcgvw2 : w12.cell? ⟨gvw, 2, none⟩ = some (.slice A2vw (R.2.2.1).length c2vw) := (blk_cell BKvw.out 2).trans rfl
  have hfgvw2 := blk_frozen BKvw.out 2
  have hcgvw3 : w12.cell? ⟨gvw, 3, none⟩ = some (.slice A3vw (R.2.2.2).length c3vw) := (blk_cell BKvw.out 3).trans rfl
  have hfgvw3 := blk_frozen BKvw.out 3
  have hcgvg0 : w12.cell? ⟨gvg, 0, none⟩ = some (.int .i64 (R.1)) := (blk_cell BKvg.out 0).trans rfl
  have hfgvg0 := blk_frozen BKvg.out 0
  have hcgvg1 : w12.cell? ⟨gvg, 1, none⟩ = some (.slice A1vg (R.2.1).length c1vg) := (blk_cell BKvg.out 1).trans rfl
  have hfgvg1 := blk_frozen BKvg.out 1
  have hcgvg2 : w12.cell? ⟨gvg, 2, none⟩ = some (.slice A2vg (R.2.2.1).length c2vg) := (blk_cell BKvg.out 2).trans rfl
  have hfgvg2 := blk_frozen BKvg.out 2
  have hcgvg3 : w12.cell? ⟨gvg, 3, none⟩ = some (.slice A3vg (R.2.2.2).length c3vg) := (blk_cell BKvg.out 3).trans rfl
  have hfgvg3 := blk_frozen BKvg.out 3
  go_wp2_with fail
  go_at_call 35
  refine (HelpSeg.mark_calls R (.agg #[.int .i64 (R.1), .slice A1vg (R.2.1).length c1vg, .slice A2vg (R.2.2.1).length c2vg, .slice A3vg (R.2.2.2).length c3vg]) _ (1) w4 _ GGw12.out Y.out (by omega) (by omega) RB.out.1).mono ?_
  rintro e w13 ⟨rfl, hm, hb, hkp⟩
  clear hcgvw0 hfgvw0 hcgvw1 hfgvw1 hcgvw2 hfgvw2 hcgvw3 hfgvw3 hcgvg0 hfgvg0 hcgvg1 hfgvg1 hcgvg2 hfgvg2 hcgvg3 hfgvg3
  have GGw13 := Aside0.mk (show Grew w4 w13 from hb)
  have Gw13 := Aside0.mk (show Grew w w13 from grew_trans Gw4.out hb)
  have Ew13 := Aside0.mk hkp.1
  have n_ := Aside0.mk (show w13.heap[gvw]? = some (.cells #[.int .i64 (R.1), .slice A1vw (R.2.1).length c1vw, .slice A2vw (R.2.2.1).length c2vw, .slice A3vw (R.2.2.2).length c3vw] 50 (0, 0)) from (hkp.2 gvw (blk_lt BKvw.out) (fun hk => by have a1_ := hk.1; have a2_ := hk.2; have e0_ := Ew1.out; have e1_ := Ew2.out; have e2_ := Ew3.out; have e3_ := Ew4.out; have e4_ := PGvw.out; have e5_ := PLvw.out; have e6_ := Ew5.out; have e7_ := Ew6.out; have e8_ := Ew7.out; have e9_ := PGvg.out; have e10_ := PLvg.out; have e11_ := Ew8.out; have e12_ := Ew9.out; have e13_ := Ew10.out; have e14_ := Ew11.out; have e15_ := Ew12.out; have e16_ := Ew13.out; omega)).trans BKvw.out)
  clear BKvw
  have BKvw := n_
  clear n_
  have n_ := Aside0.mk (show w13.heap[gvg]? = some (.cells #[.int .i64 (R.1), .slice A1vg (R.2.1).length c1vg, .slice A2vg (R.2.2.1).length c2vg, .slice A3vg (R.2.2.2).length c3vg] 50 (0, 0)) from (hkp.2 gvg (blk_lt BKvg.out) (fun hk => by have a1_ := hk.1; have a2_ := hk.2; have e0_ := Ew1.out; have e1_ := Ew2.out; have e2_ := Ew3.out; have e3_ := Ew4.out; have e4_ := PGvw.out; have e5_ := PLvw.out; have e6_ := Ew5.out; have e7_ := Ew6.out; have e8_ := Ew7.out; have e9_ := PGvg.out; have e10_ := PLvg.out; have e11_ := Ew8.out; have e12_ := Ew9.out; have e13_ := Ew10.out; have e14_ := Ew11.out; have e15_ := Ew12.out; have e16_ := Ew13.out; omega)).trans BKvg.out)
  clear BKvg
  have BKvg := n_
  clear n_
  have N_ := Aside0.mk hm
  clear hm hb hkp Y
  have Y := N_
  clear N_
  have hcgvw0 : w13.cell? ⟨gvw, 0, none⟩ = some (.int .i64 (R.1)) := (blk_cell BKvw.out 0).trans rfl
  have hfgvw0 := blk_frozen BKvw.out 0
  have hcgvw1 : w13.cell? ⟨gvw, 1, none⟩ = some (.slice A1vw (R.2.1).length c1vw) := (blk_cell BKvw.out 1).trans rfl
  have hfgvw1 := blk_frozen BKvw.out 1
  have hcgvw2 : w13.cell? ⟨gvw, 2, none⟩ = some (.slice A2vw (R.2.2.1).length c2vw) := (blk_cell BKvw.out 2).trans rfl
  have hfgvw2 := blk_frozen BKvw.out 2
  have hcgvw3 : w13.cell? ⟨gvw, 3, none⟩ = some (.slice A3vw (R.2.2.2).length c3vw) := (blk_cell BKvw.out 3).trans rfl
  have hfgvw3 := blk_frozen BKvw.out 3
  have hcgvg0 : w13.cell? ⟨gvg, 0, none⟩ = some (.int .i64 (R.1)) := (blk_cell BKvg.out 0).trans rfl
  have hfgvg0 := blk_frozen BKvg.out 0
  have hcgvg1 : w13.cell? ⟨gvg, 1, none⟩ = some (.slice A1vg (R.2.1).length c1vg) := (blk_cell BKvg.out 1).trans rfl
  have hfgvg1 := blk_frozen BKvg.out 1
  have hcgvg2 : w13.cell? ⟨gvg, 2, none⟩ = some (.slice A2vg (R.2.2.1).length c2vg) := (blk_cell BKvg.out 2).trans rfl
  have hfgvg2 := blk_frozen BKvg.out 2
  have hcgvg3 : w13.cell? ⟨gvg, 3, none⟩ = some (.slice A3vg (R.2.2.2).length c3vg) := (blk_cell BKvg.out 3).trans rfl
  have hfgvg3 := blk_frozen BKvg.out 3
  go_wp2_with fail
  go_at_call 43
  refine (HelpSeg.held_calls R (.agg #[.int .i64 (R.1), .slice A1vg (R.2.1).length c1vg, .slice A2vg (R.2.2.1).length c2vg, .slice A3vg (R.2.2.2).length c3vg]) 1 _ (HelpSeg.tSeg.K_of_M Y.out) (by omega) (by omega) RB.out.1).mono ?_
  rintro e w14 ⟨rfl, gg⟩
  clear hcgvw0 hfgvw0 hcgvw1 hfgvw1 hcgvw2 hfgvw2 hcgvw3 hfgvw3 hcgvg0 hfgvg0 hcgvg1 hfgvg1 hcgvg2 hfgvg2 hcgvg3 hfgvg3
  have Gw14 := Aside0.mk (show Grew w w14 from grew_trans (Gw13.out) gg)
  have Ew14 := Aside0.mk gg.size
  have GGw14 := Aside0.mk (show Grew w4 w14 from grew_trans GGw13.out gg)
  have n_ := Aside0.mk (Ty.M_below Y.out gg)
  clear Y
  have Y := n_
  clear n_
  have n_ := Aside0.mk (blk_below (g := gvw) (o := .cells #[.int .i64 (R.1), .slice A1vw (R.2.1).length c1vw, .slice A2vw (R.2.2.1).length c2vw, .slice A3vw (R.2.2.2).length c3vw] 50 (0, 0)) BKvw.out gg)
  clear BKvw
  have BKvw := n_
  clear n_
  have n_ := Aside0.mk (blk_below (g := gvg) (o := .cells #[.int .i64 (R.1), .slice A1vg (R.2.1).length c1vg, .slice A2vg (R.2.2.1).length c2vg, .slice A3vg (R.2.2.2).length c3vg] 50 (0, 0)) BKvg.out gg)
  clear BKvg
  have BKvg := n_
  clear n_
  clear gg
  have hcgvw0 : w14.cell? ⟨gvw, 0, none⟩ = some (.int .i64 (R.1)) := (blk_cell BKvw.out 0).trans rfl
  have hfgvw0 := blk_frozen BKvw.out 0
  have hcgvw1 : w14.cell? ⟨gvw, 1, none⟩ = some (.slice A1vw (R.2.1).length c1vw) := (blk_cell BKvw.out 1).trans rfl
  have hfgvw1 := blk_frozen BKvw.out 1
  have hcgvw2 : w14.cell? ⟨gvw, 2, none⟩ = some (.slice A2vw (R.2.2.1).length c2vw) := (blk_cell BKvw.out 2).trans rfl
  have hfgvw2 := blk_frozen BKvw.out 2
  have hcgvw3 : w14.cell? ⟨gvw, 3, none⟩ = some (.slice A3vw (R.2.2.2).length c3vw) := (blk_cell BKvw.out 3).trans rfl
  have hfgvw3 := blk_frozen BKvw.out 3
  have hcgvg0 : w14.cell? ⟨gvg, 0, none⟩ = some (.int .i64 (R.1)) := (blk_cell BKvg.out 0).trans rfl
  have hfgvg0 := blk_frozen BKvg.out 0
  have hcgvg1 : w14.cell? ⟨gvg, 1, none⟩ = some (.slice A1vg (R.2.1).length c1vg) := (blk_cell BKvg.out 1).trans rfl
  have hfgvg1 := blk_frozen BKvg.out 1
  have hcgvg2 : w14.cell? ⟨gvg, 2, none⟩ = some (.slice A2vg (R.2.2.1).length c2vg) := (blk_cell BKvg.out 2).trans rfl
  have hfgvg2 := blk_frozen BKvg.out 2
  have hcgvg3 : w14.cell? ⟨gvg, 3, none⟩ = some (.slice A3vg (R.2.2.2).length c3vg) := (blk_cell BKvg.out 3).trans rfl
  have hfgvg3 := blk_frozen BKvg.out 3
  go_wp2_with fail
  go_at_call 39
  refine (HelpBB.to_calls x1 (.slice A1 x1.length c1) _ (HelpBB.tBB.K_below (Gw14.out) K1.out) B1.out).mono ?_
  rintro e w15 ⟨y1, rfl, hy_, gg⟩
  clear hcgvw0 hfgvw0 hcgvw1 hfgvw1 hcgvw2 hfgvw2 hcgvw3 hfgvw3 hcgvg0 hfgvg0 hcgvg1 hfgvg1 hcgvg2 hfgvg2 hcgvg3 hfgvg3
  have Gw15 := Aside0.mk (show Grew w w15 from grew_trans (Gw14.out) gg)
  have Ew15 := Aside0.mk gg.size
  have GGw15 := Aside0.mk (show Grew w4 w15 from grew_trans GGw14.out gg)
  have n_ := Aside0.mk (Ty.M_below Y.out gg)
  clear Y
  have Y := n_
  clear n_
  have n_ := Aside0.mk (blk_below (g := gvw) (o := .cells #[.int .i64 (R.1), .slice A1vw (R.2.1).length c1vw, .slice A2vw (R.2.2.1).length c2vw, .slice A3vw (R.2.2.2).length c3vw] 50 (0, 0)) BKvw.out gg)
  clear BKvw
  have BKvw := n_
  clear n_
  have n_ := Aside0.mk (blk_below (g := gvg) (o := .cells #[.int .i64 (R.1), .slice A1vg (R.2.1).length c1vg, .slice A2vg (R.2.2.1).length c2vg, .slice A3vg (R.2.2.2).length c3vg] 50 (0, 0)) BKvg.out gg)
  clear BKvg
  have BKvg := n_
  clear n_
  have D1 := Aside0.mk hy_
  clear hy_
  clear gg
  have hcgvw0 : w15.cell? ⟨gvw, 0, none⟩ = some (.int .i64 (R.1)) := (blk_cell BKvw.out 0).trans rfl
  have hfgvw0 := blk_frozen BKvw.out 0
  have hcgvw1 : w15.cell? ⟨gvw, 1, none⟩ = some (.slice A1vw (R.2.1).length c1vw) := (blk_cell BKvw.out 1).trans rfl
  have hfgvw1 := blk_frozen BKvw.out 1
  have hcgvw2 : w15.cell? ⟨gvw, 2, none⟩ = some (.slice A2vw (R.2.2.1).length c2vw) := (blk_cell BKvw.out 2).trans rfl
  have hfgvw2 := blk_frozen BKvw.out 2
  have hcgvw3 : w15.cell? ⟨gvw, 3, none⟩ = some (.slice A3vw (R.2.2.2).length c3vw) := (blk_cell BKvw.out 3).trans rfl
  have hfgvw3 := blk_frozen BKvw.out 3
  have hcgvg0 : w15.cell? ⟨gvg, 0, none⟩ = some (.int .i64 (R.1)) := (blk_cell BKvg.out 0).trans rfl
  have hfgvg0 := blk_frozen BKvg.out 0
  have hcgvg1 : w15.cell? ⟨gvg, 1, none⟩ = some (.slice A1vg (R.2.1).length c1vg) := (blk_cell BKvg.out 1).trans rfl
  have hfgvg1 := blk_frozen BKvg.out 1
  have hcgvg2 : w15.cell? ⟨gvg, 2, none⟩ = some (.slice A2vg (R.2.2.1).length c2vg) := (blk_cell BKvg.out 2).trans rfl
  have hfgvg2 := blk_frozen BKvg.out 2
  have hcgvg3 : w15.cell? ⟨gvg, 3, none⟩ = some (.slice A3vg (R.2.2.2).length c3vg) := (blk_cell BKvg.out 3).trans rfl
  have hfgvg3 := blk_frozen BKvg.out 3
  go_wp2_with fail
  go_at_call 40
  refine (implC x0 x1 y1 _ (HelpBB.tBB.K_of_M D1.out) S1.out Ahb.out).mono ?_
  rintro e w16 ⟨h, rfl, hm, gg⟩
  clear hcgvw0 hfgvw0 hcgvw1 hfgvw1 hcgvw2 hfgvw2 hcgvw3 hfgvw3 hcgvg0 hfgvg0 hcgvg1 hfgvg1 hcgvg2 hfgvg2 hcgvg3 hfgvg3
  have Gw16 := Aside0.mk (show Grew w w16 from grew_trans (Gw15.out) gg)
  have Ew16 := Aside0.mk gg.size
  have GGw16 := Aside0.mk (show Grew w4 w16 from grew_trans GGw15.out gg)
  have n_ := Aside0.mk (Ty.M_below Y.out gg)
  clear Y
  have Y := n_
  clear n_
  have n_ := Aside0.mk (Ty.M_below D1.out gg)
  clear D1
  have D1 := n_
  clear n_
  have n_ := Aside0.mk (blk_below (g := gvw) (o := .cells #[.int .i64 (R.1), .slice A1vw (R.2.1).length c1vw, .slice A2vw (R.2.2.1).length c2vw, .slice A3vw (R.2.2.2).length c3vw] 50 (0, 0)) BKvw.out gg)
  clear BKvw
  have BKvw := n_
  clear n_
  have n_ := Aside0.mk (blk_below (g := gvg) (o := .cells #[.int .i64 (R.1), .slice A1vg (R.2.1).length c1vg, .slice A2vg (R.2.2.1).length c2vg, .slice A3vg (R.2.2.2).length c3vg] 50 (0, 0)) BKvg.out gg)
  clear BKvg
  have BKvg := n_
  clear n_
  rw [HCO.out]
  rw [HR.out] at hm
  have H := Aside0.mk hm
  clear hm
  clear gg
  clear D1
  obtain ⟨A1vh, c1vh, A2vh, c2vh, A3vh, c3vh, es_⟩ := HelpSeg.form (HelpSeg.tSeg.K_of_M H.out)
  subst es_
  have hcgvw0 : w16.cell? ⟨gvw, 0, none⟩ = some (.int .i64 (R.1)) := (blk_cell BKvw.out 0).trans rfl
  have hfgvw0 := blk_frozen BKvw.out 0
  have hcgvw1 : w16.cell? ⟨gvw, 1, none⟩ = some (.slice A1vw (R.2.1).length c1vw) := (blk_cell BKvw.out 1).trans rfl
  have hfgvw1 := blk_frozen BKvw.out 1
  have hcgvw2 : w16.cell? ⟨gvw, 2, none⟩ = some (.slice A2vw (R.2.2.1).length c2vw) := (blk_cell BKvw.out 2).trans rfl
  have hfgvw2 := blk_frozen BKvw.out 2
  have hcgvw3 : w16.cell? ⟨gvw, 3, none⟩ = some (.slice A3vw (R.2.2.2).length c3vw) := (blk_cell BKvw.out 3).trans rfl
  have hfgvw3 := blk_frozen BKvw.out 3
  have hcgvg0 : w16.cell? ⟨gvg, 0, none⟩ = some (.int .i64 (R.1)) := (blk_cell BKvg.out 0).trans rfl
  have hfgvg0 := blk_frozen BKvg.out 0
  have hcgvg1 : w16.cell? ⟨gvg, 1, none⟩ = some (.slice A1vg (R.2.1).length c1vg) := (blk_cell BKvg.out 1).trans rfl
  have hfgvg1 := blk_frozen BKvg.out 1
  have hcgvg2 : w16.cell? ⟨gvg, 2, none⟩ = some (.slice A2vg (R.2.2.1).length c2vg) := (blk_cell BKvg.out 2).trans rfl
  have hfgvg2 := blk_frozen BKvg.out 2
  have hcgvg3 : w16.cell? ⟨gvg, 3, none⟩ = some (.slice A3vg (R.2.2.2).length c3vg) := (blk_cell BKvg.out 3).trans rfl
  have hfgvg3 := blk_frozen BKvg.out 3
  have hdgvw0 : (w16.alloc (.cells #[.int .i64 (R.1), .slice A1vh (R.2.1).length c1vh, .slice A2vh (R.2.2.1).length c2vh, .slice A3vh (R.2.2.2).length c3vh] 50 (0, 0))).cell? ⟨gvw, 0, none⟩ = some (.int .i64 (R.1)) := (blk_cell (blk_alloc BKvw.out _) 0).trans rfl
  have hegvw0 := blk_frozen (blk_alloc BKvw.out (.cells #[.int .i64 (R.1), .slice A1vh (R.2.1).length c1vh, .slice A2vh (R.2.2.1).length c2vh, .slice A3vh (R.2.2.2).length c3vh] 50 (0, 0))) 0
  have hdgvw1 : (w16.alloc (.cells #[.int .i64 (R.1), .slice A1vh (R.2.1).length c1vh, .slice A2vh (R.2.2.1).length c2vh, .slice A3vh (R.2.2.2).length c3vh] 50 (0, 0))).cell? ⟨gvw, 1, none⟩ = some (.slice A1vw (R.2.1).length c1vw) := (blk_cell (blk_alloc BKvw.out _) 1).trans rfl
  have hegvw1 := blk_frozen (blk_alloc BKvw.out (.cells #[.int .i64 (R.1), .slice A1vh (R.2.1).length c1vh, .slice A2vh (R.2.2.1).length c2vh, .slice A3vh (R.2.2.2).length c3vh] 50 (0, 0))) 1
  have hdgvw2 : (w16.alloc (.cells #[.int .i64 (R.1), .slice A1vh (R.2.1).length c1vh, .slice A2vh (R.2.2.1).length c2vh, .slice A3vh (R.2.2.2).length c3vh] 50 (0, 0))).cell? ⟨gvw, 2, none⟩ = some (.slice A2vw (R.2.2.1).length c2vw) := (blk_cell (blk_alloc BKvw.out _) 2).trans rfl
  have hegvw2 := blk_frozen (blk_alloc BKvw.out (.cells #[.int .i64 (R.1), .slice A1vh (R.2.1).length c1vh, .slice A2vh (R.2.2.1).length c2vh, .slice A3vh (R.2.2.2).length c3vh] 50 (0, 0))) 2
  have hdgvw3 : (w16.alloc (.cells #[.int .i64 (R.1), .slice A1vh (R.2.1).length c1vh, .slice A2vh (R.2.2.1).length c2vh, .slice A3vh (R.2.2.2).length c3vh] 50 (0, 0))).cell? ⟨gvw, 3, none⟩ = some (.slice A3vw (R.2.2.2).length c3vw) := (blk_cell (blk_alloc BKvw.out _) 3).trans rfl
  have hegvw3 := blk_frozen (blk_alloc BKvw.out (.cells #[.int .i64 (R.1), .slice A1vh (R.2.1).length c1vh, .slice A2vh (R.2.2.1).length c2vh, .slice A3vh (R.2.2.2).length c3vh] 50 (0, 0))) 3
  have hdgvg0 : (w16.alloc (.cells #[.int .i64 (R.1), .slice A1vh (R.2.1).length c1vh, .slice A2vh (R.2.2.1).length c2vh, .slice A3vh (R.2.2.2).length c3vh] 50 (0, 0))).cell? ⟨gvg, 0, none⟩ = some (.int .i64 (R.1)) := (blk_cell (blk_alloc BKvg.out _) 0).trans rfl
  have hegvg0 := blk_frozen (blk_alloc BKvg.out (.cells #[.int .i64 (R.1), .slice A1vh (R.2.1).length c1vh, .slice A2vh (R.2.2.1).length c2vh, .slice A3vh (R.2.2.2).length c3vh] 50 (0, 0))) 0
  have hdgvg1 : (w16.alloc (.cells #[.int .i64 (R.1), .slice A1vh (R.2.1).length c1vh, .slice A2vh (R.2.2.1).length c2vh, .slice A3vh (R.2.2.2).length c3vh] 50 (0, 0))).cell? ⟨gvg, 1, none⟩ = some (.slice A1vg (R.2.1).length c1vg) := (blk_cell (blk_alloc BKvg.out _) 1).trans rfl
  have hegvg1 := blk_frozen (blk_alloc BKvg.out (.cells #[.int .i64 (R.1), .slice A1vh (R.2.1).length c1vh, .slice A2vh (R.2.2.1).length c2vh, .slice A3vh (R.2.2.2).length c3vh] 50 (0, 0))) 1
  have hdgvg2 : (w16.alloc (.cells #[.int .i64 (R.1), .slice A1vh (R.2.1).length c1vh, .slice A2vh (R.2.2.1).length c2vh, .slice A3vh (R.2.2.2).length c3vh] 50 (0, 0))).cell? ⟨gvg, 2, none⟩ = some (.slice A2vg (R.2.2.1).length c2vg) := (blk_cell (blk_alloc BKvg.out _) 2).trans rfl
  have hegvg2 := blk_frozen (blk_alloc BKvg.out (.cells #[.int .i64 (R.1), .slice A1vh (R.2.1).length c1vh, .slice A2vh (R.2.2.1).length c2vh, .slice A3vh (R.2.2.2).length c3vh] 50 (0, 0))) 2
  have hdgvg3 : (w16.alloc (.cells #[.int .i64 (R.1), .slice A1vh (R.2.1).length c1vh, .slice A2vh (R.2.2.1).length c2vh, .slice A3vh (R.2.2.2).length c3vh] 50 (0, 0))).cell? ⟨gvg, 3, none⟩ = some (.slice A3vg (R.2.2.2).length c3vg) := (blk_cell (blk_alloc BKvg.out _) 3).trans rfl
  have hegvg3 := blk_frozen (blk_alloc BKvg.out (.cells #[.int .i64 (R.1), .slice A1vh (R.2.1).length c1vh, .slice A2vh (R.2.2.1).length c2vh, .slice A3vh (R.2.2.2).length c3vh] 50 (0, 0))) 3
  go_wp2_with fail
  obtain ⟨gvh, hgb⟩ : ∃ g_, g_ = w16.heap.size := ⟨_, rfl⟩
  obtain ⟨w17, hW_⟩ : ∃ w_, w_ = w16.alloc (.cells #[.int .i64 (R.1), .slice A1vh (R.2.1).length c1vh, .slice A2vh (R.2.2.1).length c2vh, .slice A3vh (R.2.2.2).length c3vh] 50 (0, 0)) := ⟨_, rfl⟩
  rw [← hW_, ← hgb]
  have BKvh := Aside0.mk (show w17.heap[gvh]? = some (.cells #[.int .i64 (R.1), .slice A1vh (R.2.1).length c1vh, .slice A2vh (R.2.2.1).length c2vh, .slice A3vh (R.2.2.2).length c3vh] 50 (0, 0)) from by rw [hW_, hgb]; exact blk_new w16 _)
  have gg : Grew w16 w17 := by rw [hW_]; exact below_alloc (Below.refl _ _) _
  have PGvh := Aside0.mk (show w16.heap.size ≤ gvh from Nat.le_of_eq hgb.symm)
  have PLvh := Aside0.mk (blk_lt BKvh.out)
  clear hW_ hgb
  clear hcgvw0 hfgvw0 hcgvw1 hfgvw1 hcgvw2 hfgvw2 hcgvw3 hfgvw3 hcgvg0 hfgvg0 hcgvg1 hfgvg1 hcgvg2 hfgvg2 hcgvg3 hfgvg3 hdgvw0 hegvw0 hdgvw1 hegvw1 hdgvw2 hegvw2 hdgvw3 hegvw3 hdgvg0 hegvg0 hdgvg1 hegvg1 hdgvg2 hegvg2 hdgvg3 hegvg3
  have Gw17 := Aside0.mk (show Grew w w17 from grew_trans (Gw16.out) gg)
  have Ew17 := Aside0.mk gg.size
  have GGw17 := Aside0.mk (show Grew w4 w17 from grew_trans GGw16.out gg)
  have n_ := Aside0.mk (Ty.M_below Y.out gg)
  clear Y
  have Y := n_
  clear n_
  have n_ := Aside0.mk (Ty.M_below H.out gg)
  clear H
  have H := n_
  clear n_
  have n_ := Aside0.mk (blk_below (g := gvw) (o := .cells #[.int .i64 (R.1), .slice A1vw (R.2.1).length c1vw, .slice A2vw (R.2.2.1).length c2vw, .slice A3vw (R.2.2.2).length c3vw] 50 (0, 0)) BKvw.out gg)
  clear BKvw
  have BKvw := n_
  clear n_
  have n_ := Aside0.mk (blk_below (g := gvg) (o := .cells #[.int .i64 (R.1), .slice A1vg (R.2.1).length c1vg, .slice A2vg (R.2.2.1).length c2vg, .slice A3vg (R.2.2.2).length c3vg] 50 (0, 0)) BKvg.out gg)
  clear BKvg
  have BKvg := n_
  clear n_
  clear gg
  go_at_call 33
  refine (HelpSeg.eq_calls R (.agg #[.int .i64 (R.1), .slice A1vh (R.2.1).length c1vh, .slice A2vh (R.2.2.1).length c2vh, .slice A3vh (R.2.2.2).length c3vh]) (.agg #[.int .i64 (R.1), .slice A1vw (R.2.1).length c1vw, .slice A2vw (R.2.2.1).length c2vw, .slice A3vw (R.2.2.2).length c3vw]) _ (HelpSeg.tSeg.K_of_M H.out) (HelpSeg.tSeg.K_below GGw17.out W.out) RB.out.1).mono ?_
  rintro e w18 ⟨rfl, gg⟩
  have Gw18 := Aside0.mk (show Grew w w18 from grew_trans (Gw17.out) gg)
  have Ew18 := Aside0.mk gg.size
  have GGw18 := Aside0.mk (show Grew w4 w18 from grew_trans GGw17.out gg)
  have n_ := Aside0.mk (Ty.M_below Y.out gg)
  clear Y
  have Y := n_
  clear n_
  have n_ := Aside0.mk (Ty.M_below H.out gg)
  clear H
  have H := n_
  clear n_
  have n_ := Aside0.mk (blk_below (g := gvw) (o := .cells #[.int .i64 (R.1), .slice A1vw (R.2.1).length c1vw, .slice A2vw (R.2.2.1).length c2vw, .slice A3vw (R.2.2.2).length c3vw] 50 (0, 0)) BKvw.out gg)
  clear BKvw
  have BKvw := n_
  clear n_
  have n_ := Aside0.mk (blk_below (g := gvg) (o := .cells #[.int .i64 (R.1), .slice A1vg (R.2.1).length c1vg, .slice A2vg (R.2.2.1).length c2vg, .slice A3vg (R.2.2.2).length c3vg] 50 (0, 0)) BKvg.out gg)
  clear BKvg
  have BKvg := n_
  clear n_
  have n_ := Aside0.mk (blk_below (g := gvh) (o := .cells #[.int .i64 (R.1), .slice A1vh (R.2.1).length c1vh, .slice A2vh (R.2.2.1).length c2vh, .slice A3vh (R.2.2.2).length c3vh] 50 (0, 0)) BKvh.out gg)
  clear BKvh
  have BKvh := n_
  clear n_
  clear gg
  have hcgvw0 : w18.cell? ⟨gvw, 0, none⟩ = some (.int .i64 (R.1)) := (blk_cell BKvw.out 0).trans rfl
  have hfgvw0 := blk_frozen BKvw.out 0
  have hcgvw1 : w18.cell? ⟨gvw, 1, none⟩ = some (.slice A1vw (R.2.1).length c1vw) := (blk_cell BKvw.out 1).trans rfl
  have hfgvw1 := blk_frozen BKvw.out 1
  have hcgvw2 : w18.cell? ⟨gvw, 2, none⟩ = some (.slice A2vw (R.2.2.1).length c2vw) := (blk_cell BKvw.out 2).trans rfl
  have hfgvw2 := blk_frozen BKvw.out 2
  have hcgvw3 : w18.cell? ⟨gvw, 3, none⟩ = some (.slice A3vw (R.2.2.2).length c3vw) := (blk_cell BKvw.out 3).trans rfl
  have hfgvw3 := blk_frozen BKvw.out 3
  have hcgvg0 : w18.cell? ⟨gvg, 0, none⟩ = some (.int .i64 (R.1)) := (blk_cell BKvg.out 0).trans rfl
  have hfgvg0 := blk_frozen BKvg.out 0
  have hcgvg1 : w18.cell? ⟨gvg, 1, none⟩ = some (.slice A1vg (R.2.1).length c1vg) := (blk_cell BKvg.out 1).trans rfl
  have hfgvg1 := blk_frozen BKvg.out 1
  have hcgvg2 : w18.cell? ⟨gvg, 2, none⟩ = some (.slice A2vg (R.2.2.1).length c2vg) := (blk_cell BKvg.out 2).trans rfl
  have hfgvg2 := blk_frozen BKvg.out 2
  have hcgvg3 : w18.cell? ⟨gvg, 3, none⟩ = some (.slice A3vg (R.2.2.2).length c3vg) := (blk_cell BKvg.out 3).trans rfl
  have hfgvg3 := blk_frozen BKvg.out 3
  have hcgvh0 : w18.cell? ⟨gvh, 0, none⟩ = some (.int .i64 (R.1)) := (blk_cell BKvh.out 0).trans rfl
  have hfgvh0 := blk_frozen BKvh.out 0
  have hcgvh1 : w18.cell? ⟨gvh, 1, none⟩ = some (.slice A1vh (R.2.1).length c1vh) := (blk_cell BKvh.out 1).trans rfl
  have hfgvh1 := blk_frozen BKvh.out 1
  have hcgvh2 : w18.cell? ⟨gvh, 2, none⟩ = some (.slice A2vh (R.2.2.1).length c2vh) := (blk_cell BKvh.out 2).trans rfl
  have hfgvh2 := blk_frozen BKvh.out 2
  have hcgvh3 : w18.cell? ⟨gvh, 3, none⟩ = some (.slice A3vh (R.2.2.2).length c3vh) := (blk_cell BKvh.out 3).trans rfl
  have hfgvh3 := blk_frozen BKvh.out 3
  go_wp2_with fail
  go_at_call 43
  refine (HelpSeg.held_calls R (.agg #[.int .i64 (R.1), .slice A1vg (R.2.1).length c1vg, .slice A2vg (R.2.2.1).length c2vg, .slice A3vg (R.2.2.2).length c3vg]) 1 _ (HelpSeg.tSeg.K_of_M Y.out) (by omega) (by omega) RB.out.1).mono ?_
  rintro e w19 ⟨rfl, gg⟩
  clear hcgvw0 hfgvw0 hcgvw1 hfgvw1 hcgvw2 hfgvw2 hcgvw3 hfgvw3 hcgvg0 hfgvg0 hcgvg1 hfgvg1 hcgvg2 hfgvg2 hcgvg3 hfgvg3 hcgvh0 hfgvh0 hcgvh1 hfgvh1 hcgvh2 hfgvh2 hcgvh3 hfgvh3
  have Gw19 := Aside0.mk (show Grew w w19 from grew_trans (Gw18.out) gg)
  have Ew19 := Aside0.mk gg.size
  have GGw19 := Aside0.mk (show Grew w4 w19 from grew_trans GGw18.out gg)
  have n_ := Aside0.mk (Ty.M_below Y.out gg)
  clear Y
  have Y := n_
  clear n_
  have n_ := Aside0.mk (Ty.M_below H.out gg)
  clear H
  have H := n_
  clear n_
  have n_ := Aside0.mk (blk_below (g := gvw) (o := .cells #[.int .i64 (R.1), .slice A1vw (R.2.1).length c1vw, .slice A2vw (R.2.2.1).length c2vw, .slice A3vw (R.2.2.2).length c3vw] 50 (0, 0)) BKvw.out gg)
  clear BKvw
  have BKvw := n_
  clear n_
  have n_ := Aside0.mk (blk_below (g := gvg) (o := .cells #[.int .i64 (R.1), .slice A1vg (R.2.1).length c1vg, .slice A2vg (R.2.2.1).length c2vg, .slice A3vg (R.2.2.2).length c3vg] 50 (0, 0)) BKvg.out gg)
  clear BKvg
  have BKvg := n_
  clear n_
  have n_ := Aside0.mk (blk_below (g := gvh) (o := .cells #[.int .i64 (R.1), .slice A1vh (R.2.1).length c1vh, .slice A2vh (R.2.2.1).length c2vh, .slice A3vh (R.2.2.2).length c3vh] 50 (0, 0)) BKvh.out gg)
  clear BKvh
  have BKvh := n_
  clear n_
  clear gg
  have hcgvw0 : w19.cell? ⟨gvw, 0, none⟩ = some (.int .i64 (R.1)) := (blk_cell BKvw.out 0).trans rfl
  have hfgvw0 := blk_frozen BKvw.out 0
  have hcgvw1 : w19.cell? ⟨gvw, 1, none⟩ = some (.slice A1vw (R.2.1).length c1vw) := (blk_cell BKvw.out 1).trans rfl
  have hfgvw1 := blk_frozen BKvw.out 1
  have hcgvw2 : w19.cell? ⟨gvw, 2, none⟩ = some (.slice A2vw (R.2.2.1).length c2vw) := (blk_cell BKvw.out 2).trans rfl
  have hfgvw2 := blk_frozen BKvw.out 2
  have hcgvw3 : w19.cell? ⟨gvw, 3, none⟩ = some (.slice A3vw (R.2.2.2).length c3vw) := (blk_cell BKvw.out 3).trans rfl
  have hfgvw3 := blk_frozen BKvw.out 3
  have hcgvg0 : w19.cell? ⟨gvg, 0, none⟩ = some (.int .i64 (R.1)) := (blk_cell BKvg.out 0).trans rfl
  have hfgvg0 := blk_frozen BKvg.out 0
  have hcgvg1 : w19.cell? ⟨gvg, 1, none⟩ = some (.slice A1vg (R.2.1).length c1vg) := (blk_cell BKvg.out 1).trans rfl
  have hfgvg1 := blk_frozen BKvg.out 1
  have hcgvg2 : w19.cell? ⟨gvg, 2, none⟩ = some (.slice A2vg (R.2.2.1).length c2vg) := (blk_cell BKvg.out 2).trans rfl
  have hfgvg2 := blk_frozen BKvg.out 2
  have hcgvg3 : w19.cell? ⟨gvg, 3, none⟩ = some (.slice A3vg (R.2.2.2).length c3vg) := (blk_cell BKvg.out 3).trans rfl
  have hfgvg3 := blk_frozen BKvg.out 3
  have hcgvh0 : w19.cell? ⟨gvh, 0, none⟩ = some (.int .i64 (R.1)) := (blk_cell BKvh.out 0).trans rfl
  have hfgvh0 := blk_frozen BKvh.out 0
  have hcgvh1 : w19.cell? ⟨gvh, 1, none⟩ = some (.slice A1vh (R.2.1).length c1vh) := (blk_cell BKvh.out 1).trans rfl
  have hfgvh1 := blk_frozen BKvh.out 1
  have hcgvh2 : w19.cell? ⟨gvh, 2, none⟩ = some (.slice A2vh (R.2.2.1).length c2vh) := (blk_cell BKvh.out 2).trans rfl
  have hfgvh2 := blk_frozen BKvh.out 2
  have hcgvh3 : w19.cell? ⟨gvh, 3, none⟩ = some (.slice A3vh (R.2.2.2).length c3vh) := (blk_cell BKvh.out 3).trans rfl
  have hfgvh3 := blk_frozen BKvh.out 3
  go_wp2
  go_ret
  exact ⟨rfl, Gw19.out⟩
end Go.Proofs.Ytmgmdnmfalepkaa.LawBuild
