/- Parts of the proof (see the row's own text): LawEnc. -/
import Derived.Test.YtmgmdnmfalepkaaG4
import Derived.Test.YtmgmdnmfalepkaaG7
import Derived.Test.YtmgmdnmfalepkaaG16
import Derived.Deep.RegionHeld3
namespace Go.Proofs.Ytmgmdnmfalepkaa.LawEnc
open Go.RowKit Go.Proofs.YtmgmdnmfalepkaaW.PrintWords Go.Proofs.YtmgmdnmfalepkaaW.PrintMore Go.Proofs.Ytmgmdnmfalepkaa.Kit Go.Proofs.Ytmgmdnmfalepkaa.PKit Go.Proofs.Ytmgmdnmfalepkaa.Ty Go.Proofs.Ytmgmdnmfalepkaa.Encode Go.Proofs.Ytmgmdnmfalepkaa.PSeg Go.Proofs.Ytmgmdnmfalepkaa.PEnc
set_option linter.unusedVariables false
set_option maxRecDepth 100000 in
set_option maxHeartbeats 4000000 in
theorem law_calls (x0 : HelpSeg.X) (v0 : Value) (w : World) (h0 : HelpSeg.tSeg.K w x0 v0) (hb : Bytes x0.2.1) :
    Calls Try.prog 9 #[v0] w fun e w' => e = .returned (.bool true) ∧ Below w.heap.size w w' := by
  have hu50 := Try.underlying50
  have hu44 := Try.underlying44
  obtain ⟨A1p0, c1p0, A2p0, c2p0, A3p0, c3p0, es_⟩ := HelpSeg.form h0
  subst es_
  have K0 := Aside0.mk h0
  clear h0
  have Ahb := Aside0.mk hb
  clear hb
  obtain ⟨r0, hr0, hz0⟩ := HelpSeg.sz_pure x0 1048576 (by omega) (by omega) ⟨w, _, K0.out⟩
  by_cases q0 : r0 < 0
  · clear hr0
    go_enter Try.func9, Try.ntmps9
    go_wp2_with (first | ((with_reducible refine gate_dst (N := 1) rfl ?_); refine box_event ?hg (N := 1) ?hd (cs := #[.int .i64 (x0.1), .slice A1p0 (x0.2.1).length c1p0, .slice A2p0 (x0.2.2.1).length c2p0, .slice A3p0 (x0.2.2.2).length c3p0]) (t := 44) ?hr ?_; (case hd => rfl); (case hg => rfl); (case hr => first | (go_simp; done) | (go_simp; rfl)); intro gp0 hgb w1 hbx gg; have PGp0 := Aside0.mk (show w.heap.size ≤ gp0 from Nat.le_of_eq hgb.symm); have PLp0 := Aside0.mk (blk_lt hbx); have BKp0 := Aside0.mk hbx; clear hgb hbx; have Gw1 := Aside0.mk (show Grew w w1 from grew_trans (Below.refl _ _) gg); have Ew1 := Aside0.mk gg.size; clear gg; have hcgp00 : w1.cell? ⟨gp0, 0, none⟩ = some (.int .i64 (x0.1)) := (blk_cell BKp0.out 0).trans rfl; have hfgp00 := blk_frozen BKp0.out 0; have hcgp01 : w1.cell? ⟨gp0, 1, none⟩ = some (.slice A1p0 (x0.2.1).length c1p0) := (blk_cell BKp0.out 1).trans rfl; have hfgp01 := blk_frozen BKp0.out 1; have hcgp02 : w1.cell? ⟨gp0, 2, none⟩ = some (.slice A2p0 (x0.2.2.1).length c2p0) := (blk_cell BKp0.out 2).trans rfl; have hfgp02 := blk_frozen BKp0.out 2; have hcgp03 : w1.cell? ⟨gp0, 3, none⟩ = some (.slice A3p0 (x0.2.2.2).length c3p0) := (blk_cell BKp0.out 3).trans rfl; have hfgp03 := blk_frozen BKp0.out 3))
    go_at_call 27
    refine (hz0 _ (HelpSeg.tSeg.K_below (Gw1.out) K0.out)).mono ?_
    rintro e w2 ⟨rfl, gg⟩
    clear hcgp00 hfgp00 hcgp01 hfgp01 hcgp02 hfgp02 hcgp03 hfgp03
    have Gw2 := Aside0.mk (show Grew w w2 from grew_trans (Gw1.out) gg)
    have Ew2 := Aside0.mk gg.size
    have n_ := Aside0.mk (blk_below (g := gp0) (o := .cells #[.int .i64 (x0.1), .slice A1p0 (x0.2.1).length c1p0, .slice A2p0 (x0.2.2.1).length c2p0, .slice A3p0 (x0.2.2.2).length c3p0] 44 (0, 0)) BKp0.out gg)
    clear BKp0
    have BKp0 := n_
    clear n_
    clear gg
    have hcgp00 : w2.cell? ⟨gp0, 0, none⟩ = some (.int .i64 (x0.1)) := (blk_cell BKp0.out 0).trans rfl
    have hfgp00 := blk_frozen BKp0.out 0
    have hcgp01 : w2.cell? ⟨gp0, 1, none⟩ = some (.slice A1p0 (x0.2.1).length c1p0) := (blk_cell BKp0.out 1).trans rfl
    have hfgp01 := blk_frozen BKp0.out 1
    have hcgp02 : w2.cell? ⟨gp0, 2, none⟩ = some (.slice A2p0 (x0.2.2.1).length c2p0) := (blk_cell BKp0.out 2).trans rfl
    have hfgp02 := blk_frozen BKp0.out 2
    have hcgp03 : w2.cell? ⟨gp0, 3, none⟩ = some (.slice A3p0 (x0.2.2.2).length c3p0) := (blk_cell BKp0.out 3).trans rfl
    have hfgp03 := blk_frozen BKp0.out 3
    go_wp2
    go_ret
    exact ⟨rfl, Gw2.out⟩
  obtain ⟨l0, m0, s0⟩ := hr0 (by omega)
  have S0 := Aside0.mk s0
  clear s0 hr0
  have B0 := Aside0.mk (HelpSeg.bd_small S0.out)
  have rb := ans_small x0 S0.out Ahb.out
  have RB := Aside0.mk rb
  clear rb
  have cx0 : (HelpSeg.cntSeg x0 : Int) ≤ 1048576 := Int.ofNat_le.2 (HelpSeg.cnt_small S0.out)
  have p1 : ¬ (1 + (HelpSeg.cntSeg x0 : Int) < 0) := by omega
  generalize hR : enc x0 = R at RB
  have HR := Aside0.mk hR
  clear hR
  have cr : (HelpB.cntB R : Int) ≤ 1099511627000 := Int.ofNat_le.2 RB.out.2
  have p2 : ¬ (1 + (HelpB.cntB R : Int) < 0) := by omega
  go_enter Try.func9, Try.ntmps9
  go_wp2_with (first | ((with_reducible refine gate_dst (N := 1) rfl ?_); refine box_event ?hg (N := 1) ?hd (cs := #[.int .i64 (x0.1), .slice A1p0 (x0.2.1).length c1p0, .slice A2p0 (x0.2.2.1).length c2p0, .slice A3p0 (x0.2.2.2).length c3p0]) (t := 44) ?hr ?_; (case hd => rfl); (case hg => rfl); (case hr => first | (go_simp; done) | (go_simp; rfl)); intro gp0 hgb w1 hbx gg; have PGp0 := Aside0.mk (show w.heap.size ≤ gp0 from Nat.le_of_eq hgb.symm); have PLp0 := Aside0.mk (blk_lt hbx); have BKp0 := Aside0.mk hbx; clear hgb hbx; have Gw1 := Aside0.mk (show Grew w w1 from grew_trans (Below.refl _ _) gg); have Ew1 := Aside0.mk gg.size; clear gg; have hcgp00 : w1.cell? ⟨gp0, 0, none⟩ = some (.int .i64 (x0.1)) := (blk_cell BKp0.out 0).trans rfl; have hfgp00 := blk_frozen BKp0.out 0; have hcgp01 : w1.cell? ⟨gp0, 1, none⟩ = some (.slice A1p0 (x0.2.1).length c1p0) := (blk_cell BKp0.out 1).trans rfl; have hfgp01 := blk_frozen BKp0.out 1; have hcgp02 : w1.cell? ⟨gp0, 2, none⟩ = some (.slice A2p0 (x0.2.2.1).length c2p0) := (blk_cell BKp0.out 2).trans rfl; have hfgp02 := blk_frozen BKp0.out 2; have hcgp03 : w1.cell? ⟨gp0, 3, none⟩ = some (.slice A3p0 (x0.2.2.2).length c3p0) := (blk_cell BKp0.out 3).trans rfl; have hfgp03 := blk_frozen BKp0.out 3))
  go_at_call 27
  refine (hz0 _ (HelpSeg.tSeg.K_below (Gw1.out) K0.out)).mono ?_
  rintro e w2 ⟨rfl, gg⟩
  clear hcgp00 hfgp00 hcgp01 hfgp01 hcgp02 hfgp02 hcgp03 hfgp03
  have Gw2 := Aside0.mk (show Grew w w2 from grew_trans (Gw1.out) gg)
  have Ew2 := Aside0.mk gg.size
  have n_ := Aside0.mk (blk_below (g := gp0) (o := .cells #[.int .i64 (x0.1), .slice A1p0 (x0.2.1).length c1p0, .slice A2p0 (x0.2.2.1).length c2p0, .slice A3p0 (x0.2.2.2).length c3p0] 44 (0, 0)) BKp0.out gg)
  clear BKp0
  have BKp0 := n_
  clear n_
  clear gg
  have hcgp00 : w2.cell? ⟨gp0, 0, none⟩ = some (.int .i64 (x0.1)) := (blk_cell BKp0.out 0).trans rfl
  have hfgp00 := blk_frozen BKp0.out 0
  have hcgp01 : w2.cell? ⟨gp0, 1, none⟩ = some (.slice A1p0 (x0.2.1).length c1p0) := (blk_cell BKp0.out 1).trans rfl
  have hfgp01 := blk_frozen BKp0.out 1
  have hcgp02 : w2.cell? ⟨gp0, 2, none⟩ = some (.slice A2p0 (x0.2.2.1).length c2p0) := (blk_cell BKp0.out 2).trans rfl
  have hfgp02 := blk_frozen BKp0.out 2
  have hcgp03 : w2.cell? ⟨gp0, 3, none⟩ = some (.slice A3p0 (x0.2.2.2).length c3p0) := (blk_cell BKp0.out 3).trans rfl
  have hfgp03 := blk_frozen BKp0.out 3
  go_wp2_with fail
  go_at_call 30
  refine (HelpSeg.to_calls x0 (.agg #[.int .i64 (x0.1), .slice A1p0 (x0.2.1).length c1p0, .slice A2p0 (x0.2.2.1).length c2p0, .slice A3p0 (x0.2.2.2).length c3p0]) _ (HelpSeg.tSeg.K_below (Gw2.out) K0.out) B0.out).mono ?_
  rintro e w3 ⟨tT0, rfl, ht_, gg⟩
  clear hcgp00 hfgp00 hcgp01 hfgp01 hcgp02 hfgp02 hcgp03 hfgp03
  have Gw3 := Aside0.mk (show Grew w w3 from grew_trans (Gw2.out) gg)
  have Ew3 := Aside0.mk gg.size
  have n_ := Aside0.mk (blk_below (g := gp0) (o := .cells #[.int .i64 (x0.1), .slice A1p0 (x0.2.1).length c1p0, .slice A2p0 (x0.2.2.1).length c2p0, .slice A3p0 (x0.2.2.2).length c3p0] 44 (0, 0)) BKp0.out gg)
  clear BKp0
  have BKp0 := n_
  clear n_
  have T0 := Aside0.mk ( ht_)
  clear ht_
  clear gg
  go_wp2_with fail
  go_at_call 48
  refine (specC x0 tT0 _ (HelpSeg.tSeg.K_of_M T0.out) S0.out Ahb.out).mono ?_
  rintro e w4 ⟨v, rfl, hk, gg⟩
  have Gw4 := Aside0.mk (show Grew w w4 from grew_trans (Gw3.out) gg)
  have Ew4 := Aside0.mk gg.size
  have n_ := Aside0.mk (Ty.M_below T0.out gg)
  clear T0
  have T0 := n_
  clear n_
  have n_ := Aside0.mk (blk_below (g := gp0) (o := .cells #[.int .i64 (x0.1), .slice A1p0 (x0.2.1).length c1p0, .slice A2p0 (x0.2.2.1).length c2p0, .slice A3p0 (x0.2.2.2).length c3p0] 44 (0, 0)) BKp0.out gg)
  clear BKp0
  have BKp0 := n_
  clear n_
  rw [HR.out] at hk
  have W := Aside0.mk hk
  clear hk
  clear gg
  clear T0
  have GGw4 := Aside0.mk (show Grew w4 w4 from Below.refl _ _)
  have hcgp00 : w4.cell? ⟨gp0, 0, none⟩ = some (.int .i64 (x0.1)) := (blk_cell BKp0.out 0).trans rfl
  have hfgp00 := blk_frozen BKp0.out 0
  have hcgp01 : w4.cell? ⟨gp0, 1, none⟩ = some (.slice A1p0 (x0.2.1).length c1p0) := (blk_cell BKp0.out 1).trans rfl
  have hfgp01 := blk_frozen BKp0.out 1
  have hcgp02 : w4.cell? ⟨gp0, 2, none⟩ = some (.slice A2p0 (x0.2.2.1).length c2p0) := (blk_cell BKp0.out 2).trans rfl
  have hfgp02 := blk_frozen BKp0.out 2
  have hcgp03 : w4.cell? ⟨gp0, 3, none⟩ = some (.slice A3p0 (x0.2.2.2).length c3p0) := (blk_cell BKp0.out 3).trans rfl
  have hfgp03 := blk_frozen BKp0.out 3
  go_wp2_with fail
  go_at_call 30
  refine (HelpSeg.to_calls x0 (.agg #[.int .i64 (x0.1), .slice A1p0 (x0.2.1).length c1p0, .slice A2p0 (x0.2.2.1).length c2p0, .slice A3p0 (x0.2.2.2).length c3p0]) _ (HelpSeg.tSeg.K_below (Gw4.out) K0.out) B0.out).mono ?_
  rintro e w5 ⟨tX0, rfl, ht_, gg⟩
  clear hcgp00 hfgp00 hcgp01 hfgp01 hcgp02 hfgp02 hcgp03 hfgp03
  have Gw5 := Aside0.mk (show Grew w w5 from grew_trans (Gw4.out) gg)
  have Ew5 := Aside0.mk gg.size
  have GGw5 := Aside0.mk (show Grew w4 w5 from grew_trans GGw4.out gg)
  have n_ := Aside0.mk (blk_below (g := gp0) (o := .cells #[.int .i64 (x0.1), .slice A1p0 (x0.2.1).length c1p0, .slice A2p0 (x0.2.2.1).length c2p0, .slice A3p0 (x0.2.2.2).length c3p0] 44 (0, 0)) BKp0.out gg)
  clear BKp0
  have BKp0 := n_
  clear n_
  have X0 := Aside0.mk (HelpSeg.tSeg.M_lower (GGw4.out).size (Ty.M_beyond ht_))
  clear ht_
  clear gg
  obtain ⟨A1x0, c1x0, A2x0, c2x0, A3x0, c3x0, es_⟩ := HelpSeg.form (HelpSeg.tSeg.K_of_M X0.out)
  subst es_
  have hcgp00 : w5.cell? ⟨gp0, 0, none⟩ = some (.int .i64 (x0.1)) := (blk_cell BKp0.out 0).trans rfl
  have hfgp00 := blk_frozen BKp0.out 0
  have hcgp01 : w5.cell? ⟨gp0, 1, none⟩ = some (.slice A1p0 (x0.2.1).length c1p0) := (blk_cell BKp0.out 1).trans rfl
  have hfgp01 := blk_frozen BKp0.out 1
  have hcgp02 : w5.cell? ⟨gp0, 2, none⟩ = some (.slice A2p0 (x0.2.2.1).length c2p0) := (blk_cell BKp0.out 2).trans rfl
  have hfgp02 := blk_frozen BKp0.out 2
  have hcgp03 : w5.cell? ⟨gp0, 3, none⟩ = some (.slice A3p0 (x0.2.2.2).length c3p0) := (blk_cell BKp0.out 3).trans rfl
  have hfgp03 := blk_frozen BKp0.out 3
  have hdgp00 : (w5.alloc (.cells #[.int .i64 (x0.1), .slice A1x0 (x0.2.1).length c1x0, .slice A2x0 (x0.2.2.1).length c2x0, .slice A3x0 (x0.2.2.2).length c3x0] 50 (0, 0))).cell? ⟨gp0, 0, none⟩ = some (.int .i64 (x0.1)) := (blk_cell (blk_alloc BKp0.out _) 0).trans rfl
  have hegp00 := blk_frozen (blk_alloc BKp0.out (.cells #[.int .i64 (x0.1), .slice A1x0 (x0.2.1).length c1x0, .slice A2x0 (x0.2.2.1).length c2x0, .slice A3x0 (x0.2.2.2).length c3x0] 50 (0, 0))) 0
  have hdgp01 : (w5.alloc (.cells #[.int .i64 (x0.1), .slice A1x0 (x0.2.1).length c1x0, .slice A2x0 (x0.2.2.1).length c2x0, .slice A3x0 (x0.2.2.2).length c3x0] 50 (0, 0))).cell? ⟨gp0, 1, none⟩ = some (.slice A1p0 (x0.2.1).length c1p0) := (blk_cell (blk_alloc BKp0.out _) 1).trans rfl
  have hegp01 := blk_frozen (blk_alloc BKp0.out (.cells #[.int .i64 (x0.1), .slice A1x0 (x0.2.1).length c1x0, .slice A2x0 (x0.2.2.1).length c2x0, .slice A3x0 (x0.2.2.2).length c3x0] 50 (0, 0))) 1
  have hdgp02 : (w5.alloc (.cells #[.int .i64 (x0.1), .slice A1x0 (x0.2.1).length c1x0, .slice A2x0 (x0.2.2.1).length c2x0, .slice A3x0 (x0.2.2.2).length c3x0] 50 (0, 0))).cell? ⟨gp0, 2, none⟩ = some (.slice A2p0 (x0.2.2.1).length c2p0) := (blk_cell (blk_alloc BKp0.out _) 2).trans rfl
  have hegp02 := blk_frozen (blk_alloc BKp0.out (.cells #[.int .i64 (x0.1), .slice A1x0 (x0.2.1).length c1x0, .slice A2x0 (x0.2.2.1).length c2x0, .slice A3x0 (x0.2.2.2).length c3x0] 50 (0, 0))) 2
  have hdgp03 : (w5.alloc (.cells #[.int .i64 (x0.1), .slice A1x0 (x0.2.1).length c1x0, .slice A2x0 (x0.2.2.1).length c2x0, .slice A3x0 (x0.2.2.2).length c3x0] 50 (0, 0))).cell? ⟨gp0, 3, none⟩ = some (.slice A3p0 (x0.2.2.2).length c3p0) := (blk_cell (blk_alloc BKp0.out _) 3).trans rfl
  have hegp03 := blk_frozen (blk_alloc BKp0.out (.cells #[.int .i64 (x0.1), .slice A1x0 (x0.2.1).length c1x0, .slice A2x0 (x0.2.2.1).length c2x0, .slice A3x0 (x0.2.2.2).length c3x0] 50 (0, 0))) 3
  go_wp2_with fail
  obtain ⟨gx0, hgb⟩ : ∃ g_, g_ = w5.heap.size := ⟨_, rfl⟩
  obtain ⟨w6, hW_⟩ : ∃ w_, w_ = w5.alloc (.cells #[.int .i64 (x0.1), .slice A1x0 (x0.2.1).length c1x0, .slice A2x0 (x0.2.2.1).length c2x0, .slice A3x0 (x0.2.2.2).length c3x0] 50 (0, 0)) := ⟨_, rfl⟩
  rw [← hW_, ← hgb]
  have BKx0 := Aside0.mk (show w6.heap[gx0]? = some (.cells #[.int .i64 (x0.1), .slice A1x0 (x0.2.1).length c1x0, .slice A2x0 (x0.2.2.1).length c2x0, .slice A3x0 (x0.2.2.2).length c3x0] 50 (0, 0)) from by rw [hW_, hgb]; exact blk_new w5 _)
  have gg : Grew w5 w6 := by rw [hW_]; exact below_alloc (Below.refl _ _) _
  have PGx0 := Aside0.mk (show w5.heap.size ≤ gx0 from Nat.le_of_eq hgb.symm)
  have PLx0 := Aside0.mk (blk_lt BKx0.out)
  clear hW_ hgb
  clear hcgp00 hfgp00 hcgp01 hfgp01 hcgp02 hfgp02 hcgp03 hfgp03 hdgp00 hegp00 hdgp01 hegp01 hdgp02 hegp02 hdgp03 hegp03
  have Gw6 := Aside0.mk (show Grew w w6 from grew_trans (Gw5.out) gg)
  have Ew6 := Aside0.mk gg.size
  have GGw6 := Aside0.mk (show Grew w4 w6 from grew_trans GGw5.out gg)
  have n_ := Aside0.mk (Ty.M_below X0.out gg)
  clear X0
  have X0 := n_
  clear n_
  have n_ := Aside0.mk (blk_below (g := gp0) (o := .cells #[.int .i64 (x0.1), .slice A1p0 (x0.2.1).length c1p0, .slice A2p0 (x0.2.2.1).length c2p0, .slice A3p0 (x0.2.2.2).length c3p0] 44 (0, 0)) BKp0.out gg)
  clear BKp0
  have BKp0 := n_
  clear n_
  clear gg
  go_at_call 49
  refine (implC x0 (.agg #[.int .i64 (x0.1), .slice A1x0 (x0.2.1).length c1x0, .slice A2x0 (x0.2.2.1).length c2x0, .slice A3x0 (x0.2.2.2).length c3x0]) _ (HelpSeg.tSeg.K_of_M X0.out) S0.out Ahb.out).mono ?_
  rintro e w7 ⟨g, rfl, hm, gg⟩
  have Gw7 := Aside0.mk (show Grew w w7 from grew_trans (Gw6.out) gg)
  have Ew7 := Aside0.mk gg.size
  have GGw7 := Aside0.mk (show Grew w4 w7 from grew_trans GGw6.out gg)
  have n_ := Aside0.mk (Ty.M_below X0.out gg)
  clear X0
  have X0 := n_
  clear n_
  have n_ := Aside0.mk (blk_below (g := gp0) (o := .cells #[.int .i64 (x0.1), .slice A1p0 (x0.2.1).length c1p0, .slice A2p0 (x0.2.2.1).length c2p0, .slice A3p0 (x0.2.2.2).length c3p0] 44 (0, 0)) BKp0.out gg)
  clear BKp0
  have BKp0 := n_
  clear n_
  have n_ := Aside0.mk (blk_below (g := gx0) (o := .cells #[.int .i64 (x0.1), .slice A1x0 (x0.2.1).length c1x0, .slice A2x0 (x0.2.2.1).length c2x0, .slice A3x0 (x0.2.2.2).length c3x0] 50 (0, 0)) BKx0.out gg)
  clear BKx0
  have BKx0 := n_
  clear n_
  rw [HR.out] at hm
  have Y := Aside0.mk (HelpB.tB.M_lower (GGw6.out).size (Ty.M_beyond hm))
  clear hm
  clear gg
  have hcgp00 : w7.cell? ⟨gp0, 0, none⟩ = some (.int .i64 (x0.1)) := (blk_cell BKp0.out 0).trans rfl
  have hfgp00 := blk_frozen BKp0.out 0
  have hcgp01 : w7.cell? ⟨gp0, 1, none⟩ = some (.slice A1p0 (x0.2.1).length c1p0) := (blk_cell BKp0.out 1).trans rfl
  have hfgp01 := blk_frozen BKp0.out 1
  have hcgp02 : w7.cell? ⟨gp0, 2, none⟩ = some (.slice A2p0 (x0.2.2.1).length c2p0) := (blk_cell BKp0.out 2).trans rfl
  have hfgp02 := blk_frozen BKp0.out 2
  have hcgp03 : w7.cell? ⟨gp0, 3, none⟩ = some (.slice A3p0 (x0.2.2.2).length c3p0) := (blk_cell BKp0.out 3).trans rfl
  have hfgp03 := blk_frozen BKp0.out 3
  have hcgx00 : w7.cell? ⟨gx0, 0, none⟩ = some (.int .i64 (x0.1)) := (blk_cell BKx0.out 0).trans rfl
  have hfgx00 := blk_frozen BKx0.out 0
  have hcgx01 : w7.cell? ⟨gx0, 1, none⟩ = some (.slice A1x0 (x0.2.1).length c1x0) := (blk_cell BKx0.out 1).trans rfl
  have hfgx01 := blk_frozen BKx0.out 1
  have hcgx02 : w7.cell? ⟨gx0, 2, none⟩ = some (.slice A2x0 (x0.2.2.1).length c2x0) := (blk_cell BKx0.out 2).trans rfl
  have hfgx02 := blk_frozen BKx0.out 2
  have hcgx03 : w7.cell? ⟨gx0, 3, none⟩ = some (.slice A3x0 (x0.2.2.2).length c3x0) := (blk_cell BKx0.out 3).trans rfl
  have hfgx03 := blk_frozen BKx0.out 3
  go_wp2_with fail
  go_at_call 23
  refine (HelpB.eq_calls R (g) (v) _ (HelpB.tB.K_of_M Y.out) (HelpB.tB.K_below GGw7.out W.out) RB.out.1).mono ?_
  rintro e w8 ⟨rfl, gg⟩
  clear hcgp00 hfgp00 hcgp01 hfgp01 hcgp02 hfgp02 hcgp03 hfgp03 hcgx00 hfgx00 hcgx01 hfgx01 hcgx02 hfgx02 hcgx03 hfgx03
  have Gw8 := Aside0.mk (show Grew w w8 from grew_trans (Gw7.out) gg)
  have Ew8 := Aside0.mk gg.size
  have GGw8 := Aside0.mk (show Grew w4 w8 from grew_trans GGw7.out gg)
  have n_ := Aside0.mk (Ty.M_below X0.out gg)
  clear X0
  have X0 := n_
  clear n_
  have n_ := Aside0.mk (Ty.M_below Y.out gg)
  clear Y
  have Y := n_
  clear n_
  have n_ := Aside0.mk (blk_below (g := gp0) (o := .cells #[.int .i64 (x0.1), .slice A1p0 (x0.2.1).length c1p0, .slice A2p0 (x0.2.2.1).length c2p0, .slice A3p0 (x0.2.2.2).length c3p0] 44 (0, 0)) BKp0.out gg)
  clear BKp0
  have BKp0 := n_
  clear n_
  have n_ := Aside0.mk (blk_below (g := gx0) (o := .cells #[.int .i64 (x0.1), .slice A1x0 (x0.2.1).length c1x0, .slice A2x0 (x0.2.2.1).length c2x0, .slice A3x0 (x0.2.2.2).length c3x0] 50 (0, 0)) BKx0.out gg)
  clear BKx0
  have BKx0 := n_
  clear n_
  clear gg
  have hcgp00 : w8.cell? ⟨gp0, 0, none⟩ = some (.int .i64 (x0.1)) := (blk_cell BKp0.out 0).trans rfl
  have hfgp00 := blk_frozen BKp0.out 0
  have hcgp01 : w8.cell? ⟨gp0, 1, none⟩ = some (.slice A1p0 (x0.2.1).length c1p0) := (blk_cell BKp0.out 1).trans rfl
  have hfgp01 := blk_frozen BKp0.out 1
  have hcgp02 : w8.cell? ⟨gp0, 2, none⟩ = some (.slice A2p0 (x0.2.2.1).length c2p0) := (blk_cell BKp0.out 2).trans rfl
  have hfgp02 := blk_frozen BKp0.out 2
  have hcgp03 : w8.cell? ⟨gp0, 3, none⟩ = some (.slice A3p0 (x0.2.2.2).length c3p0) := (blk_cell BKp0.out 3).trans rfl
  have hfgp03 := blk_frozen BKp0.out 3
  have hcgx00 : w8.cell? ⟨gx0, 0, none⟩ = some (.int .i64 (x0.1)) := (blk_cell BKx0.out 0).trans rfl
  have hfgx00 := blk_frozen BKx0.out 0
  have hcgx01 : w8.cell? ⟨gx0, 1, none⟩ = some (.slice A1x0 (x0.2.1).length c1x0) := (blk_cell BKx0.out 1).trans rfl
  have hfgx01 := blk_frozen BKx0.out 1
  have hcgx02 : w8.cell? ⟨gx0, 2, none⟩ = some (.slice A2x0 (x0.2.2.1).length c2x0) := (blk_cell BKx0.out 2).trans rfl
  have hfgx02 := blk_frozen BKx0.out 2
  have hcgx03 : w8.cell? ⟨gx0, 3, none⟩ = some (.slice A3x0 (x0.2.2.2).length c3x0) := (blk_cell BKx0.out 3).trans rfl
  have hfgx03 := blk_frozen BKx0.out 3
  go_wp2_with fail
  go_region_held3 (fun W_ => W_.cell? ⟨gp0, 0, none⟩ = some (.int .i64 (x0.1)) ∧ W_.cell? ⟨gp0, 1, none⟩ = some (.slice A1p0 (x0.2.1).length c1p0) ∧ W_.cell? ⟨gp0, 2, none⟩ = some (.slice A2p0 (x0.2.2.1).length c2p0) ∧ W_.cell? ⟨gp0, 3, none⟩ = some (.slice A3p0 (x0.2.2.2).length c3p0) ∧ W_.cell? ⟨gx0, 0, none⟩ = some (.int .i64 (x0.1)) ∧ W_.cell? ⟨gx0, 1, none⟩ = some (.slice A1x0 (x0.2.1).length c1x0) ∧ W_.cell? ⟨gx0, 2, none⟩ = some (.slice A2x0 (x0.2.2.1).length c2x0) ∧ W_.cell? ⟨gx0, 3, none⟩ = some (.slice A3x0 (x0.2.2.2).length c3x0) ∧ W_.frozen? ⟨gp0, 0, none⟩ = false ∧ W_.frozen? ⟨gp0, 1, none⟩ = false ∧ W_.frozen? ⟨gp0, 2, none⟩ = false ∧ W_.frozen? ⟨gp0, 3, none⟩ = false ∧ W_.frozen? ⟨gx0, 0, none⟩ = false ∧ W_.frozen? ⟨gx0, 1, none⟩ = false ∧ W_.frozen? ⟨gx0, 2, none⟩ = false ∧ W_.frozen? ⟨gx0, 3, none⟩ = false) (first | exact ⟨(blk_cell BKp0.out 0).trans rfl, (blk_cell BKp0.out 1).trans rfl, (blk_cell BKp0.out 2).trans rfl, (blk_cell BKp0.out 3).trans rfl, (blk_cell BKx0.out 0).trans rfl, (blk_cell BKx0.out 1).trans rfl, (blk_cell BKx0.out 2).trans rfl, (blk_cell BKx0.out 3).trans rfl, blk_frozen BKp0.out 0, blk_frozen BKp0.out 1, blk_frozen BKp0.out 2, blk_frozen BKp0.out 3, blk_frozen BKx0.out 0, blk_frozen BKx0.out 1, blk_frozen BKx0.out 2, blk_frozen BKx0.out 3⟩ | exact ⟨(blk_cell (blk_below (o := .cells #[.int .i64 (x0.1), .slice A1p0 (x0.2.1).length c1p0, .slice A2p0 (x0.2.2.1).length c2p0, .slice A3p0 (x0.2.2.2).length c3p0] 44 (0, 0)) BKp0.out gA_.out) 0).trans rfl, (blk_cell (blk_below (o := .cells #[.int .i64 (x0.1), .slice A1p0 (x0.2.1).length c1p0, .slice A2p0 (x0.2.2.1).length c2p0, .slice A3p0 (x0.2.2.2).length c3p0] 44 (0, 0)) BKp0.out gA_.out) 1).trans rfl, (blk_cell (blk_below (o := .cells #[.int .i64 (x0.1), .slice A1p0 (x0.2.1).length c1p0, .slice A2p0 (x0.2.2.1).length c2p0, .slice A3p0 (x0.2.2.2).length c3p0] 44 (0, 0)) BKp0.out gA_.out) 2).trans rfl, (blk_cell (blk_below (o := .cells #[.int .i64 (x0.1), .slice A1p0 (x0.2.1).length c1p0, .slice A2p0 (x0.2.2.1).length c2p0, .slice A3p0 (x0.2.2.2).length c3p0] 44 (0, 0)) BKp0.out gA_.out) 3).trans rfl, (blk_cell (blk_below (o := .cells #[.int .i64 (x0.1), .slice A1x0 (x0.2.1).length c1x0, .slice A2x0 (x0.2.2.1).length c2x0, .slice A3x0 (x0.2.2.2).length c3x0] 50 (0, 0)) BKx0.out gA_.out) 0).trans rfl, (blk_cell (blk_below (o := .cells #[.int .i64 (x0.1), .slice A1x0 (x0.2.1).length c1x0, .slice A2x0 (x0.2.2.1).length c2x0, .slice A3x0 (x0.2.2.2).length c3x0] 50 (0, 0)) BKx0.out gA_.out) 1).trans rfl, (blk_cell (blk_below (o := .cells #[.int .i64 (x0.1), .slice A1x0 (x0.2.1).length c1x0, .slice A2x0 (x0.2.2.1).length c2x0, .slice A3x0 (x0.2.2.2).length c3x0] 50 (0, 0)) BKx0.out gA_.out) 2).trans rfl, (blk_cell (blk_below (o := .cells #[.int .i64 (x0.1), .slice A1x0 (x0.2.1).length c1x0, .slice A2x0 (x0.2.2.1).length c2x0, .slice A3x0 (x0.2.2.2).length c3x0] 50 (0, 0)) BKx0.out gA_.out) 3).trans rfl, blk_frozen (blk_below (o := .cells #[.int .i64 (x0.1), .slice A1p0 (x0.2.1).length c1p0, .slice A2p0 (x0.2.2.1).length c2p0, .slice A3p0 (x0.2.2.2).length c3p0] 44 (0, 0)) BKp0.out gA_.out) 0, blk_frozen (blk_below (o := .cells #[.int .i64 (x0.1), .slice A1p0 (x0.2.1).length c1p0, .slice A2p0 (x0.2.2.1).length c2p0, .slice A3p0 (x0.2.2.2).length c3p0] 44 (0, 0)) BKp0.out gA_.out) 1, blk_frozen (blk_below (o := .cells #[.int .i64 (x0.1), .slice A1p0 (x0.2.1).length c1p0, .slice A2p0 (x0.2.2.1).length c2p0, .slice A3p0 (x0.2.2.2).length c3p0] 44 (0, 0)) BKp0.out gA_.out) 2, blk_frozen (blk_below (o := .cells #[.int .i64 (x0.1), .slice A1p0 (x0.2.1).length c1p0, .slice A2p0 (x0.2.2.1).length c2p0, .slice A3p0 (x0.2.2.2).length c3p0] 44 (0, 0)) BKp0.out gA_.out) 3, blk_frozen (blk_below (o := .cells #[.int .i64 (x0.1), .slice A1x0 (x0.2.1).length c1x0, .slice A2x0 (x0.2.2.1).length c2x0, .slice A3x0 (x0.2.2.2).length c3x0] 50 (0, 0)) BKx0.out gA_.out) 0, blk_frozen (blk_below (o := .cells #[.int .i64 (x0.1), .slice A1x0 (x0.2.1).length c1x0, .slice A2x0 (x0.2.2.1).length c2x0, .slice A3x0 (x0.2.2.2).length c3x0] 50 (0, 0)) BKx0.out gA_.out) 1, blk_frozen (blk_below (o := .cells #[.int .i64 (x0.1), .slice A1x0 (x0.2.1).length c1x0, .slice A2x0 (x0.2.2.1).length c2x0, .slice A3x0 (x0.2.2.2).length c3x0] 50 (0, 0)) BKx0.out gA_.out) 2, blk_frozen (blk_below (o := .cells #[.int .i64 (x0.1), .slice A1x0 (x0.2.1).length c1x0, .slice A2x0 (x0.2.2.1).length c2x0, .slice A3x0 (x0.2.2.2).length c3x0] 50 (0, 0)) BKx0.out gA_.out) 3⟩ | exact ⟨(blk_cell (blk_below (o := .cells #[.int .i64 (x0.1), .slice A1p0 (x0.2.1).length c1p0, .slice A2p0 (x0.2.2.1).length c2p0, .slice A3p0 (x0.2.2.2).length c3p0] 44 (0, 0)) BKp0.out (grew_trans gA_.out gB_.out)) 0).trans rfl, (blk_cell (blk_below (o := .cells #[.int .i64 (x0.1), .slice A1p0 (x0.2.1).length c1p0, .slice A2p0 (x0.2.2.1).length c2p0, .slice A3p0 (x0.2.2.2).length c3p0] 44 (0, 0)) BKp0.out (grew_trans gA_.out gB_.out)) 1).trans rfl, (blk_cell (blk_below (o := .cells #[.int .i64 (x0.1), .slice A1p0 (x0.2.1).length c1p0, .slice A2p0 (x0.2.2.1).length c2p0, .slice A3p0 (x0.2.2.2).length c3p0] 44 (0, 0)) BKp0.out (grew_trans gA_.out gB_.out)) 2).trans rfl, (blk_cell (blk_below (o := .cells #[.int .i64 (x0.1), .slice A1p0 (x0.2.1).length c1p0, .slice A2p0 (x0.2.2.1).length c2p0, .slice A3p0 (x0.2.2.2).length c3p0] 44 (0, 0)) BKp0.out (grew_trans gA_.out gB_.out)) 3).trans rfl, (blk_cell (blk_below (o := .cells #[.int .i64 (x0.1), .slice A1x0 (x0.2.1).length c1x0, .slice A2x0 (x0.2.2.1).length c2x0, .slice A3x0 (x0.2.2.2).length c3x0] 50 (0, 0)) BKx0.out (grew_trans gA_.out gB_.out)) 0).trans rfl, (blk_cell (blk_below (o := .cells #[.int .i64 (x0.1), .slice A1x0 (x0.2.1).length c1x0, .slice A2x0 (x0.2.2.1).length c2x0, .slice A3x0 (x0.2.2.2).length c3x0] 50 (0, 0)) BKx0.out (grew_trans gA_.out gB_.out)) 1).trans rfl, (blk_cell (blk_below (o := .cells #[.int .i64 (x0.1), .slice A1x0 (x0.2.1).length c1x0, .slice A2x0 (x0.2.2.1).length c2x0, .slice A3x0 (x0.2.2.2).length c3x0] 50 (0, 0)) BKx0.out (grew_trans gA_.out gB_.out)) 2).trans rfl, (blk_cell (blk_below (o := .cells #[.int .i64 (x0.1), .slice A1x0 (x0.2.1).length c1x0, .slice A2x0 (x0.2.2.1).length c2x0, .slice A3x0 (x0.2.2.2).length c3x0] 50 (0, 0)) BKx0.out (grew_trans gA_.out gB_.out)) 3).trans rfl, blk_frozen (blk_below (o := .cells #[.int .i64 (x0.1), .slice A1p0 (x0.2.1).length c1p0, .slice A2p0 (x0.2.2.1).length c2p0, .slice A3p0 (x0.2.2.2).length c3p0] 44 (0, 0)) BKp0.out (grew_trans gA_.out gB_.out)) 0, blk_frozen (blk_below (o := .cells #[.int .i64 (x0.1), .slice A1p0 (x0.2.1).length c1p0, .slice A2p0 (x0.2.2.1).length c2p0, .slice A3p0 (x0.2.2.2).length c3p0] 44 (0, 0)) BKp0.out (grew_trans gA_.out gB_.out)) 1, blk_frozen (blk_below (o := .cells #[.int .i64 (x0.1), .slice A1p0 (x0.2.1).length c1p0, .slice A2p0 (x0.2.2.1).length c2p0, .slice A3p0 (x0.2.2.2).length c3p0] 44 (0, 0)) BKp0.out (grew_trans gA_.out gB_.out)) 2, blk_frozen (blk_below (o := .cells #[.int .i64 (x0.1), .slice A1p0 (x0.2.1).length c1p0, .slice A2p0 (x0.2.2.1).length c2p0, .slice A3p0 (x0.2.2.2).length c3p0] 44 (0, 0)) BKp0.out (grew_trans gA_.out gB_.out)) 3, blk_frozen (blk_below (o := .cells #[.int .i64 (x0.1), .slice A1x0 (x0.2.1).length c1x0, .slice A2x0 (x0.2.2.1).length c2x0, .slice A3x0 (x0.2.2.2).length c3x0] 50 (0, 0)) BKx0.out (grew_trans gA_.out gB_.out)) 0, blk_frozen (blk_below (o := .cells #[.int .i64 (x0.1), .slice A1x0 (x0.2.1).length c1x0, .slice A2x0 (x0.2.2.1).length c2x0, .slice A3x0 (x0.2.2.2).length c3x0] 50 (0, 0)) BKx0.out (grew_trans gA_.out gB_.out)) 1, blk_frozen (blk_below (o := .cells #[.int .i64 (x0.1), .slice A1x0 (x0.2.1).length c1x0, .slice A2x0 (x0.2.2.1).length c2x0, .slice A3x0 (x0.2.2.2).length c3x0] 50 (0, 0)) BKx0.out (grew_trans gA_.out gB_.out)) 2, blk_frozen (blk_below (o := .cells #[.int .i64 (x0.1), .slice A1x0 (x0.2.1).length c1x0, .slice A2x0 (x0.2.2.1).length c2x0, .slice A3x0 (x0.2.2.2).length c3x0] 50 (0, 0)) BKx0.out (grew_trans gA_.out gB_.out)) 3⟩ | go_keep) (first | (go_at_call 30; refine (HelpSeg.to_calls x0 (.agg #[.int .i64 (x0.1), .slice A1p0 (x0.2.1).length c1p0, .slice A2p0 (x0.2.2.1).length c2p0, .slice A3p0 (x0.2.2.2).length c3p0]) _ (HelpSeg.tSeg.K_below ?ha K0.out) B0.out).mono ?_; (case ha => repeat (first | exact Gw8.out | apply pw_below_drewN | apply below_drew1)); rintro e w9 ⟨z0, rfl, hz_, gA_⟩; have Z := Aside0.mk hz_; have gA_ := Aside0.mk (show Grew w8 w9 from (by first | exact gA_ | exact grew_trans (by repeat (first | exact Below.refl _ _ | apply pw_below_drewN | apply below_drew1)) gA_)); clear hz_) | (go_at_call 33; refine (HelpSeg.eq_calls x0 (.agg #[.int .i64 (x0.1), .slice A1x0 (x0.2.1).length c1x0, .slice A2x0 (x0.2.2.1).length c2x0, .slice A3x0 (x0.2.2.2).length c3x0]) z0 _ (HelpSeg.tSeg.K_below ?hb (HelpSeg.tSeg.K_of_M X0.out)) (HelpSeg.tSeg.K_below ?hc (HelpSeg.tSeg.K_of_M Z.out)) B0.out).mono ?_; (case hb => repeat (first | exact gA_.out | apply pw_below_drewN | apply below_drew1)); (case hc => repeat (first | exact Below.refl _ _ | apply pw_below_drewN | apply below_drew1)); rintro e w10 ⟨rfl, gB_⟩; have gB_ := Aside0.mk (show Grew w9 w10 from (by first | exact gB_ | exact grew_trans (by repeat (first | exact Below.refl _ _ | apply pw_below_drewN | apply below_drew1)) gB_))))
  have gg : Grew w8 w10 := grew_trans gA_.out gB_.out
  clear gA_ gB_ Z
  clear hcgp00 hfgp00 hcgp01 hfgp01 hcgp02 hfgp02 hcgp03 hfgp03 hcgx00 hfgx00 hcgx01 hfgx01 hcgx02 hfgx02 hcgx03 hfgx03
  have Gw10 := Aside0.mk (show Grew w w10 from grew_trans (Gw8.out) gg)
  have Ew10 := Aside0.mk gg.size
  have GGw10 := Aside0.mk (show Grew w4 w10 from grew_trans GGw8.out gg)
  have n_ := Aside0.mk (Ty.M_below X0.out gg)
  clear X0
  have X0 := n_
  clear n_
  have n_ := Aside0.mk (Ty.M_below Y.out gg)
  clear Y
  have Y := n_
  clear n_
  have n_ := Aside0.mk (blk_below (g := gp0) (o := .cells #[.int .i64 (x0.1), .slice A1p0 (x0.2.1).length c1p0, .slice A2p0 (x0.2.2.1).length c2p0, .slice A3p0 (x0.2.2.2).length c3p0] 44 (0, 0)) BKp0.out gg)
  clear BKp0
  have BKp0 := n_
  clear n_
  have n_ := Aside0.mk (blk_below (g := gx0) (o := .cells #[.int .i64 (x0.1), .slice A1x0 (x0.2.1).length c1x0, .slice A2x0 (x0.2.2.1).length c2x0, .slice A3x0 (x0.2.2.2).length c3x0] 50 (0, 0)) BKx0.out gg)
  clear BKx0
  have BKx0 := n_
  clear n_
  clear gg
  have hcgp00 : w10.cell? ⟨gp0, 0, none⟩ = some (.int .i64 (x0.1)) := (blk_cell BKp0.out 0).trans rfl
  have hfgp00 := blk_frozen BKp0.out 0
  have hcgp01 : w10.cell? ⟨gp0, 1, none⟩ = some (.slice A1p0 (x0.2.1).length c1p0) := (blk_cell BKp0.out 1).trans rfl
  have hfgp01 := blk_frozen BKp0.out 1
  have hcgp02 : w10.cell? ⟨gp0, 2, none⟩ = some (.slice A2p0 (x0.2.2.1).length c2p0) := (blk_cell BKp0.out 2).trans rfl
  have hfgp02 := blk_frozen BKp0.out 2
  have hcgp03 : w10.cell? ⟨gp0, 3, none⟩ = some (.slice A3p0 (x0.2.2.2).length c3p0) := (blk_cell BKp0.out 3).trans rfl
  have hfgp03 := blk_frozen BKp0.out 3
  have hcgx00 : w10.cell? ⟨gx0, 0, none⟩ = some (.int .i64 (x0.1)) := (blk_cell BKx0.out 0).trans rfl
  have hfgx00 := blk_frozen BKx0.out 0
  have hcgx01 : w10.cell? ⟨gx0, 1, none⟩ = some (.slice A1x0 (x0.2.1).length c1x0) := (blk_cell BKx0.out 1).trans rfl
  have hfgx01 := blk_frozen BKx0.out 1
  have hcgx02 : w10.cell? ⟨gx0, 2, none⟩ = some (.slice A2x0 (x0.2.2.1).length c2x0) := (blk_cell BKx0.out 2).trans rfl
  have hfgx02 := blk_frozen BKx0.out 2
  have hcgx03 : w10.cell? ⟨gx0, 3, none⟩ = some (.slice A3x0 (x0.2.2.2).length c3x0) := (blk_cell BKx0.out 3).trans rfl
  have hfgx03 := blk_frozen BKx0.out 3
  go_wp2_with fail
  go_at_call 35
  refine (HelpSeg.mark_calls x0 (.agg #[.int .i64 (x0.1), .slice A1x0 (x0.2.1).length c1x0, .slice A2x0 (x0.2.2.1).length c2x0, .slice A3x0 (x0.2.2.2).length c3x0]) _ (1) w4 _ GGw10.out X0.out (by omega) (by omega) B0.out).mono ?_
  rintro e w11 ⟨rfl, hm, hb, hkp⟩
  clear hcgp00 hfgp00 hcgp01 hfgp01 hcgp02 hfgp02 hcgp03 hfgp03 hcgx00 hfgx00 hcgx01 hfgx01 hcgx02 hfgx02 hcgx03 hfgx03
  have GGw11 := Aside0.mk (show Grew w4 w11 from hb)
  have Gw11 := Aside0.mk (show Grew w w11 from grew_trans Gw4.out hb)
  have Ew11 := Aside0.mk hkp.1
  have n_ := Aside0.mk (Ty.M_kept Y.out hkp (fun k hk hs => by have a1_ := hk.1; have a2_ := hk.2; have a3_ := hs.1; have a4_ := hs.2; have e0_ := Ew1.out; have e1_ := PGp0.out; have e2_ := PLp0.out; have e3_ := Ew2.out; have e4_ := Ew3.out; have e5_ := Ew4.out; have e6_ := Ew5.out; have e7_ := Ew6.out; have e8_ := PGx0.out; have e9_ := PLx0.out; have e10_ := Ew7.out; have e11_ := Ew8.out; have e12_ := Ew10.out; have e13_ := Ew11.out; omega))
  clear Y
  have Y := n_
  clear n_
  have n_ := Aside0.mk (show w11.heap[gp0]? = some (.cells #[.int .i64 (x0.1), .slice A1p0 (x0.2.1).length c1p0, .slice A2p0 (x0.2.2.1).length c2p0, .slice A3p0 (x0.2.2.2).length c3p0] 44 (0, 0)) from (hkp.2 gp0 (blk_lt BKp0.out) (fun hk => by have a1_ := hk.1; have a2_ := hk.2; have e0_ := Ew1.out; have e1_ := PGp0.out; have e2_ := PLp0.out; have e3_ := Ew2.out; have e4_ := Ew3.out; have e5_ := Ew4.out; have e6_ := Ew5.out; have e7_ := Ew6.out; have e8_ := PGx0.out; have e9_ := PLx0.out; have e10_ := Ew7.out; have e11_ := Ew8.out; have e12_ := Ew10.out; have e13_ := Ew11.out; omega)).trans BKp0.out)
  clear BKp0
  have BKp0 := n_
  clear n_
  have n_ := Aside0.mk (show w11.heap[gx0]? = some (.cells #[.int .i64 (x0.1), .slice A1x0 (x0.2.1).length c1x0, .slice A2x0 (x0.2.2.1).length c2x0, .slice A3x0 (x0.2.2.2).length c3x0] 50 (0, 0)) from (hkp.2 gx0 (blk_lt BKx0.out) (fun hk => by have a1_ := hk.1; have a2_ := hk.2; have e0_ := Ew1.out; have e1_ := PGp0.out; have e2_ := PLp0.out; have e3_ := Ew2.out; have e4_ := Ew3.out; have e5_ := Ew4.out; have e6_ := Ew5.out; have e7_ := Ew6.out; have e8_ := PGx0.out; have e9_ := PLx0.out; have e10_ := Ew7.out; have e11_ := Ew8.out; have e12_ := Ew10.out; have e13_ := Ew11.out; omega)).trans BKx0.out)
  clear BKx0
  have BKx0 := n_
  clear n_
  have N_ := Aside0.mk hm
  clear hm hb hkp X0
  clear N_
  have hcgp00 : w11.cell? ⟨gp0, 0, none⟩ = some (.int .i64 (x0.1)) := (blk_cell BKp0.out 0).trans rfl
  have hfgp00 := blk_frozen BKp0.out 0
  have hcgp01 : w11.cell? ⟨gp0, 1, none⟩ = some (.slice A1p0 (x0.2.1).length c1p0) := (blk_cell BKp0.out 1).trans rfl
  have hfgp01 := blk_frozen BKp0.out 1
  have hcgp02 : w11.cell? ⟨gp0, 2, none⟩ = some (.slice A2p0 (x0.2.2.1).length c2p0) := (blk_cell BKp0.out 2).trans rfl
  have hfgp02 := blk_frozen BKp0.out 2
  have hcgp03 : w11.cell? ⟨gp0, 3, none⟩ = some (.slice A3p0 (x0.2.2.2).length c3p0) := (blk_cell BKp0.out 3).trans rfl
  have hfgp03 := blk_frozen BKp0.out 3
  have hcgx00 : w11.cell? ⟨gx0, 0, none⟩ = some (.int .i64 (x0.1)) := (blk_cell BKx0.out 0).trans rfl
  have hfgx00 := blk_frozen BKx0.out 0
  have hcgx01 : w11.cell? ⟨gx0, 1, none⟩ = some (.slice A1x0 (x0.2.1).length c1x0) := (blk_cell BKx0.out 1).trans rfl
  have hfgx01 := blk_frozen BKx0.out 1
  have hcgx02 : w11.cell? ⟨gx0, 2, none⟩ = some (.slice A2x0 (x0.2.2.1).length c2x0) := (blk_cell BKx0.out 2).trans rfl
  have hfgx02 := blk_frozen BKx0.out 2
  have hcgx03 : w11.cell? ⟨gx0, 3, none⟩ = some (.slice A3x0 (x0.2.2.2).length c3x0) := (blk_cell BKx0.out 3).trans rfl
  have hfgx03 := blk_frozen BKx0.out 3
  go_wp2_with fail
  go_at_call 23
  refine (HelpB.eq_calls R (g) (v) _ (HelpB.tB.K_of_M Y.out) (HelpB.tB.K_below GGw11.out W.out) RB.out.1).mono ?_
  rintro e w12 ⟨rfl, gg⟩
  clear hcgp00 hfgp00 hcgp01 hfgp01 hcgp02 hfgp02 hcgp03 hfgp03 hcgx00 hfgx00 hcgx01 hfgx01 hcgx02 hfgx02 hcgx03 hfgx03
  have Gw12 := Aside0.mk (show Grew w w12 from grew_trans (Gw11.out) gg)
  have Ew12 := Aside0.mk gg.size
  have GGw12 := Aside0.mk (show Grew w4 w12 from grew_trans GGw11.out gg)
  have n_ := Aside0.mk (Ty.M_below Y.out gg)
  clear Y
  have Y := n_
  clear n_
  have n_ := Aside0.mk (blk_below (g := gp0) (o := .cells #[.int .i64 (x0.1), .slice A1p0 (x0.2.1).length c1p0, .slice A2p0 (x0.2.2.1).length c2p0, .slice A3p0 (x0.2.2.2).length c3p0] 44 (0, 0)) BKp0.out gg)
  clear BKp0
  have BKp0 := n_
  clear n_
  have n_ := Aside0.mk (blk_below (g := gx0) (o := .cells #[.int .i64 (x0.1), .slice A1x0 (x0.2.1).length c1x0, .slice A2x0 (x0.2.2.1).length c2x0, .slice A3x0 (x0.2.2.2).length c3x0] 50 (0, 0)) BKx0.out gg)
  clear BKx0
  have BKx0 := n_
  clear n_
  clear gg
  have hcgp00 : w12.cell? ⟨gp0, 0, none⟩ = some (.int .i64 (x0.1)) := (blk_cell BKp0.out 0).trans rfl
  have hfgp00 := blk_frozen BKp0.out 0
  have hcgp01 : w12.cell? ⟨gp0, 1, none⟩ = some (.slice A1p0 (x0.2.1).length c1p0) := (blk_cell BKp0.out 1).trans rfl
  have hfgp01 := blk_frozen BKp0.out 1
  have hcgp02 : w12.cell? ⟨gp0, 2, none⟩ = some (.slice A2p0 (x0.2.2.1).length c2p0) := (blk_cell BKp0.out 2).trans rfl
  have hfgp02 := blk_frozen BKp0.out 2
  have hcgp03 : w12.cell? ⟨gp0, 3, none⟩ = some (.slice A3p0 (x0.2.2.2).length c3p0) := (blk_cell BKp0.out 3).trans rfl
  have hfgp03 := blk_frozen BKp0.out 3
  have hcgx00 : w12.cell? ⟨gx0, 0, none⟩ = some (.int .i64 (x0.1)) := (blk_cell BKx0.out 0).trans rfl
  have hfgx00 := blk_frozen BKx0.out 0
  have hcgx01 : w12.cell? ⟨gx0, 1, none⟩ = some (.slice A1x0 (x0.2.1).length c1x0) := (blk_cell BKx0.out 1).trans rfl
  have hfgx01 := blk_frozen BKx0.out 1
  have hcgx02 : w12.cell? ⟨gx0, 2, none⟩ = some (.slice A2x0 (x0.2.2.1).length c2x0) := (blk_cell BKx0.out 2).trans rfl
  have hfgx02 := blk_frozen BKx0.out 2
  have hcgx03 : w12.cell? ⟨gx0, 3, none⟩ = some (.slice A3x0 (x0.2.2.2).length c3x0) := (blk_cell BKx0.out 3).trans rfl
  have hfgx03 := blk_frozen BKx0.out 3
  go_wp2_with fail
  go_at_call 24
  refine (HelpB.mark_calls R (g) _ (1) w4 _ GGw12.out Y.out (by omega) (by omega) RB.out.1).mono ?_
  rintro e w13 ⟨rfl, hm, hb, hkp⟩
  clear hcgp00 hfgp00 hcgp01 hfgp01 hcgp02 hfgp02 hcgp03 hfgp03 hcgx00 hfgx00 hcgx01 hfgx01 hcgx02 hfgx02 hcgx03 hfgx03
  have GGw13 := Aside0.mk (show Grew w4 w13 from hb)
  have Gw13 := Aside0.mk (show Grew w w13 from grew_trans Gw4.out hb)
  have Ew13 := Aside0.mk hkp.1
  have n_ := Aside0.mk (show w13.heap[gp0]? = some (.cells #[.int .i64 (x0.1), .slice A1p0 (x0.2.1).length c1p0, .slice A2p0 (x0.2.2.1).length c2p0, .slice A3p0 (x0.2.2.2).length c3p0] 44 (0, 0)) from (hkp.2 gp0 (blk_lt BKp0.out) (fun hk => by have a1_ := hk.1; have a2_ := hk.2; have e0_ := Ew1.out; have e1_ := PGp0.out; have e2_ := PLp0.out; have e3_ := Ew2.out; have e4_ := Ew3.out; have e5_ := Ew4.out; have e6_ := Ew5.out; have e7_ := Ew6.out; have e8_ := PGx0.out; have e9_ := PLx0.out; have e10_ := Ew7.out; have e11_ := Ew8.out; have e12_ := Ew10.out; have e13_ := Ew11.out; have e14_ := Ew12.out; have e15_ := Ew13.out; omega)).trans BKp0.out)
  clear BKp0
  have BKp0 := n_
  clear n_
  have n_ := Aside0.mk (show w13.heap[gx0]? = some (.cells #[.int .i64 (x0.1), .slice A1x0 (x0.2.1).length c1x0, .slice A2x0 (x0.2.2.1).length c2x0, .slice A3x0 (x0.2.2.2).length c3x0] 50 (0, 0)) from (hkp.2 gx0 (blk_lt BKx0.out) (fun hk => by have a1_ := hk.1; have a2_ := hk.2; have e0_ := Ew1.out; have e1_ := PGp0.out; have e2_ := PLp0.out; have e3_ := Ew2.out; have e4_ := Ew3.out; have e5_ := Ew4.out; have e6_ := Ew5.out; have e7_ := Ew6.out; have e8_ := PGx0.out; have e9_ := PLx0.out; have e10_ := Ew7.out; have e11_ := Ew8.out; have e12_ := Ew10.out; have e13_ := Ew11.out; have e14_ := Ew12.out; have e15_ := Ew13.out; omega)).trans BKx0.out)
  clear BKx0
  have BKx0 := n_
  clear n_
  have N_ := Aside0.mk hm
  clear hm hb hkp Y
  have Y := N_
  clear N_
  have hcgp00 : w13.cell? ⟨gp0, 0, none⟩ = some (.int .i64 (x0.1)) := (blk_cell BKp0.out 0).trans rfl
  have hfgp00 := blk_frozen BKp0.out 0
  have hcgp01 : w13.cell? ⟨gp0, 1, none⟩ = some (.slice A1p0 (x0.2.1).length c1p0) := (blk_cell BKp0.out 1).trans rfl
  have hfgp01 := blk_frozen BKp0.out 1
  have hcgp02 : w13.cell? ⟨gp0, 2, none⟩ = some (.slice A2p0 (x0.2.2.1).length c2p0) := (blk_cell BKp0.out 2).trans rfl
  have hfgp02 := blk_frozen BKp0.out 2
  have hcgp03 : w13.cell? ⟨gp0, 3, none⟩ = some (.slice A3p0 (x0.2.2.2).length c3p0) := (blk_cell BKp0.out 3).trans rfl
  have hfgp03 := blk_frozen BKp0.out 3
  have hcgx00 : w13.cell? ⟨gx0, 0, none⟩ = some (.int .i64 (x0.1)) := (blk_cell BKx0.out 0).trans rfl
  have hfgx00 := blk_frozen BKx0.out 0
  have hcgx01 : w13.cell? ⟨gx0, 1, none⟩ = some (.slice A1x0 (x0.2.1).length c1x0) := (blk_cell BKx0.out 1).trans rfl
  have hfgx01 := blk_frozen BKx0.out 1
  have hcgx02 : w13.cell? ⟨gx0, 2, none⟩ = some (.slice A2x0 (x0.2.2.1).length c2x0) := (blk_cell BKx0.out 2).trans rfl
  have hfgx02 := blk_frozen BKx0.out 2
  have hcgx03 : w13.cell? ⟨gx0, 3, none⟩ = some (.slice A3x0 (x0.2.2.2).length c3x0) := (blk_cell BKx0.out 3).trans rfl
  have hfgx03 := blk_frozen BKx0.out 3
  go_wp2_with fail
  go_at_call 50
  refine (HelpB.held_calls R (g) 1 _ (HelpB.tB.K_of_M Y.out) (by omega) (by omega) RB.out.1).mono ?_
  rintro e w14 ⟨rfl, gg⟩
  clear hcgp00 hfgp00 hcgp01 hfgp01 hcgp02 hfgp02 hcgp03 hfgp03 hcgx00 hfgx00 hcgx01 hfgx01 hcgx02 hfgx02 hcgx03 hfgx03
  have Gw14 := Aside0.mk (show Grew w w14 from grew_trans (Gw13.out) gg)
  have Ew14 := Aside0.mk gg.size
  have GGw14 := Aside0.mk (show Grew w4 w14 from grew_trans GGw13.out gg)
  have n_ := Aside0.mk (Ty.M_below Y.out gg)
  clear Y
  have Y := n_
  clear n_
  have n_ := Aside0.mk (blk_below (g := gp0) (o := .cells #[.int .i64 (x0.1), .slice A1p0 (x0.2.1).length c1p0, .slice A2p0 (x0.2.2.1).length c2p0, .slice A3p0 (x0.2.2.2).length c3p0] 44 (0, 0)) BKp0.out gg)
  clear BKp0
  have BKp0 := n_
  clear n_
  have n_ := Aside0.mk (blk_below (g := gx0) (o := .cells #[.int .i64 (x0.1), .slice A1x0 (x0.2.1).length c1x0, .slice A2x0 (x0.2.2.1).length c2x0, .slice A3x0 (x0.2.2.2).length c3x0] 50 (0, 0)) BKx0.out gg)
  clear BKx0
  have BKx0 := n_
  clear n_
  clear gg
  have hcgp00 : w14.cell? ⟨gp0, 0, none⟩ = some (.int .i64 (x0.1)) := (blk_cell BKp0.out 0).trans rfl
  have hfgp00 := blk_frozen BKp0.out 0
  have hcgp01 : w14.cell? ⟨gp0, 1, none⟩ = some (.slice A1p0 (x0.2.1).length c1p0) := (blk_cell BKp0.out 1).trans rfl
  have hfgp01 := blk_frozen BKp0.out 1
  have hcgp02 : w14.cell? ⟨gp0, 2, none⟩ = some (.slice A2p0 (x0.2.2.1).length c2p0) := (blk_cell BKp0.out 2).trans rfl
  have hfgp02 := blk_frozen BKp0.out 2
  have hcgp03 : w14.cell? ⟨gp0, 3, none⟩ = some (.slice A3p0 (x0.2.2.2).length c3p0) := (blk_cell BKp0.out 3).trans rfl
  have hfgp03 := blk_frozen BKp0.out 3
  have hcgx00 : w14.cell? ⟨gx0, 0, none⟩ = some (.int .i64 (x0.1)) := (blk_cell BKx0.out 0).trans rfl
  have hfgx00 := blk_frozen BKx0.out 0
  have hcgx01 : w14.cell? ⟨gx0, 1, none⟩ = some (.slice A1x0 (x0.2.1).length c1x0) := (blk_cell BKx0.out 1).trans rfl
  have hfgx01 := blk_frozen BKx0.out 1
  have hcgx02 : w14.cell? ⟨gx0, 2, none⟩ = some (.slice A2x0 (x0.2.2.1).length c2x0) := (blk_cell BKx0.out 2).trans rfl
  have hfgx02 := blk_frozen BKx0.out 2
  have hcgx03 : w14.cell? ⟨gx0, 3, none⟩ = some (.slice A3x0 (x0.2.2.2).length c3x0) := (blk_cell BKx0.out 3).trans rfl
  have hfgx03 := blk_frozen BKx0.out 3
  go_wp2_with fail
  go_at_call 30
  refine (HelpSeg.to_calls x0 (.agg #[.int .i64 (x0.1), .slice A1p0 (x0.2.1).length c1p0, .slice A2p0 (x0.2.2.1).length c2p0, .slice A3p0 (x0.2.2.2).length c3p0]) _ (HelpSeg.tSeg.K_below (Gw14.out) K0.out) B0.out).mono ?_
  rintro e w15 ⟨y0, rfl, hy_, gg⟩
  clear hcgp00 hfgp00 hcgp01 hfgp01 hcgp02 hfgp02 hcgp03 hfgp03 hcgx00 hfgx00 hcgx01 hfgx01 hcgx02 hfgx02 hcgx03 hfgx03
  have Gw15 := Aside0.mk (show Grew w w15 from grew_trans (Gw14.out) gg)
  have Ew15 := Aside0.mk gg.size
  have GGw15 := Aside0.mk (show Grew w4 w15 from grew_trans GGw14.out gg)
  have n_ := Aside0.mk (Ty.M_below Y.out gg)
  clear Y
  have Y := n_
  clear n_
  have n_ := Aside0.mk (blk_below (g := gp0) (o := .cells #[.int .i64 (x0.1), .slice A1p0 (x0.2.1).length c1p0, .slice A2p0 (x0.2.2.1).length c2p0, .slice A3p0 (x0.2.2.2).length c3p0] 44 (0, 0)) BKp0.out gg)
  clear BKp0
  have BKp0 := n_
  clear n_
  have n_ := Aside0.mk (blk_below (g := gx0) (o := .cells #[.int .i64 (x0.1), .slice A1x0 (x0.2.1).length c1x0, .slice A2x0 (x0.2.2.1).length c2x0, .slice A3x0 (x0.2.2.2).length c3x0] 50 (0, 0)) BKx0.out gg)
  clear BKx0
  have BKx0 := n_
  clear n_
  have D0 := Aside0.mk hy_
  clear hy_
  clear gg
  have hcgp00 : w15.cell? ⟨gp0, 0, none⟩ = some (.int .i64 (x0.1)) := (blk_cell BKp0.out 0).trans rfl
  have hfgp00 := blk_frozen BKp0.out 0
  have hcgp01 : w15.cell? ⟨gp0, 1, none⟩ = some (.slice A1p0 (x0.2.1).length c1p0) := (blk_cell BKp0.out 1).trans rfl
  have hfgp01 := blk_frozen BKp0.out 1
  have hcgp02 : w15.cell? ⟨gp0, 2, none⟩ = some (.slice A2p0 (x0.2.2.1).length c2p0) := (blk_cell BKp0.out 2).trans rfl
  have hfgp02 := blk_frozen BKp0.out 2
  have hcgp03 : w15.cell? ⟨gp0, 3, none⟩ = some (.slice A3p0 (x0.2.2.2).length c3p0) := (blk_cell BKp0.out 3).trans rfl
  have hfgp03 := blk_frozen BKp0.out 3
  have hcgx00 : w15.cell? ⟨gx0, 0, none⟩ = some (.int .i64 (x0.1)) := (blk_cell BKx0.out 0).trans rfl
  have hfgx00 := blk_frozen BKx0.out 0
  have hcgx01 : w15.cell? ⟨gx0, 1, none⟩ = some (.slice A1x0 (x0.2.1).length c1x0) := (blk_cell BKx0.out 1).trans rfl
  have hfgx01 := blk_frozen BKx0.out 1
  have hcgx02 : w15.cell? ⟨gx0, 2, none⟩ = some (.slice A2x0 (x0.2.2.1).length c2x0) := (blk_cell BKx0.out 2).trans rfl
  have hfgx02 := blk_frozen BKx0.out 2
  have hcgx03 : w15.cell? ⟨gx0, 3, none⟩ = some (.slice A3x0 (x0.2.2.2).length c3x0) := (blk_cell BKx0.out 3).trans rfl
  have hfgx03 := blk_frozen BKx0.out 3
  go_wp2_with fail
  go_at_call 49
  refine (implC x0 y0 _ (HelpSeg.tSeg.K_of_M D0.out) S0.out Ahb.out).mono ?_
  rintro e w16 ⟨h, rfl, hm, gg⟩
  clear hcgp00 hfgp00 hcgp01 hfgp01 hcgp02 hfgp02 hcgp03 hfgp03 hcgx00 hfgx00 hcgx01 hfgx01 hcgx02 hfgx02 hcgx03 hfgx03
  have Gw16 := Aside0.mk (show Grew w w16 from grew_trans (Gw15.out) gg)
  have Ew16 := Aside0.mk gg.size
  have GGw16 := Aside0.mk (show Grew w4 w16 from grew_trans GGw15.out gg)
  have n_ := Aside0.mk (Ty.M_below Y.out gg)
  clear Y
  have Y := n_
  clear n_
  have n_ := Aside0.mk (Ty.M_below D0.out gg)
  clear D0
  have D0 := n_
  clear n_
  have n_ := Aside0.mk (blk_below (g := gp0) (o := .cells #[.int .i64 (x0.1), .slice A1p0 (x0.2.1).length c1p0, .slice A2p0 (x0.2.2.1).length c2p0, .slice A3p0 (x0.2.2.2).length c3p0] 44 (0, 0)) BKp0.out gg)
  clear BKp0
  have BKp0 := n_
  clear n_
  have n_ := Aside0.mk (blk_below (g := gx0) (o := .cells #[.int .i64 (x0.1), .slice A1x0 (x0.2.1).length c1x0, .slice A2x0 (x0.2.2.1).length c2x0, .slice A3x0 (x0.2.2.2).length c3x0] 50 (0, 0)) BKx0.out gg)
  clear BKx0
  have BKx0 := n_
  clear n_
  rw [HR.out] at hm
  have H := Aside0.mk hm
  clear hm
  clear gg
  clear D0
  have hcgp00 : w16.cell? ⟨gp0, 0, none⟩ = some (.int .i64 (x0.1)) := (blk_cell BKp0.out 0).trans rfl
  have hfgp00 := blk_frozen BKp0.out 0
  have hcgp01 : w16.cell? ⟨gp0, 1, none⟩ = some (.slice A1p0 (x0.2.1).length c1p0) := (blk_cell BKp0.out 1).trans rfl
  have hfgp01 := blk_frozen BKp0.out 1
  have hcgp02 : w16.cell? ⟨gp0, 2, none⟩ = some (.slice A2p0 (x0.2.2.1).length c2p0) := (blk_cell BKp0.out 2).trans rfl
  have hfgp02 := blk_frozen BKp0.out 2
  have hcgp03 : w16.cell? ⟨gp0, 3, none⟩ = some (.slice A3p0 (x0.2.2.2).length c3p0) := (blk_cell BKp0.out 3).trans rfl
  have hfgp03 := blk_frozen BKp0.out 3
  have hcgx00 : w16.cell? ⟨gx0, 0, none⟩ = some (.int .i64 (x0.1)) := (blk_cell BKx0.out 0).trans rfl
  have hfgx00 := blk_frozen BKx0.out 0
  have hcgx01 : w16.cell? ⟨gx0, 1, none⟩ = some (.slice A1x0 (x0.2.1).length c1x0) := (blk_cell BKx0.out 1).trans rfl
  have hfgx01 := blk_frozen BKx0.out 1
  have hcgx02 : w16.cell? ⟨gx0, 2, none⟩ = some (.slice A2x0 (x0.2.2.1).length c2x0) := (blk_cell BKx0.out 2).trans rfl
  have hfgx02 := blk_frozen BKx0.out 2
  have hcgx03 : w16.cell? ⟨gx0, 3, none⟩ = some (.slice A3x0 (x0.2.2.2).length c3x0) := (blk_cell BKx0.out 3).trans rfl
  have hfgx03 := blk_frozen BKx0.out 3
  go_wp2_with fail
  go_at_call 23
  refine (HelpB.eq_calls R (h) (v) _ (HelpB.tB.K_of_M H.out) (HelpB.tB.K_below GGw16.out W.out) RB.out.1).mono ?_
  rintro e w17 ⟨rfl, gg⟩
  clear hcgp00 hfgp00 hcgp01 hfgp01 hcgp02 hfgp02 hcgp03 hfgp03 hcgx00 hfgx00 hcgx01 hfgx01 hcgx02 hfgx02 hcgx03 hfgx03
  have Gw17 := Aside0.mk (show Grew w w17 from grew_trans (Gw16.out) gg)
  have Ew17 := Aside0.mk gg.size
  have GGw17 := Aside0.mk (show Grew w4 w17 from grew_trans GGw16.out gg)
  have n_ := Aside0.mk (Ty.M_below Y.out gg)
  clear Y
  have Y := n_
  clear n_
  have n_ := Aside0.mk (Ty.M_below H.out gg)
  clear H
  have H := n_
  clear n_
  have n_ := Aside0.mk (blk_below (g := gp0) (o := .cells #[.int .i64 (x0.1), .slice A1p0 (x0.2.1).length c1p0, .slice A2p0 (x0.2.2.1).length c2p0, .slice A3p0 (x0.2.2.2).length c3p0] 44 (0, 0)) BKp0.out gg)
  clear BKp0
  have BKp0 := n_
  clear n_
  have n_ := Aside0.mk (blk_below (g := gx0) (o := .cells #[.int .i64 (x0.1), .slice A1x0 (x0.2.1).length c1x0, .slice A2x0 (x0.2.2.1).length c2x0, .slice A3x0 (x0.2.2.2).length c3x0] 50 (0, 0)) BKx0.out gg)
  clear BKx0
  have BKx0 := n_
  clear n_
  clear gg
  have hcgp00 : w17.cell? ⟨gp0, 0, none⟩ = some (.int .i64 (x0.1)) := (blk_cell BKp0.out 0).trans rfl
  have hfgp00 := blk_frozen BKp0.out 0
  have hcgp01 : w17.cell? ⟨gp0, 1, none⟩ = some (.slice A1p0 (x0.2.1).length c1p0) := (blk_cell BKp0.out 1).trans rfl
  have hfgp01 := blk_frozen BKp0.out 1
  have hcgp02 : w17.cell? ⟨gp0, 2, none⟩ = some (.slice A2p0 (x0.2.2.1).length c2p0) := (blk_cell BKp0.out 2).trans rfl
  have hfgp02 := blk_frozen BKp0.out 2
  have hcgp03 : w17.cell? ⟨gp0, 3, none⟩ = some (.slice A3p0 (x0.2.2.2).length c3p0) := (blk_cell BKp0.out 3).trans rfl
  have hfgp03 := blk_frozen BKp0.out 3
  have hcgx00 : w17.cell? ⟨gx0, 0, none⟩ = some (.int .i64 (x0.1)) := (blk_cell BKx0.out 0).trans rfl
  have hfgx00 := blk_frozen BKx0.out 0
  have hcgx01 : w17.cell? ⟨gx0, 1, none⟩ = some (.slice A1x0 (x0.2.1).length c1x0) := (blk_cell BKx0.out 1).trans rfl
  have hfgx01 := blk_frozen BKx0.out 1
  have hcgx02 : w17.cell? ⟨gx0, 2, none⟩ = some (.slice A2x0 (x0.2.2.1).length c2x0) := (blk_cell BKx0.out 2).trans rfl
  have hfgx02 := blk_frozen BKx0.out 2
  have hcgx03 : w17.cell? ⟨gx0, 3, none⟩ = some (.slice A3x0 (x0.2.2.2).length c3x0) := (blk_cell BKx0.out 3).trans rfl
  have hfgx03 := blk_frozen BKx0.out 3
  go_wp2_with fail
  go_at_call 50
  refine (HelpB.held_calls R (g) 1 _ (HelpB.tB.K_of_M Y.out) (by omega) (by omega) RB.out.1).mono ?_
  rintro e w18 ⟨rfl, gg⟩
  clear hcgp00 hfgp00 hcgp01 hfgp01 hcgp02 hfgp02 hcgp03 hfgp03 hcgx00 hfgx00 hcgx01 hfgx01 hcgx02 hfgx02 hcgx03 hfgx03
  have Gw18 := Aside0.mk (show Grew w w18 from grew_trans (Gw17.out) gg)
  have Ew18 := Aside0.mk gg.size
  have GGw18 := Aside0.mk (show Grew w4 w18 from grew_trans GGw17.out gg)
  have n_ := Aside0.mk (Ty.M_below Y.out gg)
  clear Y
  have Y := n_
  clear n_
  have n_ := Aside0.mk (Ty.M_below H.out gg)
  clear H
  have H := n_
  clear n_
  have n_ := Aside0.mk (blk_below (g := gp0) (o := .cells #[.int .i64 (x0.1), .slice A1p0 (x0.2.1).length c1p0, .slice A2p0 (x0.2.2.1).length c2p0, .slice A3p0 (x0.2.2.2).length c3p0] 44 (0, 0)) BKp0.out gg)
  clear BKp0
  have BKp0 := n_
  clear n_
  have n_ := Aside0.mk (blk_below (g := gx0) (o := .cells #[.int .i64 (x0.1), .slice A1x0 (x0.2.1).length c1x0, .slice A2x0 (x0.2.2.1).length c2x0, .slice A3x0 (x0.2.2.2).length c3x0] 50 (0, 0)) BKx0.out gg)
  clear BKx0
  have BKx0 := n_
  clear n_
  clear gg
  have hcgp00 : w18.cell? ⟨gp0, 0, none⟩ = some (.int .i64 (x0.1)) := (blk_cell BKp0.out 0).trans rfl
  have hfgp00 := blk_frozen BKp0.out 0
  have hcgp01 : w18.cell? ⟨gp0, 1, none⟩ = some (.slice A1p0 (x0.2.1).length c1p0) := (blk_cell BKp0.out 1).trans rfl
  have hfgp01 := blk_frozen BKp0.out 1
  have hcgp02 : w18.cell? ⟨gp0, 2, none⟩ = some (.slice A2p0 (x0.2.2.1).length c2p0) := (blk_cell BKp0.out 2).trans rfl
  have hfgp02 := blk_frozen BKp0.out 2
  have hcgp03 : w18.cell? ⟨gp0, 3, none⟩ = some (.slice A3p0 (x0.2.2.2).length c3p0) := (blk_cell BKp0.out 3).trans rfl
  have hfgp03 := blk_frozen BKp0.out 3
  have hcgx00 : w18.cell? ⟨gx0, 0, none⟩ = some (.int .i64 (x0.1)) := (blk_cell BKx0.out 0).trans rfl
  have hfgx00 := blk_frozen BKx0.out 0
  have hcgx01 : w18.cell? ⟨gx0, 1, none⟩ = some (.slice A1x0 (x0.2.1).length c1x0) := (blk_cell BKx0.out 1).trans rfl
  have hfgx01 := blk_frozen BKx0.out 1
  have hcgx02 : w18.cell? ⟨gx0, 2, none⟩ = some (.slice A2x0 (x0.2.2.1).length c2x0) := (blk_cell BKx0.out 2).trans rfl
  have hfgx02 := blk_frozen BKx0.out 2
  have hcgx03 : w18.cell? ⟨gx0, 3, none⟩ = some (.slice A3x0 (x0.2.2.2).length c3x0) := (blk_cell BKx0.out 3).trans rfl
  have hfgx03 := blk_frozen BKx0.out 3
  go_wp2
  go_ret
  exact ⟨rfl, Gw18.out⟩
end Go.Proofs.Ytmgmdnmfalepkaa.LawEnc
