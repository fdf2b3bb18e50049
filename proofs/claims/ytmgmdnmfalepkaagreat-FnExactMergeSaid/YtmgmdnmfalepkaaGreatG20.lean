/- Parts of the proof (see the row's own text): MerI, LawMer. -/
import Derived.Test.YtmgmdnmfalepkaaGreatG00
import Derived.Test.YtmgmdnmfalepkaaGreatG18
import Derived.Test.YtmgmdnmfalepkaaGreatG19
import Derived.Test.YtmgmdnmfalepkaaGreatG5
import Derived.Deep.RegionHeld3
import Derived.Deep.DeepCutAuto
namespace Go.Proofs.YtmgmdnmfalepkaaGreat.Mer
open Go.RowKit Go.Proofs.YtmgmdnmfalepkaaGreatW.PrintWords Go.Proofs.YtmgmdnmfalepkaaGreatW.PrintMore Go.Proofs.YtmgmdnmfalepkaaGreat.Kit Go.Proofs.YtmgmdnmfalepkaaGreat.PKit Go.Proofs.YtmgmdnmfalepkaaGreat.Ty Go.Proofs.YtmgmdnmfalepkaaGreat.PTri Go.Proofs.YtmgmdnmfalepkaaGreat.PSeg Go.Proofs.YtmgmdnmfalepkaaGreat.PEnc Go.Proofs.YtmgmdnmfalepkaaGreat.PDec Go.Proofs.YtmgmdnmfalepkaaGreat.PSta Go.Proofs.YtmgmdnmfalepkaaGreat.HelpBB Go.Proofs.YtmgmdnmfalepkaaGreat.HelpSeg
open Go.Proofs.YtmgmdnmfalepkaaGreat.Build hiding code ans
open Go.Proofs.YtmgmdnmfalepkaaGreat.Sto Go.Proofs.YtmgmdnmfalepkaaGreat.Rep
set_option linter.unusedVariables false
set_option linter.unusedSimpArgs false
theorem cells1 {w : World} {g : Nat} {t : TypeId} {a0 : Value} (h : w.heap[g]? = some (.cells #[a0] t (0, 0))) : (w.cell? ⟨g, 0, none⟩ = some a0 ∧ w.frozen? ⟨g, 0, none⟩ = false) := ⟨(blk_cell h 0).trans rfl, blk_frozen h 0⟩
set_option maxRecDepth 100000 in
set_option maxHeartbeats 4000000 in
theorem merge_step (x : StaT) (k : Int) (hk0 : -9223372036854775808 ≤ k) (hk1 : k ≤ 9223372036854775807) (gt : Nat) (w w0 : World) (hgt : w.heap[gt]? = some (.cells #[.int .i64 k] 3 (0, 0))) (hw0 : Below w.heap.size w w0) :
  StepOk 36 #[.pointer (some ⟨gt, 0, none⟩)] x (mrgF x.2 k) w0 := by
 intro W gs N Av Ao cv co ss hss hgood hB hg0 hgN hNW hk hR hS
 have hBW := grew_trans hw0 hB
 have hcall := merge_calls x k hk0 hk1 w0 W gs N Av Ao cv co ss hss hgood hB hg0 hgN hNW hk hR hS
 have hc0 : W.cell? ⟨gt, 0, none⟩ = some (.int .i64 k) := (blk_cell (blk_below hgt hBW) 0).trans rfl
 clear hss hgood hB hg0 hgN hNW hk hR hS hBW hgt hw0
 show Calls Tryz.prog 36 #[.pointer (some ⟨gs, 0, none⟩), .pointer (some ⟨gt, 0, none⟩)] W _
 generalize mrgF x.2 k ss = z at hcall ⊢
 go_enter Tryz.func36, Tryz.ntmps36
 go_wp2_with (go_at_call 37; refine hcall.mono ?_; rintro e w' ⟨Bv, dv, Bo, do_, rfl, h1, h2, h3, h4, h5⟩; have H1 := zA h1; have H2 := zA h2; have H3 := zA h3; have H4 := zA h4; have H5 := zA h5; clear h1 h2 h3 h4 h5)
 go_ret
 first | exact ⟨Bv, dv, Bo, do_, rfl, H1.out, H2.out, H3.out, H4.out, H5.out⟩ | exact ⟨rfl, Bv, dv, Bo, do_, H1.out, H2.out, H3.out, H4.out, H5.out⟩
set_option maxRecDepth 100000 in
set_option maxHeartbeats 4000000 in
theorem implC (x0 : StaT) (x1 : Int) (v0 : Value) (w : World) (h0 : HelpSta.tSta.K w x0 v0) (s0 : HelpSta.smallSta x0) (y0 : Bytes x0.1) (y1 : Bytes x0.2) (hk0 : -9223372036854775808 ≤ x1) (hk1 : x1 ≤ 9223372036854775807) :
  Calls Tryz.prog 17 #[v0, .int .i64 x1] w fun e w' => ∃ v', e = .returned (.tuple #[v', .int .i64 (mer_ x0 x1).2]) ∧ HelpSta.tSta.M w' w.heap.size (fun _ => True) (mer_ x0 x1).1 v' ∧ Grew w w' := by
 have huT := Tryz.underlying27
 obtain ⟨q0, q1⟩ := HelpSta.small_parts s0
 obtain ⟨l, rfl, u0, r0, rfl, ⟨A0, c0, rfl, l0, k0⟩, u1, rfl, ⟨A1, c1, rfl, l1, k1⟩⟩ := h0
 have HCH := zA (fun (W : World) (hW : Below w.heap.size w W) (gt : Nat) (hgt : W.heap[gt]? = some (.cells #[.int .i64 x1] 3 (0, 0))) => changed_calls 36 #[.pointer (some ⟨gt, 0, none⟩)] (enters_of Tryz.func36 zq5 rfl) x0 (mrgF x0.2 x1) A0 A1 c0 c1 W (Kd.C_below k0 hW) l0 (Kd.C_below k1 hW) l1 y0 y1 q0 q1 (fun w0 hw0 => merge_step x0 x1 hk0 hk1 gt W w0 hgt hw0) (fun ss h => mer_good x0 x1 y0 q1 ss h))
 have HSE := zA (mer_chg x0 x1)
 clear k0 k1 y0 y1 s0 q0 q1
 show Calls Tryz.prog 17 #[.agg #[.slice A0 x0.1.length c0, .slice A1 x0.2.length c1], .int .i64 x1] w _
 rw [HSE.out]
 clear HSE
 generalize chg x0 (mrgF x0.2 x1) = z at HCH ⊢
 obtain ⟨⟨z1, z2⟩, cd⟩ := z
 go_enter Tryz.func17, Tryz.ntmps17
 go_wp2_with (first | ((with_reducible refine gate_dst (N := 2) rfl ?_); refine box_event ?hg (N := 2) ?hd (cs := #[.slice A0 x0.1.length c0, .slice A1 x0.2.length c1]) (t := 27) ?hr ?_; (case hd => rfl); (case hg => rfl); (case hr => first | (go_simp; done) | (go_simp; rfl)); intro gx hg_ w1 hbx hbb; have BKgx := zA hbx; have GEgx := zA (show w.heap.size ≤ gx from Nat.le_of_eq hg_.symm); have GLgx := zA (blk_lt hbx); have HBw1 := zA hbb; clear hg_ hbb; obtain ⟨⟨hgxc0, hgxf0⟩, ⟨hgxc1, hgxf1⟩⟩ := cells2 hbx; clear hbx) | ((with_reducible refine gate_dst (N := 3) rfl ?_); refine box_event ?hg (N := 3) ?hd (cs := #[.int .i64 x1]) (t := 3) ?hr ?_; (case hd => rfl); (case hg => rfl); (case hr => first | (go_simp; done) | (go_simp; rfl)); intro gt hg_ w2 hbx hbb; have BKgt := zA hbx; have GEgt := zA (show w1.heap.size ≤ gt from Nat.le_of_eq hg_.symm); have GLgt := zA (blk_lt hbx); have HBw2 := zA hbb; clear hg_ hbb; obtain ⟨hgtc0, hgtf0⟩ := cells1 hbx; clear hbx; have n_ := zA (blk_below BKgx.out HBw2.out); clear BKgx; have BKgx := n_; clear n_; clear hgxc0 hgxf0 hgxc1 hgxf1) | ((with_reducible refine gate_dst (N := 4) rfl ?_); refine box_event ?hg (N := 4) ?hd (cs := #[.slice none 0 0, .slice none 0 0]) (t := 27) ?hr ?_; (case hd => rfl); (case hg => rfl); (case hr => first | (go_simp; done) | (go_simp; rfl)); intro gr hg_ w3 hbx hbb; have BKgr := zA hbx; have GEgr := zA (show w2.heap.size ≤ gr from Nat.le_of_eq hg_.symm); have GLgr := zA (blk_lt hbx); have HBw3 := zA hbb; clear hg_ hbb; obtain ⟨⟨hgrc0, hgrf0⟩, ⟨hgrc1, hgrf1⟩⟩ := cells2 hbx; clear hbx; have n_ := zA (blk_below BKgx.out HBw3.out); clear BKgx; have BKgx := n_; clear n_; have n_ := zA (blk_below BKgt.out HBw3.out); clear BKgt; have BKgt := n_; clear n_; clear hgtc0 hgtf0; obtain ⟨⟨pc0, pf0⟩, ⟨pc1, pf1⟩⟩ := cells2 BKgx.out; obtain ⟨qc0, qf0⟩ := cells1 BKgt.out))
 have HB2 := zA (show Below w.heap.size w w3 from grew_trans (grew_trans HBw1.out HBw2.out) HBw3.out)
 have GER := zA (show w.heap.size ≤ gr from Nat.le_trans (grew_trans HBw1.out HBw2.out).size GEgr.out)
 clear hgrc0 hgrf0 hgrc1 hgrf1 pc0 pf0 pc1 pf1
 go_at_call 27
 refine (HCH.out _ HB2.out gt BKgt.out).mono ?_
 rintro e w4 ⟨v3, rfl, hM3, hb3⟩
 obtain ⟨E0, e0, E1, e1, ev⟩ := HelpSta.form (HelpSta.tSta.K_of_M hM3)
 subst ev
 have HM3 := zA hM3
 have BK3 := zA (blk_below BKgr.out hb3)
 have HB3 := zA (show Below w.heap.size w w4 from grew_trans HB2.out hb3)
 have GLR := zA (blk_lt BKgr.out)
 obtain ⟨⟨r0, rf0⟩, ⟨r1, rf1⟩⟩ := cells2 BK3.out
 clear hb3 hM3
 go_wp2
 refine bodyPost_ret (results_ct rfl _ _ gr 27 #[.slice E0 z1.length e0, .slice E1 z2.length e1] (0, 0) _ rfl (by (with_reducible repeat (first | refine blk_drewN ?_ _ | refine blk_drew ?_ | refine blk_alloc ?_ _)); refine blk_put (cs := #[.slice E0 z1.length e0, .slice none 0 0]) ?_ 1 _ rfl; (with_reducible repeat (first | refine blk_drewN ?_ _ | refine blk_drew ?_ | refine blk_alloc ?_ _)); refine blk_put (cs := #[.slice none 0 0, .slice none 0 0]) ?_ 0 _ rfl; (with_reducible repeat (first | refine blk_drewN ?_ _ | refine blk_drew ?_ | refine blk_alloc ?_ _)); exact BK3.out) Tryz.underlying27 rfl zq5) rfl ?_
 refine ⟨_, rfl, ?_, below_set (below_set (HB3.out) GER.out) GER.out⟩
 exact HelpSta.tSta.M_mono (fun _ _ => trivial) ((Ty.M_set (T := HelpSta.tSta) (Ty.M_set (T := HelpSta.tSta) (HelpSta.tSta.M_lower HB2.out.size (HelpSta.tSta.M_bound HM3.out)) (fun k hk e => by have h1 := hk.2.1; have h2 := GLR.out; omega) _) (fun k hk e => by have h1 := hk.2.1; have h2 := GLR.out; omega) _))
end Go.Proofs.YtmgmdnmfalepkaaGreat.Mer

namespace Go.Proofs.YtmgmdnmfalepkaaGreat.LawMer
open Go.RowKit Go.Proofs.YtmgmdnmfalepkaaGreatW.PrintWords Go.Proofs.YtmgmdnmfalepkaaGreatW.PrintMore Go.Proofs.YtmgmdnmfalepkaaGreat.Kit Go.Proofs.YtmgmdnmfalepkaaGreat.PKit Go.Proofs.YtmgmdnmfalepkaaGreat.Ty Go.Proofs.YtmgmdnmfalepkaaGreat.Mer Go.Proofs.YtmgmdnmfalepkaaGreat.PSeg Go.Proofs.YtmgmdnmfalepkaaGreat.PSta
set_option linter.unusedVariables false
theorem cells2 {w : World} {g : Nat} {t : TypeId} {a0 a1 : Value} (h : w.heap[g]? = some (.cells #[a0, a1] t (0, 0))) : (w.cell? ⟨g, 0, none⟩ = some a0 ∧ w.frozen? ⟨g, 0, none⟩ = false) ∧ (w.cell? ⟨g, 1, none⟩ = some a1 ∧ w.frozen? ⟨g, 1, none⟩ = false) := ⟨⟨(blk_cell h 0).trans rfl, blk_frozen h 0⟩, ⟨(blk_cell h 1).trans rfl, blk_frozen h 1⟩⟩
set_option maxRecDepth 100000 in
set_option maxHeartbeats 4000000 in
theorem law_calls (x0 : HelpSta.X) (x1 : Int) (v0 : Value) (w : World) (h0 : HelpSta.tSta.K w x0 v0) (y0 : Bytes x0.1) (y1 : Bytes x0.2) (k0 : -9223372036854775808 ≤ x1) (k1 : x1 ≤ 9223372036854775807) :
  Calls Tryz.prog 4 #[v0, .int .i64 x1] w fun e w' => e = .returned (.bool true) ∧ Below w.heap.size w w' := by
 have hu27 := Tryz.underlying27
 have hu24 := Tryz.underlying24
 obtain ⟨A0p0, c0p0, A1p0, c1p0, es_⟩ := HelpSta.form h0
 subst es_
 have K0 := zA h0
 clear h0
 have Ay0 := zA y0
 have Ay1 := zA y1
 have Ak0 := zA k0
 have Ak1 := zA k1
 clear y0 y1 k0 k1
 obtain ⟨r0, hr0, hz0⟩ := HelpSta.sz_pure x0 1048576 zq1 zq1 ⟨w, _, K0.out⟩
 by_cases q0 : r0 < 0
 ·clear hr0
  go_enter Tryz.func4, Tryz.ntmps4
  go_wp2_with (first | ((with_reducible refine gate_dst (N := 2) rfl ?_); refine box_event ?hg (N := 2) ?hd (cs := #[.slice A0p0 (x0.1).length c0p0, .slice A1p0 (x0.2).length c1p0]) (t := 24) ?hr ?_; (case hd => rfl); (case hg => rfl); (case hr => first | (go_simp; done) | (go_simp; rfl)); intro gp0 hgb w1 hbx gg; have PGp0 := zA (show w.heap.size ≤ gp0 from Nat.le_of_eq hgb.symm); have PLp0 := zA (blk_lt hbx); have BKp0 := zA hbx; clear hgb hbx; have Gw1 := zA (show Grew w w1 from grew_trans (Below.refl _ _) gg); have Ew1 := zA gg.size; clear gg; obtain ⟨⟨hcgp00, hfgp00⟩, ⟨hcgp01, hfgp01⟩⟩ := cells2 BKp0.out))
  go_at_call 6
  refine (hz0 _ (HelpSta.tSta.K_below (Gw1.out) K0.out)).mono ?_
  rintro e w2 ⟨rfl, gg⟩
  clear hcgp00 hfgp00 hcgp01 hfgp01
  have Gw2 := zA (show Grew w w2 from grew_trans (Gw1.out) gg)
  have Ew2 := zA gg.size
  replace BKp0 := zA (blk_below BKp0.out gg)
  clear gg
  obtain ⟨⟨hcgp00, hfgp00⟩, ⟨hcgp01, hfgp01⟩⟩ := cells2 BKp0.out
  go_wp2
  go_ret
  exact ⟨rfl, Gw2.out⟩
 obtain ⟨l0, m0, s0⟩ := hr0 zq1
 have S0 := zA s0
 clear s0 hr0
 have B0 := zA (HelpSta.bd_small S0.out)
 have rb := ans_small x0 x1 S0.out Ay0.out Ay1.out Ak0.out Ak1.out
 have RB := zA rb
 clear rb
 have cx0 : (HelpSta.cntSta x0 : Int) ≤ 1048576 := Int.ofNat_le.2 (HelpSta.cnt_small S0.out)
 have p1 : ¬ (1 + (HelpSta.cntSta x0 : Int) < 0) := by omega
 obtain ⟨C, hC⟩ : ∃ C, (mer_ x0 x1).2 = C := ⟨_, rfl⟩
 have HCO := zA hC
 clear hC
 generalize hR : (mer_ x0 x1).1 = R at RB
 have HR := zA hR
 clear hR
 have cr : (HelpSta.cntSta R : Int) ≤ 1099511627000 := Int.ofNat_le.2 RB.out.2
 have p2 : ¬ (1 + (HelpSta.cntSta R : Int) < 0) := by omega
 go_enter Tryz.func4, Tryz.ntmps4
 go_wp2_with (first | ((with_reducible refine gate_dst (N := 2) rfl ?_); refine box_event ?hg (N := 2) ?hd (cs := #[.slice A0p0 (x0.1).length c0p0, .slice A1p0 (x0.2).length c1p0]) (t := 24) ?hr ?_; (case hd => rfl); (case hg => rfl); (case hr => first | (go_simp; done) | (go_simp; rfl)); intro gp0 hgb w1 hbx gg; have PGp0 := zA (show w.heap.size ≤ gp0 from Nat.le_of_eq hgb.symm); have PLp0 := zA (blk_lt hbx); have BKp0 := zA hbx; clear hgb hbx; have Gw1 := zA (show Grew w w1 from grew_trans (Below.refl _ _) gg); have Ew1 := zA gg.size; clear gg; obtain ⟨⟨hcgp00, hfgp00⟩, ⟨hcgp01, hfgp01⟩⟩ := cells2 BKp0.out))
 go_at_call 6
 refine (hz0 _ (HelpSta.tSta.K_below (Gw1.out) K0.out)).mono ?_
 rintro e w2 ⟨rfl, gg⟩
 clear hcgp00 hfgp00 hcgp01 hfgp01
 have Gw2 := zA (show Grew w w2 from grew_trans (Gw1.out) gg)
 have Ew2 := zA gg.size
 replace BKp0 := zA (blk_below BKp0.out gg)
 clear gg
 obtain ⟨⟨hcgp00, hfgp00⟩, ⟨hcgp01, hfgp01⟩⟩ := cells2 BKp0.out
 go_wp2_with fail
 go_at_call 8
 refine (HelpSta.to_calls x0 (.agg #[.slice A0p0 (x0.1).length c0p0, .slice A1p0 (x0.2).length c1p0]) _ (HelpSta.tSta.K_below (Gw2.out) K0.out) B0.out).mono ?_
 rintro e w3 ⟨tT0, rfl, ht_, gg⟩
 clear hcgp00 hfgp00 hcgp01 hfgp01
 have Gw3 := zA (show Grew w w3 from grew_trans (Gw2.out) gg)
 have Ew3 := zA gg.size
 replace BKp0 := zA (blk_below BKp0.out gg)
 have T0 := zA ( ht_)
 clear ht_
 clear gg
 go_wp2_with fail
 go_at_call 16
 refine (specC x0 x1 tT0 _ (HelpSta.tSta.K_of_M T0.out) S0.out Ay0.out Ay1.out Ak0.out Ak1.out).mono ?_
 rintro e w4 ⟨v, rfl, hk, gg⟩
 have Gw4 := zA (show Grew w w4 from grew_trans (Gw3.out) gg)
 have Ew4 := zA gg.size
 replace T0 := zA (Ty.M_below T0.out gg)
 replace BKp0 := zA (blk_below BKp0.out gg)
 rw [HCO.out]
 rw [HR.out] at hk
 have W := zA hk
 clear hk
 clear gg
 clear T0
 obtain ⟨A0vw, c0vw, A1vw, c1vw, es_⟩ := HelpSta.form W.out
 subst es_
 obtain ⟨⟨hcgp00, hfgp00⟩, ⟨hcgp01, hfgp01⟩⟩ := cells2 BKp0.out
 obtain ⟨⟨hdgp00, hegp00⟩, ⟨hdgp01, hegp01⟩⟩ := cells2 (blk_alloc BKp0.out (.cells #[.slice A0vw (R.1).length c0vw, .slice A1vw (R.2).length c1vw] 27 (0, 0)))
 go_wp2_with fail
 obtain ⟨gvw, hgb⟩ : ∃ g_, g_ = w4.heap.size := ⟨_, rfl⟩
 obtain ⟨w5, hW_⟩ : ∃ w_, w_ = w4.alloc (.cells #[.slice A0vw (R.1).length c0vw, .slice A1vw (R.2).length c1vw] 27 (0, 0)) := ⟨_, rfl⟩
 rw [← hW_, ← hgb]
 have BKvw := zA (show w5.heap[gvw]? = some (.cells #[.slice A0vw (R.1).length c0vw, .slice A1vw (R.2).length c1vw] 27 (0, 0)) from by rw [hW_, hgb]; exact blk_new w4 _)
 have gg : Grew w4 w5 := by rw [hW_]; exact below_alloc (Below.refl _ _) _
 have GW_ := zA gg
 have PGvw := zA (show w4.heap.size ≤ gvw from Nat.le_of_eq hgb.symm)
 have PLvw := zA (blk_lt BKvw.out)
 clear hW_ hgb
 clear hcgp00 hfgp00 hcgp01 hfgp01 hdgp00 hegp00 hdgp01 hegp01
 have Gw5 := zA (show Grew w w5 from grew_trans (Gw4.out) gg)
 have Ew5 := zA gg.size
 replace BKp0 := zA (blk_below BKp0.out gg)
 clear gg
 have GGw5 := zA (show Grew w5 w5 from Below.refl _ _)
 have n_ := zA (HelpSta.tSta.K_below GW_.out W.out)
 clear W
 have W := n_
 clear n_
 go_at_call 8
 refine (HelpSta.to_calls x0 (.agg #[.slice A0p0 (x0.1).length c0p0, .slice A1p0 (x0.2).length c1p0]) _ (HelpSta.tSta.K_below (Gw5.out) K0.out) B0.out).mono ?_
 rintro e w6 ⟨tX0, rfl, ht_, gg⟩
 have Gw6 := zA (show Grew w w6 from grew_trans (Gw5.out) gg)
 have Ew6 := zA gg.size
 have GGw6 := zA (show Grew w5 w6 from grew_trans GGw5.out gg)
 replace BKp0 := zA (blk_below BKp0.out gg)
 replace BKvw := zA (blk_below BKvw.out gg)
 have X0 := zA (HelpSta.tSta.M_lower (GGw5.out).size (Ty.M_beyond ht_))
 clear ht_
 clear gg
 obtain ⟨A0x0, c0x0, A1x0, c1x0, es_⟩ := HelpSta.form (HelpSta.tSta.K_of_M X0.out)
 subst es_
 obtain ⟨⟨hcgp00, hfgp00⟩, ⟨hcgp01, hfgp01⟩⟩ := cells2 BKp0.out
 obtain ⟨⟨hcgvw0, hfgvw0⟩, ⟨hcgvw1, hfgvw1⟩⟩ := cells2 BKvw.out
 obtain ⟨⟨hdgp00, hegp00⟩, ⟨hdgp01, hegp01⟩⟩ := cells2 (blk_alloc BKp0.out (.cells #[.slice A0x0 (x0.1).length c0x0, .slice A1x0 (x0.2).length c1x0] 27 (0, 0)))
 obtain ⟨⟨hdgvw0, hegvw0⟩, ⟨hdgvw1, hegvw1⟩⟩ := cells2 (blk_alloc BKvw.out (.cells #[.slice A0x0 (x0.1).length c0x0, .slice A1x0 (x0.2).length c1x0] 27 (0, 0)))
 go_wp2_with fail
 obtain ⟨gx0, hgb⟩ : ∃ g_, g_ = w6.heap.size := ⟨_, rfl⟩
 obtain ⟨w7, hW_⟩ : ∃ w_, w_ = w6.alloc (.cells #[.slice A0x0 (x0.1).length c0x0, .slice A1x0 (x0.2).length c1x0] 27 (0, 0)) := ⟨_, rfl⟩
 rw [← hW_, ← hgb]
 have BKx0 := zA (show w7.heap[gx0]? = some (.cells #[.slice A0x0 (x0.1).length c0x0, .slice A1x0 (x0.2).length c1x0] 27 (0, 0)) from by rw [hW_, hgb]; exact blk_new w6 _)
 have gg : Grew w6 w7 := by rw [hW_]; exact below_alloc (Below.refl _ _) _
 have PGx0 := zA (show w6.heap.size ≤ gx0 from Nat.le_of_eq hgb.symm)
 have PLx0 := zA (blk_lt BKx0.out)
 clear hW_ hgb
 clear hcgp00 hfgp00 hcgp01 hfgp01 hcgvw0 hfgvw0 hcgvw1 hfgvw1 hdgp00 hegp00 hdgp01 hegp01 hdgvw0 hegvw0 hdgvw1 hegvw1
 have Gw7 := zA (show Grew w w7 from grew_trans (Gw6.out) gg)
 have Ew7 := zA gg.size
 have GGw7 := zA (show Grew w5 w7 from grew_trans GGw6.out gg)
 replace X0 := zA (Ty.M_below X0.out gg)
 replace BKp0 := zA (blk_below BKp0.out gg)
 replace BKvw := zA (blk_below BKvw.out gg)
 clear gg
 go_at_call 17
 refine (implC x0 x1 (.agg #[.slice A0x0 (x0.1).length c0x0, .slice A1x0 (x0.2).length c1x0]) _ (HelpSta.tSta.K_of_M X0.out) S0.out Ay0.out Ay1.out Ak0.out Ak1.out).mono ?_
 rintro e w8 ⟨g, rfl, hm, gg⟩
 have Gw8 := zA (show Grew w w8 from grew_trans (Gw7.out) gg)
 have Ew8 := zA gg.size
 have GGw8 := zA (show Grew w5 w8 from grew_trans GGw7.out gg)
 replace X0 := zA (Ty.M_below X0.out gg)
 replace BKp0 := zA (blk_below BKp0.out gg)
 replace BKvw := zA (blk_below BKvw.out gg)
 replace BKx0 := zA (blk_below BKx0.out gg)
 rw [HCO.out]
 rw [HR.out] at hm
 have Y := zA (HelpSta.tSta.M_lower (GGw7.out).size (Ty.M_beyond hm))
 clear hm
 clear gg
 obtain ⟨A0vg, c0vg, A1vg, c1vg, es_⟩ := HelpSta.form (HelpSta.tSta.K_of_M Y.out)
 subst es_
 obtain ⟨⟨hcgp00, hfgp00⟩, ⟨hcgp01, hfgp01⟩⟩ := cells2 BKp0.out
 obtain ⟨⟨hcgvw0, hfgvw0⟩, ⟨hcgvw1, hfgvw1⟩⟩ := cells2 BKvw.out
 obtain ⟨⟨hcgx00, hfgx00⟩, ⟨hcgx01, hfgx01⟩⟩ := cells2 BKx0.out
 obtain ⟨⟨hdgp00, hegp00⟩, ⟨hdgp01, hegp01⟩⟩ := cells2 (blk_alloc BKp0.out (.cells #[.slice A0vg (R.1).length c0vg, .slice A1vg (R.2).length c1vg] 27 (0, 0)))
 obtain ⟨⟨hdgvw0, hegvw0⟩, ⟨hdgvw1, hegvw1⟩⟩ := cells2 (blk_alloc BKvw.out (.cells #[.slice A0vg (R.1).length c0vg, .slice A1vg (R.2).length c1vg] 27 (0, 0)))
 obtain ⟨⟨hdgx00, hegx00⟩, ⟨hdgx01, hegx01⟩⟩ := cells2 (blk_alloc BKx0.out (.cells #[.slice A0vg (R.1).length c0vg, .slice A1vg (R.2).length c1vg] 27 (0, 0)))
 go_wp2_with fail
 obtain ⟨gvg, hgb⟩ : ∃ g_, g_ = w8.heap.size := ⟨_, rfl⟩
 obtain ⟨w9, hW_⟩ : ∃ w_, w_ = w8.alloc (.cells #[.slice A0vg (R.1).length c0vg, .slice A1vg (R.2).length c1vg] 27 (0, 0)) := ⟨_, rfl⟩
 rw [← hW_, ← hgb]
 have BKvg := zA (show w9.heap[gvg]? = some (.cells #[.slice A0vg (R.1).length c0vg, .slice A1vg (R.2).length c1vg] 27 (0, 0)) from by rw [hW_, hgb]; exact blk_new w8 _)
 have gg : Grew w8 w9 := by rw [hW_]; exact below_alloc (Below.refl _ _) _
 have PGvg := zA (show w8.heap.size ≤ gvg from Nat.le_of_eq hgb.symm)
 have PLvg := zA (blk_lt BKvg.out)
 clear hW_ hgb
 clear hcgp00 hfgp00 hcgp01 hfgp01 hcgvw0 hfgvw0 hcgvw1 hfgvw1 hcgx00 hfgx00 hcgx01 hfgx01 hdgp00 hegp00 hdgp01 hegp01 hdgvw0 hegvw0 hdgvw1 hegvw1 hdgx00 hegx00 hdgx01 hegx01
 have Gw9 := zA (show Grew w w9 from grew_trans (Gw8.out) gg)
 have Ew9 := zA gg.size
 have GGw9 := zA (show Grew w5 w9 from grew_trans GGw8.out gg)
 replace X0 := zA (Ty.M_below X0.out gg)
 replace Y := zA (Ty.M_below Y.out gg)
 replace BKp0 := zA (blk_below BKp0.out gg)
 replace BKvw := zA (blk_below BKvw.out gg)
 replace BKx0 := zA (blk_below BKx0.out gg)
 clear gg
 go_at_call 11
 refine (HelpSta.eq_calls R (.agg #[.slice A0vg (R.1).length c0vg, .slice A1vg (R.2).length c1vg]) (.agg #[.slice A0vw (R.1).length c0vw, .slice A1vw (R.2).length c1vw]) _ (HelpSta.tSta.K_of_M Y.out) (HelpSta.tSta.K_below GGw9.out W.out) RB.out.1).mono ?_
 rintro e w10 ⟨rfl, gg⟩
 have Gw10 := zA (show Grew w w10 from grew_trans (Gw9.out) gg)
 have Ew10 := zA gg.size
 have GGw10 := zA (show Grew w5 w10 from grew_trans GGw9.out gg)
 replace X0 := zA (Ty.M_below X0.out gg)
 replace Y := zA (Ty.M_below Y.out gg)
 replace BKp0 := zA (blk_below BKp0.out gg)
 replace BKvw := zA (blk_below BKvw.out gg)
 replace BKx0 := zA (blk_below BKx0.out gg)
 replace BKvg := zA (blk_below BKvg.out gg)
 clear gg
 obtain ⟨⟨hcgp00, hfgp00⟩, ⟨hcgp01, hfgp01⟩⟩ := cells2 BKp0.out
 obtain ⟨⟨hcgvw0, hfgvw0⟩, ⟨hcgvw1, hfgvw1⟩⟩ := cells2 BKvw.out
 obtain ⟨⟨hcgx00, hfgx00⟩, ⟨hcgx01, hfgx01⟩⟩ := cells2 BKx0.out
 obtain ⟨⟨hcgvg0, hfgvg0⟩, ⟨hcgvg1, hfgvg1⟩⟩ := cells2 BKvg.out
 go_wp2_with fail
 go_region_held3 (fun W_ => W_.cell? ⟨gp0, 0, none⟩ = some (.slice A0p0 (x0.1).length c0p0) ∧ W_.cell? ⟨gp0, 1, none⟩ = some (.slice A1p0 (x0.2).length c1p0) ∧ W_.cell? ⟨gx0, 0, none⟩ = some (.slice A0x0 (x0.1).length c0x0) ∧ W_.cell? ⟨gx0, 1, none⟩ = some (.slice A1x0 (x0.2).length c1x0) ∧ W_.frozen? ⟨gp0, 0, none⟩ = false ∧ W_.frozen? ⟨gp0, 1, none⟩ = false ∧ W_.frozen? ⟨gx0, 0, none⟩ = false ∧ W_.frozen? ⟨gx0, 1, none⟩ = false) (first | exact ⟨(blk_cell BKp0.out 0).trans rfl, (blk_cell BKp0.out 1).trans rfl, (blk_cell BKx0.out 0).trans rfl, (blk_cell BKx0.out 1).trans rfl, blk_frozen BKp0.out 0, blk_frozen BKp0.out 1, blk_frozen BKx0.out 0, blk_frozen BKx0.out 1⟩ | exact ⟨(blk_cell (blk_below (o := .cells #[.slice A0p0 (x0.1).length c0p0, .slice A1p0 (x0.2).length c1p0] 24 (0, 0)) BKp0.out gA_.out) 0).trans rfl, (blk_cell (blk_below (o := .cells #[.slice A0p0 (x0.1).length c0p0, .slice A1p0 (x0.2).length c1p0] 24 (0, 0)) BKp0.out gA_.out) 1).trans rfl, (blk_cell (blk_below (o := .cells #[.slice A0x0 (x0.1).length c0x0, .slice A1x0 (x0.2).length c1x0] 27 (0, 0)) BKx0.out gA_.out) 0).trans rfl, (blk_cell (blk_below (o := .cells #[.slice A0x0 (x0.1).length c0x0, .slice A1x0 (x0.2).length c1x0] 27 (0, 0)) BKx0.out gA_.out) 1).trans rfl, blk_frozen (blk_below (o := .cells #[.slice A0p0 (x0.1).length c0p0, .slice A1p0 (x0.2).length c1p0] 24 (0, 0)) BKp0.out gA_.out) 0, blk_frozen (blk_below (o := .cells #[.slice A0p0 (x0.1).length c0p0, .slice A1p0 (x0.2).length c1p0] 24 (0, 0)) BKp0.out gA_.out) 1, blk_frozen (blk_below (o := .cells #[.slice A0x0 (x0.1).length c0x0, .slice A1x0 (x0.2).length c1x0] 27 (0, 0)) BKx0.out gA_.out) 0, blk_frozen (blk_below (o := .cells #[.slice A0x0 (x0.1).length c0x0, .slice A1x0 (x0.2).length c1x0] 27 (0, 0)) BKx0.out gA_.out) 1⟩ | exact ⟨(blk_cell (blk_below (o := .cells #[.slice A0p0 (x0.1).length c0p0, .slice A1p0 (x0.2).length c1p0] 24 (0, 0)) BKp0.out (grew_trans gA_.out gB_.out)) 0).trans rfl, (blk_cell (blk_below (o := .cells #[.slice A0p0 (x0.1).length c0p0, .slice A1p0 (x0.2).length c1p0] 24 (0, 0)) BKp0.out (grew_trans gA_.out gB_.out)) 1).trans rfl, (blk_cell (blk_below (o := .cells #[.slice A0x0 (x0.1).length c0x0, .slice A1x0 (x0.2).length c1x0] 27 (0, 0)) BKx0.out (grew_trans gA_.out gB_.out)) 0).trans rfl, (blk_cell (blk_below (o := .cells #[.slice A0x0 (x0.1).length c0x0, .slice A1x0 (x0.2).length c1x0] 27 (0, 0)) BKx0.out (grew_trans gA_.out gB_.out)) 1).trans rfl, blk_frozen (blk_below (o := .cells #[.slice A0p0 (x0.1).length c0p0, .slice A1p0 (x0.2).length c1p0] 24 (0, 0)) BKp0.out (grew_trans gA_.out gB_.out)) 0, blk_frozen (blk_below (o := .cells #[.slice A0p0 (x0.1).length c0p0, .slice A1p0 (x0.2).length c1p0] 24 (0, 0)) BKp0.out (grew_trans gA_.out gB_.out)) 1, blk_frozen (blk_below (o := .cells #[.slice A0x0 (x0.1).length c0x0, .slice A1x0 (x0.2).length c1x0] 27 (0, 0)) BKx0.out (grew_trans gA_.out gB_.out)) 0, blk_frozen (blk_below (o := .cells #[.slice A0x0 (x0.1).length c0x0, .slice A1x0 (x0.2).length c1x0] 27 (0, 0)) BKx0.out (grew_trans gA_.out gB_.out)) 1⟩ | go_keep) (first | (go_at_call 8; refine (HelpSta.to_calls x0 (.agg #[.slice A0p0 (x0.1).length c0p0, .slice A1p0 (x0.2).length c1p0]) _ (HelpSta.tSta.K_below ?ha K0.out) B0.out).mono ?_; (case ha => repeat (first | exact Gw10.out | apply pw_below_drewN | apply below_drew1)); rintro e w11 ⟨z0, rfl, hz_, gA_⟩; have Z := zA hz_; have gA_ := zA (show Grew w10 w11 from (by first | exact gA_ | exact grew_trans (by repeat (first | exact Below.refl _ _ | apply pw_below_drewN | apply below_drew1)) gA_)); clear hz_) | (go_at_call 11; refine (HelpSta.eq_calls x0 (.agg #[.slice A0x0 (x0.1).length c0x0, .slice A1x0 (x0.2).length c1x0]) z0 _ (HelpSta.tSta.K_below ?hb (HelpSta.tSta.K_of_M X0.out)) (HelpSta.tSta.K_below ?hc (HelpSta.tSta.K_of_M Z.out)) B0.out).mono ?_; (case hb => repeat (first | exact gA_.out | apply pw_below_drewN | apply below_drew1)); (case hc => repeat (first | exact Below.refl _ _ | apply pw_below_drewN | apply below_drew1)); rintro e w12 ⟨rfl, gB_⟩; have gB_ := zA (show Grew w11 w12 from (by first | exact gB_ | exact grew_trans (by repeat (first | exact Below.refl _ _ | apply pw_below_drewN | apply below_drew1)) gB_))))
 have gg : Grew w10 w12 := grew_trans gA_.out gB_.out
 clear gA_ gB_ Z
 clear hcgp00 hfgp00 hcgp01 hfgp01 hcgvw0 hfgvw0 hcgvw1 hfgvw1 hcgx00 hfgx00 hcgx01 hfgx01 hcgvg0 hfgvg0 hcgvg1 hfgvg1
 have Gw12 := zA (show Grew w w12 from grew_trans (Gw10.out) gg)
 have Ew12 := zA gg.size
 have GGw12 := zA (show Grew w5 w12 from grew_trans GGw10.out gg)
 replace X0 := zA (Ty.M_below X0.out gg)
 replace Y := zA (Ty.M_below Y.out gg)
 replace BKp0 := zA (blk_below BKp0.out gg)
 replace BKvw := zA (blk_below BKvw.out gg)
 replace BKx0 := zA (blk_below BKx0.out gg)
 replace BKvg := zA (blk_below BKvg.out gg)
 clear gg
 obtain ⟨⟨hcgp00, hfgp00⟩, ⟨hcgp01, hfgp01⟩⟩ := cells2 BKp0.out
 obtain ⟨⟨hcgvw0, hfgvw0⟩, ⟨hcgvw1, hfgvw1⟩⟩ := cells2 BKvw.out
 obtain ⟨⟨hcgx00, hfgx00⟩, ⟨hcgx01, hfgx01⟩⟩ := cells2 BKx0.out
 obtain ⟨⟨hcgvg0, hfgvg0⟩, ⟨hcgvg1, hfgvg1⟩⟩ := cells2 BKvg.out
 go_wp2_with fail
 go_at_call 13
 refine (HelpSta.mark_calls x0 (.agg #[.slice A0x0 (x0.1).length c0x0, .slice A1x0 (x0.2).length c1x0]) _ (1) w5 _ GGw12.out X0.out zq1 zq1 B0.out).mono ?_
 rintro e w13 ⟨rfl, hm, hb, hkp⟩
 clear hcgp00 hfgp00 hcgp01 hfgp01 hcgvw0 hfgvw0 hcgvw1 hfgvw1 hcgx00 hfgx00 hcgx01 hfgx01 hcgvg0 hfgvg0 hcgvg1 hfgvg1
 have GGw13 := zA (show Grew w5 w13 from hb)
 have Gw13 := zA (show Grew w w13 from grew_trans Gw5.out hb)
 have Ew13 := zA hkp.1
 replace Y := zA (Ty.M_kept Y.out hkp (fun k hk hs => by have a1_ := hk.1; have a2_ := hk.2; have a3_ := hs.1; have a4_ := hs.2; have e0_ := Ew1.out; have e1_ := PGp0.out; have e2_ := PLp0.out; have e3_ := Ew2.out; have e4_ := Ew3.out; have e5_ := Ew4.out; have e6_ := Ew5.out; have e7_ := PGvw.out; have e8_ := PLvw.out; have e9_ := Ew6.out; have e10_ := Ew7.out; have e11_ := PGx0.out; have e12_ := PLx0.out; have e13_ := Ew8.out; have e14_ := Ew9.out; have e15_ := PGvg.out; have e16_ := PLvg.out; have e17_ := Ew10.out; have e18_ := Ew12.out; have e19_ := Ew13.out; omega))
 replace BKp0 := zA ((hkp.2 _ (blk_lt BKp0.out) (fun hk => by have a1_ := hk.1; have a2_ := hk.2; have e0_ := Ew1.out; have e1_ := PGp0.out; have e2_ := PLp0.out; have e3_ := Ew2.out; have e4_ := Ew3.out; have e5_ := Ew4.out; have e6_ := Ew5.out; have e7_ := PGvw.out; have e8_ := PLvw.out; have e9_ := Ew6.out; have e10_ := Ew7.out; have e11_ := PGx0.out; have e12_ := PLx0.out; have e13_ := Ew8.out; have e14_ := Ew9.out; have e15_ := PGvg.out; have e16_ := PLvg.out; have e17_ := Ew10.out; have e18_ := Ew12.out; have e19_ := Ew13.out; omega)).trans BKp0.out)
 replace BKvw := zA ((hkp.2 _ (blk_lt BKvw.out) (fun hk => by have a1_ := hk.1; have a2_ := hk.2; have e0_ := Ew1.out; have e1_ := PGp0.out; have e2_ := PLp0.out; have e3_ := Ew2.out; have e4_ := Ew3.out; have e5_ := Ew4.out; have e6_ := Ew5.out; have e7_ := PGvw.out; have e8_ := PLvw.out; have e9_ := Ew6.out; have e10_ := Ew7.out; have e11_ := PGx0.out; have e12_ := PLx0.out; have e13_ := Ew8.out; have e14_ := Ew9.out; have e15_ := PGvg.out; have e16_ := PLvg.out; have e17_ := Ew10.out; have e18_ := Ew12.out; have e19_ := Ew13.out; omega)).trans BKvw.out)
 replace BKx0 := zA ((hkp.2 _ (blk_lt BKx0.out) (fun hk => by have a1_ := hk.1; have a2_ := hk.2; have e0_ := Ew1.out; have e1_ := PGp0.out; have e2_ := PLp0.out; have e3_ := Ew2.out; have e4_ := Ew3.out; have e5_ := Ew4.out; have e6_ := Ew5.out; have e7_ := PGvw.out; have e8_ := PLvw.out; have e9_ := Ew6.out; have e10_ := Ew7.out; have e11_ := PGx0.out; have e12_ := PLx0.out; have e13_ := Ew8.out; have e14_ := Ew9.out; have e15_ := PGvg.out; have e16_ := PLvg.out; have e17_ := Ew10.out; have e18_ := Ew12.out; have e19_ := Ew13.out; omega)).trans BKx0.out)
 replace BKvg := zA ((hkp.2 _ (blk_lt BKvg.out) (fun hk => by have a1_ := hk.1; have a2_ := hk.2; have e0_ := Ew1.out; have e1_ := PGp0.out; have e2_ := PLp0.out; have e3_ := Ew2.out; have e4_ := Ew3.out; have e5_ := Ew4.out; have e6_ := Ew5.out; have e7_ := PGvw.out; have e8_ := PLvw.out; have e9_ := Ew6.out; have e10_ := Ew7.out; have e11_ := PGx0.out; have e12_ := PLx0.out; have e13_ := Ew8.out; have e14_ := Ew9.out; have e15_ := PGvg.out; have e16_ := PLvg.out; have e17_ := Ew10.out; have e18_ := Ew12.out; have e19_ := Ew13.out; omega)).trans BKvg.out)
 have N_ := zA hm
 clear hm hb hkp X0
 clear N_
 obtain ⟨⟨hcgp00, hfgp00⟩, ⟨hcgp01, hfgp01⟩⟩ := cells2 BKp0.out
 obtain ⟨⟨hcgvw0, hfgvw0⟩, ⟨hcgvw1, hfgvw1⟩⟩ := cells2 BKvw.out
 obtain ⟨⟨hcgx00, hfgx00⟩, ⟨hcgx01, hfgx01⟩⟩ := cells2 BKx0.out
 obtain ⟨⟨hcgvg0, hfgvg0⟩, ⟨hcgvg1, hfgvg1⟩⟩ := cells2 BKvg.out
 go_wp2_with fail
 go_at_call 11
 refine (HelpSta.eq_calls R (.agg #[.slice A0vg (R.1).length c0vg, .slice A1vg (R.2).length c1vg]) (.agg #[.slice A0vw (R.1).length c0vw, .slice A1vw (R.2).length c1vw]) _ (HelpSta.tSta.K_of_M Y.out) (HelpSta.tSta.K_below GGw13.out W.out) RB.out.1).mono ?_
 rintro e w14 ⟨rfl, gg⟩
 clear hcgp00 hfgp00 hcgp01 hfgp01 hcgvw0 hfgvw0 hcgvw1 hfgvw1 hcgx00 hfgx00 hcgx01 hfgx01 hcgvg0 hfgvg0 hcgvg1 hfgvg1
 have Gw14 := zA (show Grew w w14 from grew_trans (Gw13.out) gg)
 have Ew14 := zA gg.size
 have GGw14 := zA (show Grew w5 w14 from grew_trans GGw13.out gg)
 replace Y := zA (Ty.M_below Y.out gg)
 replace BKp0 := zA (blk_below BKp0.out gg)
 replace BKvw := zA (blk_below BKvw.out gg)
 replace BKx0 := zA (blk_below BKx0.out gg)
 replace BKvg := zA (blk_below BKvg.out gg)
 clear gg
 obtain ⟨⟨hcgp00, hfgp00⟩, ⟨hcgp01, hfgp01⟩⟩ := cells2 BKp0.out
 obtain ⟨⟨hcgvw0, hfgvw0⟩, ⟨hcgvw1, hfgvw1⟩⟩ := cells2 BKvw.out
 obtain ⟨⟨hcgx00, hfgx00⟩, ⟨hcgx01, hfgx01⟩⟩ := cells2 BKx0.out
 obtain ⟨⟨hcgvg0, hfgvg0⟩, ⟨hcgvg1, hfgvg1⟩⟩ := cells2 BKvg.out
 go_wp2_with fail
 go_at_call 13
 refine (HelpSta.mark_calls R (.agg #[.slice A0vg (R.1).length c0vg, .slice A1vg (R.2).length c1vg]) _ (1) w5 _ GGw14.out Y.out zq1 zq1 RB.out.1).mono ?_
 rintro e w15 ⟨rfl, hm, hb, hkp⟩
 clear hcgp00 hfgp00 hcgp01 hfgp01 hcgvw0 hfgvw0 hcgvw1 hfgvw1 hcgx00 hfgx00 hcgx01 hfgx01 hcgvg0 hfgvg0 hcgvg1 hfgvg1
 have GGw15 := zA (show Grew w5 w15 from hb)
 have Gw15 := zA (show Grew w w15 from grew_trans Gw5.out hb)
 have Ew15 := zA hkp.1
 replace BKp0 := zA ((hkp.2 _ (blk_lt BKp0.out) (fun hk => by have a1_ := hk.1; have a2_ := hk.2; have e0_ := Ew1.out; have e1_ := PGp0.out; have e2_ := PLp0.out; have e3_ := Ew2.out; have e4_ := Ew3.out; have e5_ := Ew4.out; have e6_ := Ew5.out; have e7_ := PGvw.out; have e8_ := PLvw.out; have e9_ := Ew6.out; have e10_ := Ew7.out; have e11_ := PGx0.out; have e12_ := PLx0.out; have e13_ := Ew8.out; have e14_ := Ew9.out; have e15_ := PGvg.out; have e16_ := PLvg.out; have e17_ := Ew10.out; have e18_ := Ew12.out; have e19_ := Ew13.out; have e20_ := Ew14.out; have e21_ := Ew15.out; omega)).trans BKp0.out)
 replace BKvw := zA ((hkp.2 _ (blk_lt BKvw.out) (fun hk => by have a1_ := hk.1; have a2_ := hk.2; have e0_ := Ew1.out; have e1_ := PGp0.out; have e2_ := PLp0.out; have e3_ := Ew2.out; have e4_ := Ew3.out; have e5_ := Ew4.out; have e6_ := Ew5.out; have e7_ := PGvw.out; have e8_ := PLvw.out; have e9_ := Ew6.out; have e10_ := Ew7.out; have e11_ := PGx0.out; have e12_ := PLx0.out; have e13_ := Ew8.out; have e14_ := Ew9.out; have e15_ := PGvg.out; have e16_ := PLvg.out; have e17_ := Ew10.out; have e18_ := Ew12.out; have e19_ := Ew13.out; have e20_ := Ew14.out; have e21_ := Ew15.out; omega)).trans BKvw.out)
 replace BKx0 := zA ((hkp.2 _ (blk_lt BKx0.out) (fun hk => by have a1_ := hk.1; have a2_ := hk.2; have e0_ := Ew1.out; have e1_ := PGp0.out; have e2_ := PLp0.out; have e3_ := Ew2.out; have e4_ := Ew3.out; have e5_ := Ew4.out; have e6_ := Ew5.out; have e7_ := PGvw.out; have e8_ := PLvw.out; have e9_ := Ew6.out; have e10_ := Ew7.out; have e11_ := PGx0.out; have e12_ := PLx0.out; have e13_ := Ew8.out; have e14_ := Ew9.out; have e15_ := PGvg.out; have e16_ := PLvg.out; have e17_ := Ew10.out; have e18_ := Ew12.out; have e19_ := Ew13.out; have e20_ := Ew14.out; have e21_ := Ew15.out; omega)).trans BKx0.out)
 replace BKvg := zA ((hkp.2 _ (blk_lt BKvg.out) (fun hk => by have a1_ := hk.1; have a2_ := hk.2; have e0_ := Ew1.out; have e1_ := PGp0.out; have e2_ := PLp0.out; have e3_ := Ew2.out; have e4_ := Ew3.out; have e5_ := Ew4.out; have e6_ := Ew5.out; have e7_ := PGvw.out; have e8_ := PLvw.out; have e9_ := Ew6.out; have e10_ := Ew7.out; have e11_ := PGx0.out; have e12_ := PLx0.out; have e13_ := Ew8.out; have e14_ := Ew9.out; have e15_ := PGvg.out; have e16_ := PLvg.out; have e17_ := Ew10.out; have e18_ := Ew12.out; have e19_ := Ew13.out; have e20_ := Ew14.out; have e21_ := Ew15.out; omega)).trans BKvg.out)
 have N_ := zA hm
 clear hm hb hkp Y
 have Y := N_
 clear N_
 obtain ⟨⟨hcgp00, hfgp00⟩, ⟨hcgp01, hfgp01⟩⟩ := cells2 BKp0.out
 obtain ⟨⟨hcgvw0, hfgvw0⟩, ⟨hcgvw1, hfgvw1⟩⟩ := cells2 BKvw.out
 obtain ⟨⟨hcgx00, hfgx00⟩, ⟨hcgx01, hfgx01⟩⟩ := cells2 BKx0.out
 obtain ⟨⟨hcgvg0, hfgvg0⟩, ⟨hcgvg1, hfgvg1⟩⟩ := cells2 BKvg.out
 go_wp2_with fail
 go_at_call 15
 refine (HelpSta.held_calls R (.agg #[.slice A0vg (R.1).length c0vg, .slice A1vg (R.2).length c1vg]) 1 _ (HelpSta.tSta.K_of_M Y.out) zq1 zq1 RB.out.1).mono ?_
 rintro e w16 ⟨rfl, gg⟩
 clear hcgp00 hfgp00 hcgp01 hfgp01 hcgvw0 hfgvw0 hcgvw1 hfgvw1 hcgx00 hfgx00 hcgx01 hfgx01 hcgvg0 hfgvg0 hcgvg1 hfgvg1
 have Gw16 := zA (show Grew w w16 from grew_trans (Gw15.out) gg)
 have Ew16 := zA gg.size
 have GGw16 := zA (show Grew w5 w16 from grew_trans GGw15.out gg)
 replace Y := zA (Ty.M_below Y.out gg)
 replace BKp0 := zA (blk_below BKp0.out gg)
 replace BKvw := zA (blk_below BKvw.out gg)
 replace BKx0 := zA (blk_below BKx0.out gg)
 replace BKvg := zA (blk_below BKvg.out gg)
 clear gg
 obtain ⟨⟨hcgp00, hfgp00⟩, ⟨hcgp01, hfgp01⟩⟩ := cells2 BKp0.out
 obtain ⟨⟨hcgvw0, hfgvw0⟩, ⟨hcgvw1, hfgvw1⟩⟩ := cells2 BKvw.out
 obtain ⟨⟨hcgx00, hfgx00⟩, ⟨hcgx01, hfgx01⟩⟩ := cells2 BKx0.out
 obtain ⟨⟨hcgvg0, hfgvg0⟩, ⟨hcgvg1, hfgvg1⟩⟩ := cells2 BKvg.out
 go_wp2_with fail
 go_at_call 8
 refine (HelpSta.to_calls x0 (.agg #[.slice A0p0 (x0.1).length c0p0, .slice A1p0 (x0.2).length c1p0]) _ (HelpSta.tSta.K_below (Gw16.out) K0.out) B0.out).mono ?_
 rintro e w17 ⟨y0, rfl, hy_, gg⟩
 clear hcgp00 hfgp00 hcgp01 hfgp01 hcgvw0 hfgvw0 hcgvw1 hfgvw1 hcgx00 hfgx00 hcgx01 hfgx01 hcgvg0 hfgvg0 hcgvg1 hfgvg1
 have Gw17 := zA (show Grew w w17 from grew_trans (Gw16.out) gg)
 have Ew17 := zA gg.size
 have GGw17 := zA (show Grew w5 w17 from grew_trans GGw16.out gg)
 replace Y := zA (Ty.M_below Y.out gg)
 replace BKp0 := zA (blk_below BKp0.out gg)
 replace BKvw := zA (blk_below BKvw.out gg)
 replace BKx0 := zA (blk_below BKx0.out gg)
 replace BKvg := zA (blk_below BKvg.out gg)
 have D0 := zA hy_
 clear hy_
 clear gg
 obtain ⟨⟨hcgp00, hfgp00⟩, ⟨hcgp01, hfgp01⟩⟩ := cells2 BKp0.out
 obtain ⟨⟨hcgvw0, hfgvw0⟩, ⟨hcgvw1, hfgvw1⟩⟩ := cells2 BKvw.out
 obtain ⟨⟨hcgx00, hfgx00⟩, ⟨hcgx01, hfgx01⟩⟩ := cells2 BKx0.out
 obtain ⟨⟨hcgvg0, hfgvg0⟩, ⟨hcgvg1, hfgvg1⟩⟩ := cells2 BKvg.out
 go_wp2_with fail
 go_at_call 17
 refine (implC x0 x1 y0 _ (HelpSta.tSta.K_of_M D0.out) S0.out Ay0.out Ay1.out Ak0.out Ak1.out).mono ?_
 rintro e w18 ⟨h, rfl, hm, gg⟩
 clear hcgp00 hfgp00 hcgp01 hfgp01 hcgvw0 hfgvw0 hcgvw1 hfgvw1 hcgx00 hfgx00 hcgx01 hfgx01 hcgvg0 hfgvg0 hcgvg1 hfgvg1
 have Gw18 := zA (show Grew w w18 from grew_trans (Gw17.out) gg)
 have Ew18 := zA gg.size
 have GGw18 := zA (show Grew w5 w18 from grew_trans GGw17.out gg)
 replace Y := zA (Ty.M_below Y.out gg)
 replace D0 := zA (Ty.M_below D0.out gg)
 replace BKp0 := zA (blk_below BKp0.out gg)
 replace BKvw := zA (blk_below BKvw.out gg)
 replace BKx0 := zA (blk_below BKx0.out gg)
 replace BKvg := zA (blk_below BKvg.out gg)
 rw [HCO.out]
 rw [HR.out] at hm
 have H := zA hm
 clear hm
 clear gg
 clear D0
 obtain ⟨A0vh, c0vh, A1vh, c1vh, es_⟩ := HelpSta.form (HelpSta.tSta.K_of_M H.out)
 subst es_
 obtain ⟨⟨hcgp00, hfgp00⟩, ⟨hcgp01, hfgp01⟩⟩ := cells2 BKp0.out
 obtain ⟨⟨hcgvw0, hfgvw0⟩, ⟨hcgvw1, hfgvw1⟩⟩ := cells2 BKvw.out
 obtain ⟨⟨hcgx00, hfgx00⟩, ⟨hcgx01, hfgx01⟩⟩ := cells2 BKx0.out
 obtain ⟨⟨hcgvg0, hfgvg0⟩, ⟨hcgvg1, hfgvg1⟩⟩ := cells2 BKvg.out
 obtain ⟨⟨hdgp00, hegp00⟩, ⟨hdgp01, hegp01⟩⟩ := cells2 (blk_alloc BKp0.out (.cells #[.slice A0vh (R.1).length c0vh, .slice A1vh (R.2).length c1vh] 27 (0, 0)))
 obtain ⟨⟨hdgvw0, hegvw0⟩, ⟨hdgvw1, hegvw1⟩⟩ := cells2 (blk_alloc BKvw.out (.cells #[.slice A0vh (R.1).length c0vh, .slice A1vh (R.2).length c1vh] 27 (0, 0)))
 obtain ⟨⟨hdgx00, hegx00⟩, ⟨hdgx01, hegx01⟩⟩ := cells2 (blk_alloc BKx0.out (.cells #[.slice A0vh (R.1).length c0vh, .slice A1vh (R.2).length c1vh] 27 (0, 0)))
 obtain ⟨⟨hdgvg0, hegvg0⟩, ⟨hdgvg1, hegvg1⟩⟩ := cells2 (blk_alloc BKvg.out (.cells #[.slice A0vh (R.1).length c0vh, .slice A1vh (R.2).length c1vh] 27 (0, 0)))
 go_wp2_with fail
 obtain ⟨gvh, hgb⟩ : ∃ g_, g_ = w18.heap.size := ⟨_, rfl⟩
 obtain ⟨w19, hW_⟩ : ∃ w_, w_ = w18.alloc (.cells #[.slice A0vh (R.1).length c0vh, .slice A1vh (R.2).length c1vh] 27 (0, 0)) := ⟨_, rfl⟩
 rw [← hW_, ← hgb]
 have BKvh := zA (show w19.heap[gvh]? = some (.cells #[.slice A0vh (R.1).length c0vh, .slice A1vh (R.2).length c1vh] 27 (0, 0)) from by rw [hW_, hgb]; exact blk_new w18 _)
 have gg : Grew w18 w19 := by rw [hW_]; exact below_alloc (Below.refl _ _) _
 have PGvh := zA (show w18.heap.size ≤ gvh from Nat.le_of_eq hgb.symm)
 have PLvh := zA (blk_lt BKvh.out)
 clear hW_ hgb
 clear hcgp00 hfgp00 hcgp01 hfgp01 hcgvw0 hfgvw0 hcgvw1 hfgvw1 hcgx00 hfgx00 hcgx01 hfgx01 hcgvg0 hfgvg0 hcgvg1 hfgvg1 hdgp00 hegp00 hdgp01 hegp01 hdgvw0 hegvw0 hdgvw1 hegvw1 hdgx00 hegx00 hdgx01 hegx01 hdgvg0 hegvg0 hdgvg1 hegvg1
 have Gw19 := zA (show Grew w w19 from grew_trans (Gw18.out) gg)
 have Ew19 := zA gg.size
 have GGw19 := zA (show Grew w5 w19 from grew_trans GGw18.out gg)
 replace Y := zA (Ty.M_below Y.out gg)
 replace H := zA (Ty.M_below H.out gg)
 replace BKp0 := zA (blk_below BKp0.out gg)
 replace BKvw := zA (blk_below BKvw.out gg)
 replace BKx0 := zA (blk_below BKx0.out gg)
 replace BKvg := zA (blk_below BKvg.out gg)
 clear gg
 go_at_call 11
 refine (HelpSta.eq_calls R (.agg #[.slice A0vh (R.1).length c0vh, .slice A1vh (R.2).length c1vh]) (.agg #[.slice A0vw (R.1).length c0vw, .slice A1vw (R.2).length c1vw]) _ (HelpSta.tSta.K_of_M H.out) (HelpSta.tSta.K_below GGw19.out W.out) RB.out.1).mono ?_
 rintro e w20 ⟨rfl, gg⟩
 have Gw20 := zA (show Grew w w20 from grew_trans (Gw19.out) gg)
 have Ew20 := zA gg.size
 have GGw20 := zA (show Grew w5 w20 from grew_trans GGw19.out gg)
 replace Y := zA (Ty.M_below Y.out gg)
 replace H := zA (Ty.M_below H.out gg)
 replace BKp0 := zA (blk_below BKp0.out gg)
 replace BKvw := zA (blk_below BKvw.out gg)
 replace BKx0 := zA (blk_below BKx0.out gg)
 replace BKvg := zA (blk_below BKvg.out gg)
 replace BKvh := zA (blk_below BKvh.out gg)
 clear gg
 obtain ⟨⟨hcgp00, hfgp00⟩, ⟨hcgp01, hfgp01⟩⟩ := cells2 BKp0.out
 obtain ⟨⟨hcgvw0, hfgvw0⟩, ⟨hcgvw1, hfgvw1⟩⟩ := cells2 BKvw.out
 obtain ⟨⟨hcgx00, hfgx00⟩, ⟨hcgx01, hfgx01⟩⟩ := cells2 BKx0.out
 obtain ⟨⟨hcgvg0, hfgvg0⟩, ⟨hcgvg1, hfgvg1⟩⟩ := cells2 BKvg.out
 obtain ⟨⟨hcgvh0, hfgvh0⟩, ⟨hcgvh1, hfgvh1⟩⟩ := cells2 BKvh.out
 go_wp2_with fail
 go_at_call 15
 refine (HelpSta.held_calls R (.agg #[.slice A0vg (R.1).length c0vg, .slice A1vg (R.2).length c1vg]) 1 _ (HelpSta.tSta.K_of_M Y.out) zq1 zq1 RB.out.1).mono ?_
 rintro e w21 ⟨rfl, gg⟩
 clear hcgp00 hfgp00 hcgp01 hfgp01 hcgvw0 hfgvw0 hcgvw1 hfgvw1 hcgx00 hfgx00 hcgx01 hfgx01 hcgvg0 hfgvg0 hcgvg1 hfgvg1 hcgvh0 hfgvh0 hcgvh1 hfgvh1
 have Gw21 := zA (show Grew w w21 from grew_trans (Gw20.out) gg)
 have Ew21 := zA gg.size
 have GGw21 := zA (show Grew w5 w21 from grew_trans GGw20.out gg)
 replace Y := zA (Ty.M_below Y.out gg)
 replace H := zA (Ty.M_below H.out gg)
 replace BKp0 := zA (blk_below BKp0.out gg)
 replace BKvw := zA (blk_below BKvw.out gg)
 replace BKx0 := zA (blk_below BKx0.out gg)
 replace BKvg := zA (blk_below BKvg.out gg)
 replace BKvh := zA (blk_below BKvh.out gg)
 clear gg
 obtain ⟨⟨hcgp00, hfgp00⟩, ⟨hcgp01, hfgp01⟩⟩ := cells2 BKp0.out
 obtain ⟨⟨hcgvw0, hfgvw0⟩, ⟨hcgvw1, hfgvw1⟩⟩ := cells2 BKvw.out
 obtain ⟨⟨hcgx00, hfgx00⟩, ⟨hcgx01, hfgx01⟩⟩ := cells2 BKx0.out
 obtain ⟨⟨hcgvg0, hfgvg0⟩, ⟨hcgvg1, hfgvg1⟩⟩ := cells2 BKvg.out
 obtain ⟨⟨hcgvh0, hfgvh0⟩, ⟨hcgvh1, hfgvh1⟩⟩ := cells2 BKvh.out
 go_wp2
 go_ret
 exact ⟨rfl, Gw21.out⟩
end Go.Proofs.YtmgmdnmfalepkaaGreat.LawMer
