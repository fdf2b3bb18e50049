/- Parts of the proof (see the row's own text): SealI, LawSeal. -/
import Derived.Test.YtmgmdnmfalepkaaG18
import Derived.Test.YtmgmdnmfalepkaaG6
import Derived.Deep.RegionHeld3
import Derived.Deep.DeepCutAuto
namespace Go.Proofs.Ytmgmdnmfalepkaa.Seal
open Go.RowKit Go.Proofs.YtmgmdnmfalepkaaW.PrintWords Go.Proofs.YtmgmdnmfalepkaaW.PrintMore Go.Proofs.Ytmgmdnmfalepkaa.Kit Go.Proofs.Ytmgmdnmfalepkaa.PKit Go.Proofs.Ytmgmdnmfalepkaa.Ty Go.Proofs.Ytmgmdnmfalepkaa.PSeg Go.Proofs.Ytmgmdnmfalepkaa.PEnc Go.Proofs.Ytmgmdnmfalepkaa.PDec Go.Proofs.Ytmgmdnmfalepkaa.PSta Go.Proofs.Ytmgmdnmfalepkaa.HelpBB Go.Proofs.Ytmgmdnmfalepkaa.HelpSeg
open Go.Proofs.Ytmgmdnmfalepkaa.Build hiding code ans
set_option linter.unusedVariables false
set_option linter.unusedSimpArgs false
open Go.Proofs.Ytmgmdnmfalepkaa.Sto
theorem seal_good (x : StaT) (hb0 : Bytes x.1) (hb1 : Bytes x.2) (ss : List SegT) (h : segsOf x = some ss) : (∀ s ∈ (sealF x.2 ss).1.1, Sto.Good s) ∧ (sealF x.2 ss).1.1.length ≤ 1048576 ∧ smallBB (sealF x.2 ss).1.2 := by
  have hg := chain_good (segsOf_some h).1 hb0
  obtain ⟨n1, n2, n3⟩ := chain_len0 (segsOf_some h).1
  unfold sealF
  by_cases he : x.2 = []
  · rw [if_pos he]
    exact ⟨hg, by show ss.length ≤ _; omega, by show ([] : List (List Int)).length + totalB [] ≤ 1048576; decide⟩
  · rw [if_neg he]
    refine ⟨fun s hs => ?_, by show (ss ++ [_]).length ≤ _; rw [List.length_append, List.length_singleton]; omega, by show ([] : List (List Int)).length + totalB [] ≤ 1048576; decide⟩
    rcases List.mem_append.1 hs with hs | hs
    · exact hg s hs
    · rw [List.mem_singleton.1 hs]
      exact ⟨rfl, seal_fits h he, hb1⟩
set_option maxRecDepth 100000 in
set_option maxHeartbeats 4000000 in
theorem implC (x0 : StaT) (v0 : Value) (w : World) (h0 : HelpSta.tSta.K w x0 v0) (s0 : HelpSta.smallSta x0) (y0 : Bytes x0.1) (y1 : Bytes x0.2) :
    Calls Try.prog 54 #[v0] w fun e w' => ∃ v', e = .returned (.tuple #[v', .int .i64 (seal_ x0).2]) ∧ HelpSta.tSta.M w' w.heap.size (fun _ => True) (seal_ x0).1 v' ∧ Grew w w' := by
  have huT := Try.underlying73
  obtain ⟨q0, q1⟩ := HelpSta.small_parts s0
  obtain ⟨l, rfl, u0, r0, rfl, ⟨A0, c0, rfl, l0, k0⟩, u1, rfl, ⟨A1, c1, rfl, l1, k1⟩⟩ := h0
  have HCH := Aside0.mk (fun (W : World) (hW : Below w.heap.size w W) => changed_calls 114 #[] (enters_of Try.func114 (by kernel_rfl) rfl) x0 (sealF x0.2) A0 A1 c0 c1 W (Kd.C_below k0 hW) l0 (Kd.C_below k1 hW) l1 y0 y1 q0 q1 (fun w0 _ => seal_step x0 y1 q1 w0) (fun ss h => seal_good x0 y0 y1 ss h))
  have HSE := Aside0.mk (seal_chg x0)
  clear k0 k1 y0 y1 s0 q0 q1
  show Calls Try.prog 54 #[.agg #[.slice A0 x0.1.length c0, .slice A1 x0.2.length c1]] w _
  rw [HSE.out]
  clear HSE
  generalize chg x0 (sealF x0.2) = z at HCH ⊢
  obtain ⟨⟨z1, z2⟩, cd⟩ := z
  go_enter Try.func54, Try.ntmps54
  go_wp2_with (first | ((with_reducible refine gate_dst (N := 1) rfl ?_); refine box_event ?hg (N := 1) ?hd (cs := #[.slice A0 x0.1.length c0, .slice A1 x0.2.length c1]) (t := 73) ?hr ?_; (case hd => rfl); (case hg => rfl); (case hr => first | (go_simp; done) | (go_simp; rfl)); intro gx hg_ w1 hbx hbb; have BKgx := Aside0.mk hbx; have GEgx := Aside0.mk (show w.heap.size ≤ gx from Nat.le_of_eq hg_.symm); have GLgx := Aside0.mk (blk_lt hbx); have HBw1 := Aside0.mk hbb; clear hg_ hbb; obtain ⟨⟨hgxc0, hgxf0⟩, ⟨hgxc1, hgxf1⟩⟩ := cells2 hbx; clear hbx) | ((with_reducible refine gate_dst (N := 2) rfl ?_); refine box_event ?hg (N := 2) ?hd (cs := #[.slice none 0 0, .slice none 0 0]) (t := 73) ?hr ?_; (case hd => rfl); (case hg => rfl); (case hr => first | (go_simp; done) | (go_simp; rfl)); intro gr hg_ w2 hbx hbb; have BKgr := Aside0.mk hbx; have GEgr := Aside0.mk (show w1.heap.size ≤ gr from Nat.le_of_eq hg_.symm); have GLgr := Aside0.mk (blk_lt hbx); have HBw2 := Aside0.mk hbb; clear hg_ hbb; obtain ⟨⟨hgrc0, hgrf0⟩, ⟨hgrc1, hgrf1⟩⟩ := cells2 hbx; clear hbx; have BKp_ := Aside0.mk (blk_below BKgx.out HBw2.out); clear BKgx hgxc0 hgxf0 hgxc1 hgxf1; have BKgx := BKp_; clear BKp_; obtain ⟨⟨pc0, pf0⟩, ⟨pc1, pf1⟩⟩ := cells2 BKgx.out))
  have HB2 := Aside0.mk (show Below w.heap.size w w2 from grew_trans HBw1.out HBw2.out)
  have GER := Aside0.mk (show w.heap.size ≤ gr from Nat.le_trans HBw1.out.size GEgr.out)
  clear hgrc0 hgrf0 hgrc1 hgrf1 pc0 pf0 pc1 pf1
  go_at_call 113
  refine (HCH.out _ HB2.out).mono ?_
  rintro e w3 ⟨v3, rfl, hM3, hb3⟩
  obtain ⟨E0, e0, E1, e1, ev⟩ := HelpSta.form (HelpSta.tSta.K_of_M hM3)
  subst ev
  have HM3 := Aside0.mk hM3
  have BK3 := Aside0.mk (blk_below BKgr.out hb3)
  have HB3 := Aside0.mk (show Below w.heap.size w w3 from grew_trans HB2.out hb3)
  have GLR := Aside0.mk (blk_lt BKgr.out)
  obtain ⟨⟨r0, rf0⟩, ⟨r1, rf1⟩⟩ := cells2 BK3.out
  clear hb3 hM3
  go_wp2
  refine bodyPost_ret (results_ct rfl _ _ gr 73 #[.slice E0 z1.length e0, .slice E1 z2.length e1] (0, 0) _ rfl (by (with_reducible repeat (first | refine blk_drewN ?_ _ | refine blk_drew ?_ | refine blk_alloc ?_ _)); refine blk_put (cs := #[.slice E0 z1.length e0, .slice none 0 0]) ?_ 1 _ rfl; (with_reducible repeat (first | refine blk_drewN ?_ _ | refine blk_drew ?_ | refine blk_alloc ?_ _)); refine blk_put (cs := #[.slice none 0 0, .slice none 0 0]) ?_ 0 _ rfl; (with_reducible repeat (first | refine blk_drewN ?_ _ | refine blk_drew ?_ | refine blk_alloc ?_ _)); exact BK3.out) Try.underlying73 rfl (by kernel_rfl)) rfl ?_
  refine ⟨_, rfl, ?_, below_set (below_set (HB3.out) GER.out) GER.out⟩
  exact HelpSta.tSta.M_mono (fun _ _ => trivial) ((Ty.M_set (T := HelpSta.tSta) (Ty.M_set (T := HelpSta.tSta) (HelpSta.tSta.M_lower HB2.out.size (HelpSta.tSta.M_bound HM3.out)) (fun k hk e => by have h1 := hk.2.1; have h2 := GLR.out; omega) _) (fun k hk e => by have h1 := hk.2.1; have h2 := GLR.out; omega) _))
theorem sml (a b : List (List Int)) (h1 : a.length ≤ 1099511627776) (h2 : b.length ≤ 1099511627776) (h3 : totalB a + totalB b ≤ 1099511627000) : HelpSta.bdSta (a, b) ∧ HelpSta.cntSta (a, b) ≤ 1099511627000 :=
  ⟨⟨⟨h1, by show totalB a ≤ _; omega⟩, ⟨h2, by show totalB b ≤ _; omega⟩⟩, h3⟩
theorem ans_small (x0 : StaT) (s0 : HelpSta.smallSta x0) (y0 : Bytes x0.1) (y1 : Bytes x0.2) : HelpSta.bdSta (seal_ x0).1 ∧ HelpSta.cntSta (seal_ x0).1 ≤ 1099511627000 := by
  have h0 : (x0.1.length + totalB x0.1) + (x0.2.length + totalB x0.2) ≤ 1048576 := s0
  have hz : totalB ([] : List (List Int)) = 0 := rfl
  cases hs : segsOf x0 with
  | none =>
    rw [show seal_ x0 = (([], []), 4) from by unfold seal_; rw [hs]]
    exact sml [] [] (by decide) (by decide) (by decide)
  | some ss =>
    have e : seal_ x0 = ((if x0.2 = [] then x0.1 else x0.1 ++ [code (seg ((nlin ss : Nat) : Int) x0.2)], []), 0) := by unfold seal_; rw [hs]
    rw [e]
    by_cases he : x0.2 = []
    · rw [if_pos he]
      exact sml x0.1 [] (by omega) (by decide) (by rw [hz]; omega)
    · rw [if_neg he]
      have hc := code_len (encOk_seg (seal_fits hs he) y1)
      exact sml (x0.1 ++ [code (seg ((nlin ss : Nat) : Int) x0.2)]) [] (by rw [List.length_append, List.length_singleton]; omega) (by decide) (by rw [total_snoc, hz]; omega)
end Go.Proofs.Ytmgmdnmfalepkaa.Seal

namespace Go.Proofs.Ytmgmdnmfalepkaa.LawSeal
open Go.RowKit Go.Proofs.YtmgmdnmfalepkaaW.PrintWords Go.Proofs.YtmgmdnmfalepkaaW.PrintMore Go.Proofs.Ytmgmdnmfalepkaa.Kit Go.Proofs.Ytmgmdnmfalepkaa.PKit Go.Proofs.Ytmgmdnmfalepkaa.Ty Go.Proofs.Ytmgmdnmfalepkaa.Seal Go.Proofs.Ytmgmdnmfalepkaa.PSeg Go.Proofs.Ytmgmdnmfalepkaa.PSta
set_option linter.unusedVariables false
theorem cells2 {w : World} {g : Nat} {t : TypeId} {a0 a1 : Value} (h : w.heap[g]? = some (.cells #[a0, a1] t (0, 0))) : (w.cell? ⟨g, 0, none⟩ = some a0 ∧ w.frozen? ⟨g, 0, none⟩ = false) ∧ (w.cell? ⟨g, 1, none⟩ = some a1 ∧ w.frozen? ⟨g, 1, none⟩ = false) := ⟨⟨(blk_cell h 0).trans rfl, blk_frozen h 0⟩, ⟨(blk_cell h 1).trans rfl, blk_frozen h 1⟩⟩
set_option maxRecDepth 100000 in
set_option maxHeartbeats 4000000 in
theorem law_calls (x0 : HelpSta.X) (v0 : Value) (w : World) (h0 : HelpSta.tSta.K w x0 v0) (y0 : Bytes x0.1) (y1 : Bytes x0.2) :
    Calls Try.prog 10 #[v0] w fun e w' => e = .returned (.bool true) ∧ Below w.heap.size w w' := by
  have hu73 := Try.underlying73
  have hu71 := Try.underlying71
  obtain ⟨A0p0, c0p0, A1p0, c1p0, es_⟩ := HelpSta.form h0
  subst es_
  have K0 := Aside0.mk h0
  clear h0
  have Ay0 := Aside0.mk y0
  have Ay1 := Aside0.mk y1
  clear y0 y1
  obtain ⟨r0, hr0, hz0⟩ := HelpSta.sz_pure x0 1048576 (by omega) (by omega) ⟨w, _, K0.out⟩
  by_cases q0 : r0 < 0
  · clear hr0
    go_enter Try.func10, Try.ntmps10
    go_wp2_with (first | ((with_reducible refine gate_dst (N := 1) rfl ?_); refine box_event ?hg (N := 1) ?hd (cs := #[.slice A0p0 (x0.1).length c0p0, .slice A1p0 (x0.2).length c1p0]) (t := 71) ?hr ?_; (case hd => rfl); (case hg => rfl); (case hr => first | (go_simp; done) | (go_simp; rfl)); intro gp0 hgb w1 hbx gg; have PGp0 := Aside0.mk (show w.heap.size ≤ gp0 from Nat.le_of_eq hgb.symm); have PLp0 := Aside0.mk (blk_lt hbx); have BKp0 := Aside0.mk hbx; clear hgb hbx; have Gw1 := Aside0.mk (show Grew w w1 from grew_trans (Below.refl _ _) gg); have Ew1 := Aside0.mk gg.size; clear gg; obtain ⟨⟨hcgp00, hfgp00⟩, ⟨hcgp01, hfgp01⟩⟩ := cells2 BKp0.out))
    go_at_call 51
    refine (hz0 _ (HelpSta.tSta.K_below (Gw1.out) K0.out)).mono ?_
    rintro e w2 ⟨rfl, gg⟩
    clear hcgp00 hfgp00 hcgp01 hfgp01
    have Gw2 := Aside0.mk (show Grew w w2 from grew_trans (Gw1.out) gg)
    have Ew2 := Aside0.mk gg.size
    replace BKp0 := Aside0.mk (blk_below BKp0.out gg)
    clear gg
    obtain ⟨⟨hcgp00, hfgp00⟩, ⟨hcgp01, hfgp01⟩⟩ := cells2 BKp0.out
    go_wp2
    go_ret
    exact ⟨rfl, Gw2.out⟩
  obtain ⟨l0, m0, s0⟩ := hr0 (by omega)
  have S0 := Aside0.mk s0
  clear s0 hr0
  have B0 := Aside0.mk (HelpSta.bd_small S0.out)
  have rb := ans_small x0 S0.out Ay0.out Ay1.out
  have RB := Aside0.mk rb
  clear rb
  have cx0 : (HelpSta.cntSta x0 : Int) ≤ 1048576 := Int.ofNat_le.2 (HelpSta.cnt_small S0.out)
  have p1 : ¬ (1 + (HelpSta.cntSta x0 : Int) < 0) := by omega
  obtain ⟨C, hC⟩ : ∃ C, (seal_ x0).2 = C := ⟨_, rfl⟩
  have HCO := Aside0.mk hC
  clear hC
  generalize hR : (seal_ x0).1 = R at RB
  have HR := Aside0.mk hR
  clear hR
  have cr : (HelpSta.cntSta R : Int) ≤ 1099511627000 := Int.ofNat_le.2 RB.out.2
  have p2 : ¬ (1 + (HelpSta.cntSta R : Int) < 0) := by omega
  go_enter Try.func10, Try.ntmps10
  go_wp2_with (first | ((with_reducible refine gate_dst (N := 1) rfl ?_); refine box_event ?hg (N := 1) ?hd (cs := #[.slice A0p0 (x0.1).length c0p0, .slice A1p0 (x0.2).length c1p0]) (t := 71) ?hr ?_; (case hd => rfl); (case hg => rfl); (case hr => first | (go_simp; done) | (go_simp; rfl)); intro gp0 hgb w1 hbx gg; have PGp0 := Aside0.mk (show w.heap.size ≤ gp0 from Nat.le_of_eq hgb.symm); have PLp0 := Aside0.mk (blk_lt hbx); have BKp0 := Aside0.mk hbx; clear hgb hbx; have Gw1 := Aside0.mk (show Grew w w1 from grew_trans (Below.refl _ _) gg); have Ew1 := Aside0.mk gg.size; clear gg; obtain ⟨⟨hcgp00, hfgp00⟩, ⟨hcgp01, hfgp01⟩⟩ := cells2 BKp0.out))
  go_at_call 51
  refine (hz0 _ (HelpSta.tSta.K_below (Gw1.out) K0.out)).mono ?_
  rintro e w2 ⟨rfl, gg⟩
  clear hcgp00 hfgp00 hcgp01 hfgp01
  have Gw2 := Aside0.mk (show Grew w w2 from grew_trans (Gw1.out) gg)
  have Ew2 := Aside0.mk gg.size
  replace BKp0 := Aside0.mk (blk_below BKp0.out gg)
  clear gg
  obtain ⟨⟨hcgp00, hfgp00⟩, ⟨hcgp01, hfgp01⟩⟩ := cells2 BKp0.out
  go_wp2_with fail
  go_at_call 53
  refine (HelpSta.to_calls x0 (.agg #[.slice A0p0 (x0.1).length c0p0, .slice A1p0 (x0.2).length c1p0]) _ (HelpSta.tSta.K_below (Gw2.out) K0.out) B0.out).mono ?_
  rintro e w3 ⟨tT0, rfl, ht_, gg⟩
  clear hcgp00 hfgp00 hcgp01 hfgp01
  have Gw3 := Aside0.mk (show Grew w w3 from grew_trans (Gw2.out) gg)
  have Ew3 := Aside0.mk gg.size
  replace BKp0 := Aside0.mk (blk_below BKp0.out gg)
  have T0 := Aside0.mk ( ht_)
  clear ht_
  clear gg
  go_wp2_with fail
  go_at_call 52
  refine (specC x0 tT0 _ (HelpSta.tSta.K_of_M T0.out) S0.out Ay0.out Ay1.out).mono ?_
  rintro e w4 ⟨v, rfl, hk, gg⟩
  have Gw4 := Aside0.mk (show Grew w w4 from grew_trans (Gw3.out) gg)
  have Ew4 := Aside0.mk gg.size
  replace T0 := Aside0.mk (Ty.M_below T0.out gg)
  replace BKp0 := Aside0.mk (blk_below BKp0.out gg)
  rw [HCO.out]
  rw [HR.out] at hk
  have W := Aside0.mk hk
  clear hk
  clear gg
  clear T0
  obtain ⟨A0vw, c0vw, A1vw, c1vw, es_⟩ := HelpSta.form W.out
  subst es_
  obtain ⟨⟨hcgp00, hfgp00⟩, ⟨hcgp01, hfgp01⟩⟩ := cells2 BKp0.out
  obtain ⟨⟨hdgp00, hegp00⟩, ⟨hdgp01, hegp01⟩⟩ := cells2 (blk_alloc BKp0.out (.cells #[.slice A0vw (R.1).length c0vw, .slice A1vw (R.2).length c1vw] 73 (0, 0)))
  go_wp2_with fail
  obtain ⟨gvw, hgb⟩ : ∃ g_, g_ = w4.heap.size := ⟨_, rfl⟩
  obtain ⟨w5, hW_⟩ : ∃ w_, w_ = w4.alloc (.cells #[.slice A0vw (R.1).length c0vw, .slice A1vw (R.2).length c1vw] 73 (0, 0)) := ⟨_, rfl⟩
  rw [← hW_, ← hgb]
  have BKvw := Aside0.mk (show w5.heap[gvw]? = some (.cells #[.slice A0vw (R.1).length c0vw, .slice A1vw (R.2).length c1vw] 73 (0, 0)) from by rw [hW_, hgb]; exact blk_new w4 _)
  have gg : Grew w4 w5 := by rw [hW_]; exact below_alloc (Below.refl _ _) _
  have GW_ := Aside0.mk gg
  have PGvw := Aside0.mk (show w4.heap.size ≤ gvw from Nat.le_of_eq hgb.symm)
  have PLvw := Aside0.mk (blk_lt BKvw.out)
  clear hW_ hgb
  clear hcgp00 hfgp00 hcgp01 hfgp01 hdgp00 hegp00 hdgp01 hegp01
  have Gw5 := Aside0.mk (show Grew w w5 from grew_trans (Gw4.out) gg)
  have Ew5 := Aside0.mk gg.size
  replace BKp0 := Aside0.mk (blk_below BKp0.out gg)
  clear gg
  have GGw5 := Aside0.mk (show Grew w5 w5 from Below.refl _ _)
  have n_ := Aside0.mk (HelpSta.tSta.K_below GW_.out W.out)
  clear W
  have W := n_
  clear n_
  go_at_call 53
  refine (HelpSta.to_calls x0 (.agg #[.slice A0p0 (x0.1).length c0p0, .slice A1p0 (x0.2).length c1p0]) _ (HelpSta.tSta.K_below (Gw5.out) K0.out) B0.out).mono ?_
  rintro e w6 ⟨tX0, rfl, ht_, gg⟩
  have Gw6 := Aside0.mk (show Grew w w6 from grew_trans (Gw5.out) gg)
  have Ew6 := Aside0.mk gg.size
  have GGw6 := Aside0.mk (show Grew w5 w6 from grew_trans GGw5.out gg)
  replace BKp0 := Aside0.mk (blk_below BKp0.out gg)
  replace BKvw := Aside0.mk (blk_below BKvw.out gg)
  have X0 := Aside0.mk (HelpSta.tSta.M_lower (GGw5.out).size (Ty.M_beyond ht_))
  clear ht_
  clear gg
  obtain ⟨A0x0, c0x0, A1x0, c1x0, es_⟩ := HelpSta.form (HelpSta.tSta.K_of_M X0.out)
  subst es_
  obtain ⟨⟨hcgp00, hfgp00⟩, ⟨hcgp01, hfgp01⟩⟩ := cells2 BKp0.out
  obtain ⟨⟨hcgvw0, hfgvw0⟩, ⟨hcgvw1, hfgvw1⟩⟩ := cells2 BKvw.out
  obtain ⟨⟨hdgp00, hegp00⟩, ⟨hdgp01, hegp01⟩⟩ := cells2 (blk_alloc BKp0.out (.cells #[.slice A0x0 (x0.1).length c0x0, .slice A1x0 (x0.2).length c1x0] 73 (0, 0)))
  obtain ⟨⟨hdgvw0, hegvw0⟩, ⟨hdgvw1, hegvw1⟩⟩ := cells2 (blk_alloc BKvw.out (.cells #[.slice A0x0 (x0.1).length c0x0, .slice A1x0 (x0.2).length c1x0] 73 (0, 0)))
  go_wp2_with fail
  obtain ⟨gx0, hgb⟩ : ∃ g_, g_ = w6.heap.size := ⟨_, rfl⟩
  obtain ⟨w7, hW_⟩ : ∃ w_, w_ = w6.alloc (.cells #[.slice A0x0 (x0.1).length c0x0, .slice A1x0 (x0.2).length c1x0] 73 (0, 0)) := ⟨_, rfl⟩
  rw [← hW_, ← hgb]
  have BKx0 := Aside0.mk (show w7.heap[gx0]? = some (.cells #[.slice A0x0 (x0.1).length c0x0, .slice A1x0 (x0.2).length c1x0] 73 (0, 0)) from by rw [hW_, hgb]; exact blk_new w6 _)
  have gg : Grew w6 w7 := by rw [hW_]; exact below_alloc (Below.refl _ _) _
  have PGx0 := Aside0.mk (show w6.heap.size ≤ gx0 from Nat.le_of_eq hgb.symm)
  have PLx0 := Aside0.mk (blk_lt BKx0.out)
  clear hW_ hgb
  clear hcgp00 hfgp00 hcgp01 hfgp01 hcgvw0 hfgvw0 hcgvw1 hfgvw1 hdgp00 hegp00 hdgp01 hegp01 hdgvw0 hegvw0 hdgvw1 hegvw1
  have Gw7 := Aside0.mk (show Grew w w7 from grew_trans (Gw6.out) gg)
  have Ew7 := Aside0.mk gg.size
  have GGw7 := Aside0.mk (show Grew w5 w7 from grew_trans GGw6.out gg)
  replace X0 := Aside0.mk (Ty.M_below X0.out gg)
  replace BKp0 := Aside0.mk (blk_below BKp0.out gg)
  replace BKvw := Aside0.mk (blk_below BKvw.out gg)
  clear gg
  go_at_call 54
  refine (implC x0 (.agg #[.slice A0x0 (x0.1).length c0x0, .slice A1x0 (x0.2).length c1x0]) _ (HelpSta.tSta.K_of_M X0.out) S0.out Ay0.out Ay1.out).mono ?_
  rintro e w8 ⟨g, rfl, hm, gg⟩
  have Gw8 := Aside0.mk (show Grew w w8 from grew_trans (Gw7.out) gg)
  have Ew8 := Aside0.mk gg.size
  have GGw8 := Aside0.mk (show Grew w5 w8 from grew_trans GGw7.out gg)
  replace X0 := Aside0.mk (Ty.M_below X0.out gg)
  replace BKp0 := Aside0.mk (blk_below BKp0.out gg)
  replace BKvw := Aside0.mk (blk_below BKvw.out gg)
  replace BKx0 := Aside0.mk (blk_below BKx0.out gg)
  rw [HCO.out]
  rw [HR.out] at hm
  have Y := Aside0.mk (HelpSta.tSta.M_lower (GGw7.out).size (Ty.M_beyond hm))
  clear hm
  clear gg
  obtain ⟨A0vg, c0vg, A1vg, c1vg, es_⟩ := HelpSta.form (HelpSta.tSta.K_of_M Y.out)
  subst es_
  obtain ⟨⟨hcgp00, hfgp00⟩, ⟨hcgp01, hfgp01⟩⟩ := cells2 BKp0.out
  obtain ⟨⟨hcgvw0, hfgvw0⟩, ⟨hcgvw1, hfgvw1⟩⟩ := cells2 BKvw.out
  obtain ⟨⟨hcgx00, hfgx00⟩, ⟨hcgx01, hfgx01⟩⟩ := cells2 BKx0.out
  obtain ⟨⟨hdgp00, hegp00⟩, ⟨hdgp01, hegp01⟩⟩ := cells2 (blk_alloc BKp0.out (.cells #[.slice A0vg (R.1).length c0vg, .slice A1vg (R.2).length c1vg] 73 (0, 0)))
  obtain ⟨⟨hdgvw0, hegvw0⟩, ⟨hdgvw1, hegvw1⟩⟩ := cells2 (blk_alloc BKvw.out (.cells #[.slice A0vg (R.1).length c0vg, .slice A1vg (R.2).length c1vg] 73 (0, 0)))
  obtain ⟨⟨hdgx00, hegx00⟩, ⟨hdgx01, hegx01⟩⟩ := cells2 (blk_alloc BKx0.out (.cells #[.slice A0vg (R.1).length c0vg, .slice A1vg (R.2).length c1vg] 73 (0, 0)))
  go_wp2_with fail
  obtain ⟨gvg, hgb⟩ : ∃ g_, g_ = w8.heap.size := ⟨_, rfl⟩
  obtain ⟨w9, hW_⟩ : ∃ w_, w_ = w8.alloc (.cells #[.slice A0vg (R.1).length c0vg, .slice A1vg (R.2).length c1vg] 73 (0, 0)) := ⟨_, rfl⟩
  rw [← hW_, ← hgb]
  have BKvg := Aside0.mk (show w9.heap[gvg]? = some (.cells #[.slice A0vg (R.1).length c0vg, .slice A1vg (R.2).length c1vg] 73 (0, 0)) from by rw [hW_, hgb]; exact blk_new w8 _)
  have gg : Grew w8 w9 := by rw [hW_]; exact below_alloc (Below.refl _ _) _
  have PGvg := Aside0.mk (show w8.heap.size ≤ gvg from Nat.le_of_eq hgb.symm)
  have PLvg := Aside0.mk (blk_lt BKvg.out)
  clear hW_ hgb
  clear hcgp00 hfgp00 hcgp01 hfgp01 hcgvw0 hfgvw0 hcgvw1 hfgvw1 hcgx00 hfgx00 hcgx01 hfgx01 hdgp00 hegp00 hdgp01 hegp01 hdgvw0 hegvw0 hdgvw1 hegvw1 hdgx00 hegx00 hdgx01 hegx01
  have Gw9 := Aside0.mk (show Grew w w9 from grew_trans (Gw8.out) gg)
  have Ew9 := Aside0.mk gg.size
  have GGw9 := Aside0.mk (show Grew w5 w9 from grew_trans GGw8.out gg)
  replace X0 := Aside0.mk (Ty.M_below X0.out gg)
  replace Y := Aside0.mk (Ty.M_below Y.out gg)
  replace BKp0 := Aside0.mk (blk_below BKp0.out gg)
  replace BKvw := Aside0.mk (blk_below BKvw.out gg)
  replace BKx0 := Aside0.mk (blk_below BKx0.out gg)
  clear gg
  go_at_call 55
  refine (HelpSta.eq_calls R (.agg #[.slice A0vg (R.1).length c0vg, .slice A1vg (R.2).length c1vg]) (.agg #[.slice A0vw (R.1).length c0vw, .slice A1vw (R.2).length c1vw]) _ (HelpSta.tSta.K_of_M Y.out) (HelpSta.tSta.K_below GGw9.out W.out) RB.out.1).mono ?_
  rintro e w10 ⟨rfl, gg⟩
  have Gw10 := Aside0.mk (show Grew w w10 from grew_trans (Gw9.out) gg)
  have Ew10 := Aside0.mk gg.size
  have GGw10 := Aside0.mk (show Grew w5 w10 from grew_trans GGw9.out gg)
  replace X0 := Aside0.mk (Ty.M_below X0.out gg)
  replace Y := Aside0.mk (Ty.M_below Y.out gg)
  replace BKp0 := Aside0.mk (blk_below BKp0.out gg)
  replace BKvw := Aside0.mk (blk_below BKvw.out gg)
  replace BKx0 := Aside0.mk (blk_below BKx0.out gg)
  replace BKvg := Aside0.mk (blk_below BKvg.out gg)
  clear gg
  obtain ⟨⟨hcgp00, hfgp00⟩, ⟨hcgp01, hfgp01⟩⟩ := cells2 BKp0.out
  obtain ⟨⟨hcgvw0, hfgvw0⟩, ⟨hcgvw1, hfgvw1⟩⟩ := cells2 BKvw.out
  obtain ⟨⟨hcgx00, hfgx00⟩, ⟨hcgx01, hfgx01⟩⟩ := cells2 BKx0.out
  obtain ⟨⟨hcgvg0, hfgvg0⟩, ⟨hcgvg1, hfgvg1⟩⟩ := cells2 BKvg.out
  go_wp2_with fail
  go_region_held3 (fun W_ => W_.cell? ⟨gp0, 0, none⟩ = some (.slice A0p0 (x0.1).length c0p0) ∧ W_.cell? ⟨gp0, 1, none⟩ = some (.slice A1p0 (x0.2).length c1p0) ∧ W_.cell? ⟨gx0, 0, none⟩ = some (.slice A0x0 (x0.1).length c0x0) ∧ W_.cell? ⟨gx0, 1, none⟩ = some (.slice A1x0 (x0.2).length c1x0) ∧ W_.frozen? ⟨gp0, 0, none⟩ = false ∧ W_.frozen? ⟨gp0, 1, none⟩ = false ∧ W_.frozen? ⟨gx0, 0, none⟩ = false ∧ W_.frozen? ⟨gx0, 1, none⟩ = false) (first | exact ⟨(blk_cell BKp0.out 0).trans rfl, (blk_cell BKp0.out 1).trans rfl, (blk_cell BKx0.out 0).trans rfl, (blk_cell BKx0.out 1).trans rfl, blk_frozen BKp0.out 0, blk_frozen BKp0.out 1, blk_frozen BKx0.out 0, blk_frozen BKx0.out 1⟩ | exact ⟨(blk_cell (blk_below (o := .cells #[.slice A0p0 (x0.1).length c0p0, .slice A1p0 (x0.2).length c1p0] 71 (0, 0)) BKp0.out gA_.out) 0).trans rfl, (blk_cell (blk_below (o := .cells #[.slice A0p0 (x0.1).length c0p0, .slice A1p0 (x0.2).length c1p0] 71 (0, 0)) BKp0.out gA_.out) 1).trans rfl, (blk_cell (blk_below (o := .cells #[.slice A0x0 (x0.1).length c0x0, .slice A1x0 (x0.2).length c1x0] 73 (0, 0)) BKx0.out gA_.out) 0).trans rfl, (blk_cell (blk_below (o := .cells #[.slice A0x0 (x0.1).length c0x0, .slice A1x0 (x0.2).length c1x0] 73 (0, 0)) BKx0.out gA_.out) 1).trans rfl, blk_frozen (blk_below (o := .cells #[.slice A0p0 (x0.1).length c0p0, .slice A1p0 (x0.2).length c1p0] 71 (0, 0)) BKp0.out gA_.out) 0, blk_frozen (blk_below (o := .cells #[.slice A0p0 (x0.1).length c0p0, .slice A1p0 (x0.2).length c1p0] 71 (0, 0)) BKp0.out gA_.out) 1, blk_frozen (blk_below (o := .cells #[.slice A0x0 (x0.1).length c0x0, .slice A1x0 (x0.2).length c1x0] 73 (0, 0)) BKx0.out gA_.out) 0, blk_frozen (blk_below (o := .cells #[.slice A0x0 (x0.1).length c0x0, .slice A1x0 (x0.2).length c1x0] 73 (0, 0)) BKx0.out gA_.out) 1⟩ | exact ⟨(blk_cell (blk_below (o := .cells #[.slice A0p0 (x0.1).length c0p0, .slice A1p0 (x0.2).length c1p0] 71 (0, 0)) BKp0.out (grew_trans gA_.out gB_.out)) 0).trans rfl, (blk_cell (blk_below (o := .cells #[.slice A0p0 (x0.1).length c0p0, .slice A1p0 (x0.2).length c1p0] 71 (0, 0)) BKp0.out (grew_trans gA_.out gB_.out)) 1).trans rfl, (blk_cell (blk_below (o := .cells #[.slice A0x0 (x0.1).length c0x0, .slice A1x0 (x0.2).length c1x0] 73 (0, 0)) BKx0.out (grew_trans gA_.out gB_.out)) 0).trans rfl, (blk_cell (blk_below (o := .cells #[.slice A0x0 (x0.1).length c0x0, .slice A1x0 (x0.2).length c1x0] 73 (0, 0)) BKx0.out (grew_trans gA_.out gB_.out)) 1).trans rfl, blk_frozen (blk_below (o := .cells #[.slice A0p0 (x0.1).length c0p0, .slice A1p0 (x0.2).length c1p0] 71 (0, 0)) BKp0.out (grew_trans gA_.out gB_.out)) 0, blk_frozen (blk_below (o := .cells #[.slice A0p0 (x0.1).length c0p0, .slice A1p0 (x0.2).length c1p0] 71 (0, 0)) BKp0.out (grew_trans gA_.out gB_.out)) 1, blk_frozen (blk_below (o := .cells #[.slice A0x0 (x0.1).length c0x0, .slice A1x0 (x0.2).length c1x0] 73 (0, 0)) BKx0.out (grew_trans gA_.out gB_.out)) 0, blk_frozen (blk_below (o := .cells #[.slice A0x0 (x0.1).length c0x0, .slice A1x0 (x0.2).length c1x0] 73 (0, 0)) BKx0.out (grew_trans gA_.out gB_.out)) 1⟩ | go_keep) (first | (go_at_call 53; refine (HelpSta.to_calls x0 (.agg #[.slice A0p0 (x0.1).length c0p0, .slice A1p0 (x0.2).length c1p0]) _ (HelpSta.tSta.K_below ?ha K0.out) B0.out).mono ?_; (case ha => repeat (first | exact Gw10.out | apply pw_below_drewN | apply below_drew1)); rintro e w11 ⟨z0, rfl, hz_, gA_⟩; have Z := Aside0.mk hz_; have gA_ := Aside0.mk (show Grew w10 w11 from (by first | exact gA_ | exact grew_trans (by repeat (first | exact Below.refl _ _ | apply pw_below_drewN | apply below_drew1)) gA_)); clear hz_) | (go_at_call 55; refine (HelpSta.eq_calls x0 (.agg #[.slice A0x0 (x0.1).length c0x0, .slice A1x0 (x0.2).length c1x0]) z0 _ (HelpSta.tSta.K_below ?hb (HelpSta.tSta.K_of_M X0.out)) (HelpSta.tSta.K_below ?hc (HelpSta.tSta.K_of_M Z.out)) B0.out).mono ?_; (case hb => repeat (first | exact gA_.out | apply pw_below_drewN | apply below_drew1)); (case hc => repeat (first | exact Below.refl _ _ | apply pw_below_drewN | apply below_drew1)); rintro e w12 ⟨rfl, gB_⟩; have gB_ := Aside0.mk (show Grew w11 w12 from (by first | exact gB_ | exact grew_trans (by repeat (first | exact Below.refl _ _ | apply pw_below_drewN | apply below_drew1)) gB_))))
  have gg : Grew w10 w12 := grew_trans gA_.out gB_.out
  clear gA_ gB_ Z
  clear hcgp00 hfgp00 hcgp01 hfgp01 hcgvw0 hfgvw0 hcgvw1 hfgvw1 hcgx00 hfgx00 hcgx01 hfgx01 hcgvg0 hfgvg0 hcgvg1 hfgvg1
  have Gw12 := Aside0.mk (show Grew w w12 from grew_trans (Gw10.out) gg)
  have Ew12 := Aside0.mk gg.size
  have GGw12 := Aside0.mk (show Grew w5 w12 from grew_trans GGw10.out gg)
  replace X0 := Aside0.mk (Ty.M_below X0.out gg)
  replace Y := Aside0.mk (Ty.M_below Y.out gg)
  replace BKp0 := Aside0.mk (blk_below BKp0.out gg)
  replace BKvw := Aside0.mk (blk_below BKvw.out gg)
  replace BKx0 := Aside0.mk (blk_below BKx0.out gg)
  replace BKvg := Aside0.mk (blk_below BKvg.out gg)
  clear gg
  obtain ⟨⟨hcgp00, hfgp00⟩, ⟨hcgp01, hfgp01⟩⟩ := cells2 BKp0.out
  obtain ⟨⟨hcgvw0, hfgvw0⟩, ⟨hcgvw1, hfgvw1⟩⟩ := cells2 BKvw.out
  obtain ⟨⟨hcgx00, hfgx00⟩, ⟨hcgx01, hfgx01⟩⟩ := cells2 BKx0.out
  obtain ⟨⟨hcgvg0, hfgvg0⟩, ⟨hcgvg1, hfgvg1⟩⟩ := cells2 BKvg.out
  go_wp2_with fail
  go_at_call 56
  refine (HelpSta.mark_calls x0 (.agg #[.slice A0x0 (x0.1).length c0x0, .slice A1x0 (x0.2).length c1x0]) _ (1) w5 _ GGw12.out X0.out (by omega) (by omega) B0.out).mono ?_
  rintro e w13 ⟨rfl, hm, hb, hkp⟩
  clear hcgp00 hfgp00 hcgp01 hfgp01 hcgvw0 hfgvw0 hcgvw1 hfgvw1 hcgx00 hfgx00 hcgx01 hfgx01 hcgvg0 hfgvg0 hcgvg1 hfgvg1
  have GGw13 := Aside0.mk (show Grew w5 w13 from hb)
  have Gw13 := Aside0.mk (show Grew w w13 from grew_trans Gw5.out hb)
  have Ew13 := Aside0.mk hkp.1
  replace Y := Aside0.mk (Ty.M_kept Y.out hkp (fun k hk hs => by have a1_ := hk.1; have a2_ := hk.2; have a3_ := hs.1; have a4_ := hs.2; have e0_ := Ew1.out; have e1_ := PGp0.out; have e2_ := PLp0.out; have e3_ := Ew2.out; have e4_ := Ew3.out; have e5_ := Ew4.out; have e6_ := Ew5.out; have e7_ := PGvw.out; have e8_ := PLvw.out; have e9_ := Ew6.out; have e10_ := Ew7.out; have e11_ := PGx0.out; have e12_ := PLx0.out; have e13_ := Ew8.out; have e14_ := Ew9.out; have e15_ := PGvg.out; have e16_ := PLvg.out; have e17_ := Ew10.out; have e18_ := Ew12.out; have e19_ := Ew13.out; omega))
  replace BKp0 := Aside0.mk ((hkp.2 _ (blk_lt BKp0.out) (fun hk => by have a1_ := hk.1; have a2_ := hk.2; have e0_ := Ew1.out; have e1_ := PGp0.out; have e2_ := PLp0.out; have e3_ := Ew2.out; have e4_ := Ew3.out; have e5_ := Ew4.out; have e6_ := Ew5.out; have e7_ := PGvw.out; have e8_ := PLvw.out; have e9_ := Ew6.out; have e10_ := Ew7.out; have e11_ := PGx0.out; have e12_ := PLx0.out; have e13_ := Ew8.out; have e14_ := Ew9.out; have e15_ := PGvg.out; have e16_ := PLvg.out; have e17_ := Ew10.out; have e18_ := Ew12.out; have e19_ := Ew13.out; omega)).trans BKp0.out)
  replace BKvw := Aside0.mk ((hkp.2 _ (blk_lt BKvw.out) (fun hk => by have a1_ := hk.1; have a2_ := hk.2; have e0_ := Ew1.out; have e1_ := PGp0.out; have e2_ := PLp0.out; have e3_ := Ew2.out; have e4_ := Ew3.out; have e5_ := Ew4.out; have e6_ := Ew5.out; have e7_ := PGvw.out; have e8_ := PLvw.out; have e9_ := Ew6.out; have e10_ := Ew7.out; have e11_ := PGx0.out; have e12_ := PLx0.out; have e13_ := Ew8.out; have e14_ := Ew9.out; have e15_ := PGvg.out; have e16_ := PLvg.out; have e17_ := Ew10.out; have e18_ := Ew12.out; have e19_ := Ew13.out; omega)).trans BKvw.out)
  replace BKx0 := Aside0.mk ((hkp.2 _ (blk_lt BKx0.out) (fun hk => by have a1_ := hk.1; have a2_ := hk.2; have e0_ := Ew1.out; have e1_ := PGp0.out; have e2_ := PLp0.out; have e3_ := Ew2.out; have e4_ := Ew3.out; have e5_ := Ew4.out; have e6_ := Ew5.out; have e7_ := PGvw.out; have e8_ := PLvw.out; have e9_ := Ew6.out; have e10_ := Ew7.out; have e11_ := PGx0.out; have e12_ := PLx0.out; have e13_ := Ew8.out; have e14_ := Ew9.out; have e15_ := PGvg.out; have e16_ := PLvg.out; have e17_ := Ew10.out; have e18_ := Ew12.out; have e19_ := Ew13.out; omega)).trans BKx0.out)
  replace BKvg := Aside0.mk ((hkp.2 _ (blk_lt BKvg.out) (fun hk => by have a1_ := hk.1; have a2_ := hk.2; have e0_ := Ew1.out; have e1_ := PGp0.out; have e2_ := PLp0.out; have e3_ := Ew2.out; have e4_ := Ew3.out; have e5_ := Ew4.out; have e6_ := Ew5.out; have e7_ := PGvw.out; have e8_ := PLvw.out; have e9_ := Ew6.out; have e10_ := Ew7.out; have e11_ := PGx0.out; have e12_ := PLx0.out; have e13_ := Ew8.out; have e14_ := Ew9.out; have e15_ := PGvg.out; have e16_ := PLvg.out; have e17_ := Ew10.out; have e18_ := Ew12.out; have e19_ := Ew13.out; omega)).trans BKvg.out)
  have N_ := Aside0.mk hm
  clear hm hb hkp X0
  clear N_
  obtain ⟨⟨hcgp00, hfgp00⟩, ⟨hcgp01, hfgp01⟩⟩ := cells2 BKp0.out
  obtain ⟨⟨hcgvw0, hfgvw0⟩, ⟨hcgvw1, hfgvw1⟩⟩ := cells2 BKvw.out
  obtain ⟨⟨hcgx00, hfgx00⟩, ⟨hcgx01, hfgx01⟩⟩ := cells2 BKx0.out
  obtain ⟨⟨hcgvg0, hfgvg0⟩, ⟨hcgvg1, hfgvg1⟩⟩ := cells2 BKvg.out
  go_wp2_with fail
  go_at_call 55
  refine (HelpSta.eq_calls R (.agg #[.slice A0vg (R.1).length c0vg, .slice A1vg (R.2).length c1vg]) (.agg #[.slice A0vw (R.1).length c0vw, .slice A1vw (R.2).length c1vw]) _ (HelpSta.tSta.K_of_M Y.out) (HelpSta.tSta.K_below GGw13.out W.out) RB.out.1).mono ?_
  rintro e w14 ⟨rfl, gg⟩
  clear hcgp00 hfgp00 hcgp01 hfgp01 hcgvw0 hfgvw0 hcgvw1 hfgvw1 hcgx00 hfgx00 hcgx01 hfgx01 hcgvg0 hfgvg0 hcgvg1 hfgvg1
  have Gw14 := Aside0.mk (show Grew w w14 from grew_trans (Gw13.out) gg)
  have Ew14 := Aside0.mk gg.size
  have GGw14 := Aside0.mk (show Grew w5 w14 from grew_trans GGw13.out gg)
  replace Y := Aside0.mk (Ty.M_below Y.out gg)
  replace BKp0 := Aside0.mk (blk_below BKp0.out gg)
  replace BKvw := Aside0.mk (blk_below BKvw.out gg)
  replace BKx0 := Aside0.mk (blk_below BKx0.out gg)
  replace BKvg := Aside0.mk (blk_below BKvg.out gg)
  clear gg
  obtain ⟨⟨hcgp00, hfgp00⟩, ⟨hcgp01, hfgp01⟩⟩ := cells2 BKp0.out
  obtain ⟨⟨hcgvw0, hfgvw0⟩, ⟨hcgvw1, hfgvw1⟩⟩ := cells2 BKvw.out
  obtain ⟨⟨hcgx00, hfgx00⟩, ⟨hcgx01, hfgx01⟩⟩ := cells2 BKx0.out
  obtain ⟨⟨hcgvg0, hfgvg0⟩, ⟨hcgvg1, hfgvg1⟩⟩ := cells2 BKvg.out
  go_wp2_with fail
  go_at_call 56
  refine (HelpSta.mark_calls R (.agg #[.slice A0vg (R.1).length c0vg, .slice A1vg (R.2).length c1vg]) _ (1) w5 _ GGw14.out Y.out (by omega) (by omega) RB.out.1).mono ?_
  rintro e w15 ⟨rfl, hm, hb, hkp⟩
  clear hcgp00 hfgp00 hcgp01 hfgp01 hcgvw0 hfgvw0 hcgvw1 hfgvw1 hcgx00 hfgx00 hcgx01 hfgx01 hcgvg0 hfgvg0 hcgvg1 hfgvg1
  have GGw15 := Aside0.mk (show Grew w5 w15 from hb)
  have Gw15 := Aside0.mk (show Grew w w15 from grew_trans Gw5.out hb)
  have Ew15 := Aside0.mk hkp.1
  replace BKp0 := Aside0.mk ((hkp.2 _ (blk_lt BKp0.out) (fun hk => by have a1_ := hk.1; have a2_ := hk.2; have e0_ := Ew1.out; have e1_ := PGp0.out; have e2_ := PLp0.out; have e3_ := Ew2.out; have e4_ := Ew3.out; have e5_ := Ew4.out; have e6_ := Ew5.out; have e7_ := PGvw.out; have e8_ := PLvw.out; have e9_ := Ew6.out; have e10_ := Ew7.out; have e11_ := PGx0.out; have e12_ := PLx0.out; have e13_ := Ew8.out; have e14_ := Ew9.out; have e15_ := PGvg.out; have e16_ := PLvg.out; have e17_ := Ew10.out; have e18_ := Ew12.out; have e19_ := Ew13.out; have e20_ := Ew14.out; have e21_ := Ew15.out; omega)).trans BKp0.out)
  replace BKvw := Aside0.mk ((hkp.2 _ (blk_lt BKvw.out) (fun hk => by have a1_ := hk.1; have a2_ := hk.2; have e0_ := Ew1.out; have e1_ := PGp0.out; have e2_ := PLp0.out; have e3_ := Ew2.out; have e4_ := Ew3.out; have e5_ := Ew4.out; have e6_ := Ew5.out; have e7_ := PGvw.out; have e8_ := PLvw.out; have e9_ := Ew6.out; have e10_ := Ew7.out; have e11_ := PGx0.out; have e12_ := PLx0.out; have e13_ := Ew8.out; have e14_ := Ew9.out; have e15_ := PGvg.out; have e16_ := PLvg.out; have e17_ := Ew10.out; have e18_ := Ew12.out; have e19_ := Ew13.out; have e20_ := Ew14.out; have e21_ := Ew15.out; omega)).trans BKvw.out)
  replace BKx0 := Aside0.mk ((hkp.2 _ (blk_lt BKx0.out) (fun hk => by have a1_ := hk.1; have a2_ := hk.2; have e0_ := Ew1.out; have e1_ := PGp0.out; have e2_ := PLp0.out; have e3_ := Ew2.out; have e4_ := Ew3.out; have e5_ := Ew4.out; have e6_ := Ew5.out; have e7_ := PGvw.out; have e8_ := PLvw.out; have e9_ := Ew6.out; have e10_ := Ew7.out; have e11_ := PGx0.out; have e12_ := PLx0.out; have e13_ := Ew8.out; have e14_ := Ew9.out; have e15_ := PGvg.out; have e16_ := PLvg.out; have e17_ := Ew10.out; have e18_ := Ew12.out; have e19_ := Ew13.out; have e20_ := Ew14.out; have e21_ := Ew15.out; omega)).trans BKx0.out)
  replace BKvg := Aside0.mk ((hkp.2 _ (blk_lt BKvg.out) (fun hk => by have a1_ := hk.1; have a2_ := hk.2; have e0_ := Ew1.out; have e1_ := PGp0.out; have e2_ := PLp0.out; have e3_ := Ew2.out; have e4_ := Ew3.out; have e5_ := Ew4.out; have e6_ := Ew5.out; have e7_ := PGvw.out; have e8_ := PLvw.out; have e9_ := Ew6.out; have e10_ := Ew7.out; have e11_ := PGx0.out; have e12_ := PLx0.out; have e13_ := Ew8.out; have e14_ := Ew9.out; have e15_ := PGvg.out; have e16_ := PLvg.out; have e17_ := Ew10.out; have e18_ := Ew12.out; have e19_ := Ew13.out; have e20_ := Ew14.out; have e21_ := Ew15.out; omega)).trans BKvg.out)
  have N_ := Aside0.mk hm
  clear hm hb hkp Y
  have Y := N_
  clear N_
  obtain ⟨⟨hcgp00, hfgp00⟩, ⟨hcgp01, hfgp01⟩⟩ := cells2 BKp0.out
  obtain ⟨⟨hcgvw0, hfgvw0⟩, ⟨hcgvw1, hfgvw1⟩⟩ := cells2 BKvw.out
  obtain ⟨⟨hcgx00, hfgx00⟩, ⟨hcgx01, hfgx01⟩⟩ := cells2 BKx0.out
  obtain ⟨⟨hcgvg0, hfgvg0⟩, ⟨hcgvg1, hfgvg1⟩⟩ := cells2 BKvg.out
  go_wp2_with fail
  go_at_call 57
  refine (HelpSta.held_calls R (.agg #[.slice A0vg (R.1).length c0vg, .slice A1vg (R.2).length c1vg]) 1 _ (HelpSta.tSta.K_of_M Y.out) (by omega) (by omega) RB.out.1).mono ?_
  rintro e w16 ⟨rfl, gg⟩
  clear hcgp00 hfgp00 hcgp01 hfgp01 hcgvw0 hfgvw0 hcgvw1 hfgvw1 hcgx00 hfgx00 hcgx01 hfgx01 hcgvg0 hfgvg0 hcgvg1 hfgvg1
  have Gw16 := Aside0.mk (show Grew w w16 from grew_trans (Gw15.out) gg)
  have Ew16 := Aside0.mk gg.size
  have GGw16 := Aside0.mk (show Grew w5 w16 from grew_trans GGw15.out gg)
  replace Y := Aside0.mk (Ty.M_below Y.out gg)
  replace BKp0 := Aside0.mk (blk_below BKp0.out gg)
  replace BKvw := Aside0.mk (blk_below BKvw.out gg)
  replace BKx0 := Aside0.mk (blk_below BKx0.out gg)
  replace BKvg := Aside0.mk (blk_below BKvg.out gg)
  clear gg
  obtain ⟨⟨hcgp00, hfgp00⟩, ⟨hcgp01, hfgp01⟩⟩ := cells2 BKp0.out
  obtain ⟨⟨hcgvw0, hfgvw0⟩, ⟨hcgvw1, hfgvw1⟩⟩ := cells2 BKvw.out
  obtain ⟨⟨hcgx00, hfgx00⟩, ⟨hcgx01, hfgx01⟩⟩ := cells2 BKx0.out
  obtain ⟨⟨hcgvg0, hfgvg0⟩, ⟨hcgvg1, hfgvg1⟩⟩ := cells2 BKvg.out
  go_wp2_with fail
  go_at_call 53
  refine (HelpSta.to_calls x0 (.agg #[.slice A0p0 (x0.1).length c0p0, .slice A1p0 (x0.2).length c1p0]) _ (HelpSta.tSta.K_below (Gw16.out) K0.out) B0.out).mono ?_
  rintro e w17 ⟨y0, rfl, hy_, gg⟩
  clear hcgp00 hfgp00 hcgp01 hfgp01 hcgvw0 hfgvw0 hcgvw1 hfgvw1 hcgx00 hfgx00 hcgx01 hfgx01 hcgvg0 hfgvg0 hcgvg1 hfgvg1
  have Gw17 := Aside0.mk (show Grew w w17 from grew_trans (Gw16.out) gg)
  have Ew17 := Aside0.mk gg.size
  have GGw17 := Aside0.mk (show Grew w5 w17 from grew_trans GGw16.out gg)
  replace Y := Aside0.mk (Ty.M_below Y.out gg)
  replace BKp0 := Aside0.mk (blk_below BKp0.out gg)
  replace BKvw := Aside0.mk (blk_below BKvw.out gg)
  replace BKx0 := Aside0.mk (blk_below BKx0.out gg)
  replace BKvg := Aside0.mk (blk_below BKvg.out gg)
  have D0 := Aside0.mk hy_
  clear hy_
  clear gg
  obtain ⟨⟨hcgp00, hfgp00⟩, ⟨hcgp01, hfgp01⟩⟩ := cells2 BKp0.out
  obtain ⟨⟨hcgvw0, hfgvw0⟩, ⟨hcgvw1, hfgvw1⟩⟩ := cells2 BKvw.out
  obtain ⟨⟨hcgx00, hfgx00⟩, ⟨hcgx01, hfgx01⟩⟩ := cells2 BKx0.out
  obtain ⟨⟨hcgvg0, hfgvg0⟩, ⟨hcgvg1, hfgvg1⟩⟩ := cells2 BKvg.out
  go_wp2_with fail
  go_at_call 54
  refine (implC x0 y0 _ (HelpSta.tSta.K_of_M D0.out) S0.out Ay0.out Ay1.out).mono ?_
  rintro e w18 ⟨h, rfl, hm, gg⟩
  clear hcgp00 hfgp00 hcgp01 hfgp01 hcgvw0 hfgvw0 hcgvw1 hfgvw1 hcgx00 hfgx00 hcgx01 hfgx01 hcgvg0 hfgvg0 hcgvg1 hfgvg1
  have Gw18 := Aside0.mk (show Grew w w18 from grew_trans (Gw17.out) gg)
  have Ew18 := Aside0.mk gg.size
  have GGw18 := Aside0.mk (show Grew w5 w18 from grew_trans GGw17.out gg)
  replace Y := Aside0.mk (Ty.M_below Y.out gg)
  replace D0 := Aside0.mk (Ty.M_below D0.out gg)
  replace BKp0 := Aside0.mk (blk_below BKp0.out gg)
  replace BKvw := Aside0.mk (blk_below BKvw.out gg)
  replace BKx0 := Aside0.mk (blk_below BKx0.out gg)
  replace BKvg := Aside0.mk (blk_below BKvg.out gg)
  rw [HCO.out]
  rw [HR.out] at hm
  have H := Aside0.mk hm
  clear hm
  clear gg
  clear D0
  obtain ⟨A0vh, c0vh, A1vh, c1vh, es_⟩ := HelpSta.form (HelpSta.tSta.K_of_M H.out)
  subst es_
  obtain ⟨⟨hcgp00, hfgp00⟩, ⟨hcgp01, hfgp01⟩⟩ := cells2 BKp0.out
  obtain ⟨⟨hcgvw0, hfgvw0⟩, ⟨hcgvw1, hfgvw1⟩⟩ := cells2 BKvw.out
  obtain ⟨⟨hcgx00, hfgx00⟩, ⟨hcgx01, hfgx01⟩⟩ := cells2 BKx0.out
  obtain ⟨⟨hcgvg0, hfgvg0⟩, ⟨hcgvg1, hfgvg1⟩⟩ := cells2 BKvg.out
  obtain ⟨⟨hdgp00, hegp00⟩, ⟨hdgp01, hegp01⟩⟩ := cells2 (blk_alloc BKp0.out (.cells #[.slice A0vh (R.1).length c0vh, .slice A1vh (R.2).length c1vh] 73 (0, 0)))
  obtain ⟨⟨hdgvw0, hegvw0⟩, ⟨hdgvw1, hegvw1⟩⟩ := cells2 (blk_alloc BKvw.out (.cells #[.slice A0vh (R.1).length c0vh, .slice A1vh (R.2).length c1vh] 73 (0, 0)))
  obtain ⟨⟨hdgx00, hegx00⟩, ⟨hdgx01, hegx01⟩⟩ := cells2 (blk_alloc BKx0.out (.cells #[.slice A0vh (R.1).length c0vh, .slice A1vh (R.2).length c1vh] 73 (0, 0)))
  obtain ⟨⟨hdgvg0, hegvg0⟩, ⟨hdgvg1, hegvg1⟩⟩ := cells2 (blk_alloc BKvg.out (.cells #[.slice A0vh (R.1).length c0vh, .slice A1vh (R.2).length c1vh] 73 (0, 0)))
  go_wp2_with fail
  obtain ⟨gvh, hgb⟩ : ∃ g_, g_ = w18.heap.size := ⟨_, rfl⟩
  obtain ⟨w19, hW_⟩ : ∃ w_, w_ = w18.alloc (.cells #[.slice A0vh (R.1).length c0vh, .slice A1vh (R.2).length c1vh] 73 (0, 0)) := ⟨_, rfl⟩
  rw [← hW_, ← hgb]
  have BKvh := Aside0.mk (show w19.heap[gvh]? = some (.cells #[.slice A0vh (R.1).length c0vh, .slice A1vh (R.2).length c1vh] 73 (0, 0)) from by rw [hW_, hgb]; exact blk_new w18 _)
  have gg : Grew w18 w19 := by rw [hW_]; exact below_alloc (Below.refl _ _) _
  have PGvh := Aside0.mk (show w18.heap.size ≤ gvh from Nat.le_of_eq hgb.symm)
  have PLvh := Aside0.mk (blk_lt BKvh.out)
  clear hW_ hgb
  clear hcgp00 hfgp00 hcgp01 hfgp01 hcgvw0 hfgvw0 hcgvw1 hfgvw1 hcgx00 hfgx00 hcgx01 hfgx01 hcgvg0 hfgvg0 hcgvg1 hfgvg1 hdgp00 hegp00 hdgp01 hegp01 hdgvw0 hegvw0 hdgvw1 hegvw1 hdgx00 hegx00 hdgx01 hegx01 hdgvg0 hegvg0 hdgvg1 hegvg1
  have Gw19 := Aside0.mk (show Grew w w19 from grew_trans (Gw18.out) gg)
  have Ew19 := Aside0.mk gg.size
  have GGw19 := Aside0.mk (show Grew w5 w19 from grew_trans GGw18.out gg)
  replace Y := Aside0.mk (Ty.M_below Y.out gg)
  replace H := Aside0.mk (Ty.M_below H.out gg)
  replace BKp0 := Aside0.mk (blk_below BKp0.out gg)
  replace BKvw := Aside0.mk (blk_below BKvw.out gg)
  replace BKx0 := Aside0.mk (blk_below BKx0.out gg)
  replace BKvg := Aside0.mk (blk_below BKvg.out gg)
  clear gg
  go_at_call 55
  refine (HelpSta.eq_calls R (.agg #[.slice A0vh (R.1).length c0vh, .slice A1vh (R.2).length c1vh]) (.agg #[.slice A0vw (R.1).length c0vw, .slice A1vw (R.2).length c1vw]) _ (HelpSta.tSta.K_of_M H.out) (HelpSta.tSta.K_below GGw19.out W.out) RB.out.1).mono ?_
  rintro e w20 ⟨rfl, gg⟩
  have Gw20 := Aside0.mk (show Grew w w20 from grew_trans (Gw19.out) gg)
  have Ew20 := Aside0.mk gg.size
  have GGw20 := Aside0.mk (show Grew w5 w20 from grew_trans GGw19.out gg)
  replace Y := Aside0.mk (Ty.M_below Y.out gg)
  replace H := Aside0.mk (Ty.M_below H.out gg)
  replace BKp0 := Aside0.mk (blk_below BKp0.out gg)
  replace BKvw := Aside0.mk (blk_below BKvw.out gg)
  replace BKx0 := Aside0.mk (blk_below BKx0.out gg)
  replace BKvg := Aside0.mk (blk_below BKvg.out gg)
  replace BKvh := Aside0.mk (blk_below BKvh.out gg)
  clear gg
  obtain ⟨⟨hcgp00, hfgp00⟩, ⟨hcgp01, hfgp01⟩⟩ := cells2 BKp0.out
  obtain ⟨⟨hcgvw0, hfgvw0⟩, ⟨hcgvw1, hfgvw1⟩⟩ := cells2 BKvw.out
  obtain ⟨⟨hcgx00, hfgx00⟩, ⟨hcgx01, hfgx01⟩⟩ := cells2 BKx0.out
  obtain ⟨⟨hcgvg0, hfgvg0⟩, ⟨hcgvg1, hfgvg1⟩⟩ := cells2 BKvg.out
  obtain ⟨⟨hcgvh0, hfgvh0⟩, ⟨hcgvh1, hfgvh1⟩⟩ := cells2 BKvh.out
  go_wp2_with fail
  go_at_call 57
  refine (HelpSta.held_calls R (.agg #[.slice A0vg (R.1).length c0vg, .slice A1vg (R.2).length c1vg]) 1 _ (HelpSta.tSta.K_of_M Y.out) (by omega) (by omega) RB.out.1).mono ?_
  rintro e w21 ⟨rfl, gg⟩
  clear hcgp00 hfgp00 hcgp01 hfgp01 hcgvw0 hfgvw0 hcgvw1 hfgvw1 hcgx00 hfgx00 hcgx01 hfgx01 hcgvg0 hfgvg0 hcgvg1 hfgvg1 hcgvh0 hfgvh0 hcgvh1 hfgvh1
  have Gw21 := Aside0.mk (show Grew w w21 from grew_trans (Gw20.out) gg)
  have Ew21 := Aside0.mk gg.size
  have GGw21 := Aside0.mk (show Grew w5 w21 from grew_trans GGw20.out gg)
  replace Y := Aside0.mk (Ty.M_below Y.out gg)
  replace H := Aside0.mk (Ty.M_below H.out gg)
  replace BKp0 := Aside0.mk (blk_below BKp0.out gg)
  replace BKvw := Aside0.mk (blk_below BKvw.out gg)
  replace BKx0 := Aside0.mk (blk_below BKx0.out gg)
  replace BKvg := Aside0.mk (blk_below BKvg.out gg)
  replace BKvh := Aside0.mk (blk_below BKvh.out gg)
  clear gg
  obtain ⟨⟨hcgp00, hfgp00⟩, ⟨hcgp01, hfgp01⟩⟩ := cells2 BKp0.out
  obtain ⟨⟨hcgvw0, hfgvw0⟩, ⟨hcgvw1, hfgvw1⟩⟩ := cells2 BKvw.out
  obtain ⟨⟨hcgx00, hfgx00⟩, ⟨hcgx01, hfgx01⟩⟩ := cells2 BKx0.out
  obtain ⟨⟨hcgvg0, hfgvg0⟩, ⟨hcgvg1, hfgvg1⟩⟩ := cells2 BKvg.out
  obtain ⟨⟨hcgvh0, hfgvh0⟩, ⟨hcgvh1, hfgvh1⟩⟩ := cells2 BKvh.out
  go_wp2
  go_ret
  exact ⟨rfl, Gw21.out⟩
end Go.Proofs.Ytmgmdnmfalepkaa.LawSeal
