/- Parts of the proof (see the row's own text): StoA, PStb, IdxBB, StoB, StoC, IngA, Lspl, PLinG. -/
import Derived.Test.YtmgmdnmfalepkaaGreatG13
import Derived.Test.YtmgmdnmfalepkaaGreatG14
import Derived.Test.YtmgmdnmfalepkaaGreatG11
import Derived.Test.YtmgmdnmfalepkaaGreatG2
import Derived.Test.YtmgmdnmfalepkaaGreatG4
import Derived.Shelf.Bytes.SlCut
namespace Go.Proofs.YtmgmdnmfalepkaaGreat.Sto
open Go.RowKit Go.Proofs.YtmgmdnmfalepkaaGreatW.PrintWords Go.Proofs.YtmgmdnmfalepkaaGreatW.PrintMore Go.Proofs.YtmgmdnmfalepkaaGreat.Kit Go.Proofs.YtmgmdnmfalepkaaGreat.PKit Go.Proofs.YtmgmdnmfalepkaaGreat.Ty Go.Proofs.YtmgmdnmfalepkaaGreat.PSeg Go.Proofs.YtmgmdnmfalepkaaGreat.PEnc Go.Proofs.YtmgmdnmfalepkaaGreat.PDec Go.Proofs.YtmgmdnmfalepkaaGreat.PSta Go.Proofs.YtmgmdnmfalepkaaGreat.HelpBB Go.Proofs.YtmgmdnmfalepkaaGreat.HelpSeg
open Go.Proofs.YtmgmdnmfalepkaaGreat.Build hiding code ans
set_option linter.unusedVariables false
set_option linter.unusedSimpArgs false
theorem enc_calls (s : SegT) (v : Value) (W : World) (h : tSeg.K W s v) (hG : Good s) :
    Calls Tryz.prog 75 #[v] W fun e w' => ∃ v', e = .returned v' ∧ Kd.R (Kd.int .u8) 5 w' W.heap.size (fun _ => True) v' (code s) ∧ Grew W w' := by
  obtain ⟨b, ls, K, Ps⟩ := s
  obtain ⟨h1, h2, h3⟩ := hG
  have h2 : fits b ls = true := h2
  have h3 : Bytes ls := h3
  have h1 : (b, ls, K, Ps) = seg b ls := h1
  rw [h1] at h ⊢
  obtain ⟨A1, c1, A2, c2, A3, c3, rfl⟩ := Decode.seg_form h
  exact Decode.enc_seg b ls A1 A2 A3 c1 c2 c3 W h (encOk_seg h2 h3) h3 (fits_parts h2).1
set_option maxRecDepth 100000 in
set_option maxHeartbeats 4000000 in
theorem sealed_calls (g : Nat) (Av : Option Addr) (cv n : Nat) (ss : List SegT) (hn : n = ss.length) (fo : Value) (w : World) (hg : w.heap[g]? = some (.cells #[.slice Av n cv, fo] 79 (0, 0))) (hs : Kd.C kSeg w Av ss.length ss) (hl : nlin ss ≤ 1000) (hL : ss.length ≤ 1048576) :
    Calls Tryz.prog 52 #[.pointer (some ⟨g, 0, none⟩)] w fun e w' => e = .returned (.int .i64 ((nlin ss : Nat) : Int)) ∧ Grew w w' := by
  subst hn
  have huS := Tryz.underlying79
  have huI := Tryz.underlying59
  have HS := Aside0.mk hs
  obtain ⟨⟨g0, f0⟩, ⟨g1, f1⟩⟩ := cells2 hg
  clear hs hg
  go_enter Tryz.func52, Tryz.ntmps52
  go_wp2
  go_loopg [3, 11] ss.length (fun gg s3 s11 wr => ∃ i : Nat, i ≤ ss.length ∧ ss.length - i ≤ gg ∧ s11 = .int .i64 (i : Int) ∧ s3 = .int .i64 ((nlin (ss.take i) : Nat) : Int) ∧ Aside0 (Below w.heap.size w wr))
  case atStart => exact ⟨0, by omega, by omega, rfl, rfl, ⟨by repeat (first | exact Below.refl _ _ | apply below_alloc | apply below_drew1 | apply pw_below_drewN)⟩⟩
  case round =>
    obtain ⟨i, hi, hg, rfl, rfl, HB⟩ := hrel
    by_cases hlt : i < ss.length
    · have hltz : (i : Int) < (ss.length : Int) := by omega
      obtain ⟨ad, A1, c1, A2, c2, A3, c3, rfl, hcc, hT⟩ := at_seg HS.out i hlt
      obtain ⟨hc0, hc1, hc2, hc3⟩ := cells_later HB.out hcc
      have hsn := nlin_append (ss.take i) [ss.getD i zS]
      rw [← seg_snoc ss i hlt, nlin_one] at hsn
      have hlt2 := nlin_take ss (i + 1)
      have HSN := Aside0.mk hsn
      have hb1 : nlin (ss.take i) ≤ 1000 := by omega
      have hb2 : (ss.getD i zS).2.1.length ≤ 1000 := by omega
      clear hcc hT hsn hlt2
      generalize ss.getD i zS = s at hc0 hc1 hc2 hc3 HSN hb2
      go_wp2
      go_roundg (ss.length - (i + 1))
      case measure => omega
      case rel => exact ⟨i + 1, by omega, by omega, by go_num, by rw [HSN.out]; go_num, ⟨by repeat (first | exact HB.out | apply below_alloc | apply below_drew1 | apply pw_below_drewN)⟩⟩
    · have hltz : ¬ (i : Int) < (ss.length : Int) := by omega
      obtain rfl : i = ss.length := by omega
      rw [List.take_length]
      go_wp2
      go_ret
      exact ⟨rfl, HB.out⟩
set_option maxRecDepth 100000 in
set_option maxHeartbeats 8000000 in
theorem state_calls (g : Nat) (Av Ao : Option Addr) (cv co n m : Nat) (ss : List SegT) (op : List (List Int)) (hn : n = ss.length) (hm : m = op.length) (w : World) (hg : w.heap[g]? = some (.cells #[.slice Av n cv, .slice Ao m co] 79 (0, 0))) (hs : Kd.C kSeg w Av ss.length ss) (ho : Kd.C kB w Ao op.length op) (hc : op.length ≤ co) (hso : smallBB op) (hG : ∀ s ∈ ss, Good s) (hL : ss.length ≤ 1048576) :
    Calls Tryz.prog 50 #[.pointer (some ⟨g, 0, none⟩)] w fun e w' => ∃ v', e = .returned v' ∧ HelpSta.tSta.M w' w.heap.size (fun _ => True) (ss.map code, op) v' ∧ Grew w w' := by
  subst hn hm
  have huS := Tryz.underlying79
  have huI := Tryz.underlying59
  have huT := Tryz.underlying27
  have HS := Aside0.mk hs
  have HO := Aside0.mk ho
  have HGD := Aside0.mk hG
  have HGG := Aside0.mk hg
  have hcp := fun (W : World) (hW : Below w.heap.size w W) => copy_calls Ao co op W (Kd.C_below HO.out hW) hc hso
  have HCP := Aside0.mk hcp
  clear hs ho hG hg hcp
  go_enter Tryz.func50, Tryz.ntmps50
  go_wp2_with (((with_reducible refine gate_dst (N := 2) rfl ?_); refine box_event ?hg (N := 2) ?hd (cs := #[.slice none 0 0, .slice none 0 0]) (t := 27) ?hr ?_; (case hd => rfl); (case hg => rfl); (case hr => first | (go_simp; done) | (go_simp; rfl)); intro gr hg_ w1 hbx hbb; have BKgr := Aside0.mk hbx; have GEgr := Aside0.mk (show w.heap.size ≤ gr from Nat.le_of_eq hg_.symm); have GLgr := Aside0.mk (blk_lt hbx); have HBw1 := Aside0.mk hbb; clear hg_ hbb; obtain ⟨⟨hgrc0, hgrf0⟩, ⟨hgrc1, hgrf1⟩⟩ := cells2 hbx; clear hbx; obtain ⟨⟨q0, r0⟩, ⟨q1, r1⟩⟩ := cells2 (blk_below HGG.out HBw1.out)))
  go_at_call 74
  refine (HCP.out _ HBw1.out).mono ?_
  rintro e w2 ⟨v2, rfl, hS2, hb2⟩
  obtain ⟨A1, c1, rfl⟩ := Kd.S_slice hS2
  have HC2 := Aside0.mk hS2
  have HB12 := Aside0.mk hb2
  have HB2 := Aside0.mk (show Below w.heap.size w w2 from grew_trans HBw1.out hb2)
  replace BKgr := Aside0.mk (blk_below BKgr.out hb2)
  clear hS2 hb2 hgrc0 hgrf0 hgrc1 hgrf1 q0 r0 q1 r1
  obtain ⟨⟨q0, r0⟩, ⟨q1, r1⟩⟩ := cells2 (blk_alloc (blk_below HGG.out HB2.out) (.cells #[.slice none 0 0, .slice A1 op.length c1] 27 (0, 0)))
  go_wp2_with fail
  obtain ⟨gs, hgs⟩ : ∃ g_, g_ = w2.heap.size := ⟨_, rfl⟩
  obtain ⟨w3, hw3⟩ : ∃ w_, w_ = w2.alloc (.cells #[.slice none 0 0, .slice A1 op.length c1] 27 (0, 0)) := ⟨_, rfl⟩
  rw [← hw3] at q0 r0 q1 r1
  rw [← hw3, ← hgs]
  have BKgs := Aside0.mk (show w3.heap[gs]? = some (.cells #[.slice none 0 0, .slice A1 op.length c1] 27 (0, 0)) from by rw [hw3, hgs]; exact blk_new w2 _)
  have hb3 : Below w2.heap.size w2 w3 := by rw [hw3]; exact below_alloc (Below.refl _ _) _
  have GS := Aside0.mk (show w2.heap.size ≤ gs from Nat.le_of_eq hgs.symm)
  have HB23 := Aside0.mk hb3
  have HB3 := Aside0.mk (show Below w.heap.size w w3 from grew_trans HB2.out hb3)
  replace BKgr := Aside0.mk (blk_below BKgr.out hb3)
  have GSL := Aside0.mk (blk_lt BKgs.out)
  have NEGR := Aside0.mk (show gr ≠ gs from fun e => by have h1 := GLgr.out; have h2 := GS.out; have h3 := HB12.out.size; omega)
  replace HC2 := Aside0.mk (show HelpBB.tBB.M w3 w.heap.size (fun k => gr < k ∧ k < gs) op (.slice A1 op.length c1) from
    HelpBB.tBB.M_mono (fun k hk => by have h1 := hk.2.2; have h2 := GS.out; have h3 := hk.2.1; have h4 := GLgr.out; exact ⟨by omega, by omega⟩) (Ty.M_below (T := HelpBB.tBB) (HelpBB.tBB.M_lower HBw1.out.size (HelpBB.tBB.M_bound HC2.out)) HB23.out))
  clear hgs hw3 hb3
  go_loopg [17] ss.length (fun gg s17 wr => ∃ (i : Nat) (Ap : Option Addr) (cp : Nat), i ≤ ss.length ∧ ss.length - i ≤ gg ∧ s17 = .int .i64 (i : Int) ∧ Aside0 (wr.heap[gs]? = some (.cells #[.slice Ap i cp, .slice A1 op.length c1] 27 (0, 0))) ∧ Aside0 (Kd.S kB 25 wr w.heap.size (fun k => w3.heap.size ≤ k) (.slice Ap i cp) ((ss.take i).map code)) ∧ Aside0 (∀ k, (Value.slice Ap i cp).ownBlock = some k → w3.heap.size ≤ k) ∧ Aside0 (Kept w3 wr (fun k => k = gs)) ∧ Aside0 (Below w.heap.size w wr))
  case atStart => exact ⟨0, none, 0, by omega, by omega, rfl, BKgs, ⟨Kd.S_nil _ _ _ _ _⟩, ⟨fun k hk => by simp [Value.ownBlock] at hk⟩, ⟨Kept.refl _ _⟩, HB3⟩
  case round =>
    obtain ⟨i, Ap, cp, hi, hgg, rfl, HG, HR, HOW, HK, HB⟩ := hrel
    by_cases hlt : i < ss.length
    · have hltz : (i : Int) < (ss.length : Int) := by omega
      obtain ⟨ad, B1, d1, B2, d2, B3, d3, rfl, hcc, hT⟩ := at_seg HS.out i hlt
      obtain ⟨hc0, hc1, hc2, hc3⟩ := cells_later HB.out hcc
      have hGs := HGD.out _ (getD_mem ss zS i hlt)
      have HTK := Aside0.mk (show (ss.take (i + 1)).map code = (ss.take i).map code ++ [code (ss.getD i zS)] from by rw [seg_snoc ss i hlt, List.map_append]; rfl)
      have HEN := Aside0.mk (fun (W : World) (hW : Below w.heap.size w W) => enc_calls (ss.getD i zS) _ W (tSeg.K_below hW hT) hGs)
      clear hcc hT hGs
      generalize ss.getD i zS = s at hc0 hc1 hc2 hc3 HTK HEN
      go_wp2_with fail
      obtain ⟨gq, hgq⟩ : ∃ g_, g_ = wr.heap.size := ⟨_, rfl⟩
      obtain ⟨wq, hwq⟩ : ∃ w_, w_ = wr.alloc (.cells #[.int .i64 s.1, .slice B1 s.2.1.length d1, .slice B2 s.2.2.1.length d2, .slice B3 s.2.2.2.length d3] 59 (0, 0)) := ⟨_, rfl⟩
      rw [← hwq, ← hgq]
      have BKgq := Aside0.mk (show wq.heap[gq]? = some (.cells #[.int .i64 s.1, .slice B1 s.2.1.length d1, .slice B2 s.2.2.1.length d2, .slice B3 s.2.2.2.length d3] 59 (0, 0)) from by rw [hwq, hgq]; exact blk_new wr _)
      have hbq : Below wr.heap.size wr wq := by rw [hwq]; exact below_alloc (Below.refl _ _) _
      have BKS := Aside0.mk (blk_below HG.out hbq)
      have HBQ := Aside0.mk (show Below w.heap.size w wq from grew_trans HB.out hbq)
      have HZQ := Aside0.mk (show wr.heap.size < wq.heap.size ∧ gq < wq.heap.size from ⟨by have h := blk_lt BKgq.out; rw [hgq] at h; exact h, blk_lt BKgq.out⟩)
      have HHQ := Aside0.mk (show ∀ k, k < wr.heap.size → wq.heap[k]? = wr.heap[k]? from fun k hk => hbq.block k hk)
      have HRQ := Aside0.mk (show HelpBB.tBB.M wq w.heap.size (fun k => w3.heap.size ≤ k ∧ k < wq.heap.size) ((ss.take i).map code) (.slice Ap i cp) from HelpBB.tBB.M_mono (fun k hk => ⟨hk.1, hk.2.2⟩) (HelpBB.tBB.M_bound (Ty.M_below (T := HelpBB.tBB) HR.out hbq)))
      have HOL := Aside0.mk (fun k (h : (Value.slice Ap i cp).ownBlock = some k) => Kd.S_lt HR.out k h)
      clear hgq hwq hbq hc0 hc1 hc2 hc3
      obtain ⟨⟨xc0, xf0⟩, ⟨xc1, xf1⟩, ⟨xc2, xf2⟩, ⟨xc3, xf3⟩⟩ := cells4 BKgq.out
      obtain ⟨⟨yc0, yf0⟩, ⟨yc1, yf1⟩⟩ := cells2 BKS.out
      go_region_law (first | (go_simp; go_at_call 75; (with_reducible refine (HEN.out _ (grew_trans HBQ.out (by repeat (first | exact Below.refl _ _ | apply below_alloc | apply below_drew1 | apply pw_below_drewN)))).mono ?_); rintro e w5 ⟨v5, rfl, hM5, hb5⟩; obtain ⟨A5, c5, rfl⟩ := Kd.R_slice hM5; have HB5 := Aside0.mk (show Below wq.heap.size wq w5 from grew_trans (by repeat (first | exact Below.refl _ _ | apply below_alloc | apply below_drew1 | apply pw_below_drewN)) hb5); have HM5 := Aside0.mk (show Kd.R (Kd.int .u8) 5 w5 wq.heap.size (fun _ => True) (.slice A5 (code s).length c5) (code s) from Kd.R_lower hM5 (below_size (by repeat (first | exact Below.refl _ _ | apply below_alloc | apply below_drew1 | apply pw_below_drewN)))); have BK5 := Aside0.mk (blk_below BKS.out HB5.out); obtain ⟨⟨zc0, zf0⟩, ⟨zc1, zf1⟩⟩ := cells2 BK5.out; obtain ⟨⟨tc0, tf0⟩, ⟨tc1, tf1⟩⟩ := cells2 (blk_alloc BK5.out (.cells #[.slice A5 (code s).length c5] 25 (0, 0))); clear hM5 hb5) | (refine Kd.S_append_step kB (w0 := w) w.heap.size (by first | rfl | simp [Region.wanted]) (.tmp 22) (.tmp 25) 22 25 (.slice none 0 0) 24 (by rfl) Tryz.underlying22 infoBB rfl (by decide) (by omega) (.slice Ap i cp) ((ss.take i).map code) (code s) [.slice A5 (code s).length c5] (fun k => w3.heap.size ≤ k) (fun k_ => some k_ = (.slice A5 (code s).length c5 : Value).ownBlock) (by first | rfl | (simp; done) | (simp; rfl)) (by first | rfl | (simp; done) | (simp; rfl)) ?aP ?aK ?aF ?aO ?aB ?aS ?aL ?_; (case aP => exact Kd.M_row (Kd.R_lower (Kd.R_below (Kd.R_tight rfl HM5.out) (by repeat (first | exact Below.refl _ _ | apply below_alloc | apply below_drew1 | apply pw_below_drewN))) HBQ.out.size)); (case aK => exact fun k hk => ⟨by have h1 := Kd.R_base HM5.out k hk.symm; have h2 := HK.out.1; have h3 := HZQ.out.1; omega, fun e => by have h1 := Kd.R_base HM5.out k hk.symm; have h2 := HOL.out k e.symm; have h3 := HZQ.out.1; omega⟩); (case aF => exact fun k hk => by have h1 := HK.out.1; have h2 := HZQ.out.1; have h3 := HB5.out.size; have h4 : w5.heap.size ≤ k := Nat.le_trans (below_size (by repeat (first | exact Below.refl _ _ | apply below_alloc | apply below_drew1 | apply pw_below_drewN))) hk; omega); (case aO => exact HelpBB.tBB.M_mono (fun k hk => ⟨hk.1, fun e => by have h1 := Kd.R_base HM5.out k e.symm; have h2 := hk.2; omega⟩) (Ty.M_below (T := HelpBB.tBB) (Ty.M_below (T := HelpBB.tBB) HRQ.out HB5.out) (by repeat (first | exact Below.refl _ _ | apply below_alloc | apply below_drew1 | apply pw_below_drewN)))); (case aB => exact grew_trans (grew_trans HBQ.out HB5.out) (by repeat (first | exact Below.refl _ _ | apply below_alloc | apply below_drew1 | apply pw_below_drewN))); (case aS => exact (grew_trans (grew_trans HBQ.out HB5.out) (by repeat (first | exact Below.refl _ _ | apply below_alloc | apply below_drew1 | apply pw_below_drewN))).size); (case aL => (rw [List.length_map, List.length_take]; omega)); intro v6 w6 hO6 hB6 hg6 hat6; obtain ⟨A6, c6, e6⟩ := Kd.S_slice hO6; rw [show ((ss.take i).map code ++ [code s]).length = i + 1 from by rw [List.length_append, List.length_map, List.length_take, List.length_singleton]; omega] at e6; subst e6; have HG6 := Aside0.mk (show w5.grownBy w6 (Value.slice Ap i cp).ownBlock from hg6); have BK6 := Aside0.mk (blk_grown (g := gs) BK5.out HG6.out (fun e => by have h1 := HOW.out _ e.symm; have h2 := GSL.out; omega)); obtain ⟨⟨rc0, rf0⟩, ⟨rc1, rf1⟩⟩ := cells2 BK6.out; have HO6 := Aside0.mk hO6; have HB6 := Aside0.mk hB6; clear hO6 hB6 hg6 hat6))
      all_goals
        go_wp2
        go_roundg (ss.length - (i + 1))
        case measure => omega
        case rel =>
          have hz1 := HK.out.1
          have hz2 := HZQ.out.1
          have hz3 := HB5.out.size
          have hz6 := HG6.out.size
          refine ⟨i + 1, A6, c6, by omega, by omega, by go_num, ⟨blk_put (cs := #[.slice Ap i cp, .slice A1 op.length c1]) BK6.out 0 _ rfl⟩, ⟨?_⟩, ⟨fun k hk => (Kd.S_R HO6.out).1 k hk⟩, ⟨?_⟩, ⟨below_set HB6.out (Nat.le_trans HB2.out.size GS.out)⟩⟩
          · rw [HTK.out]
            exact Ty.M_set (T := HelpBB.tBB) HO6.out (fun k hk e => by have h1 : w3.heap.size ≤ k := hk; have h2 := GSL.out; omega) _
          · exact ⟨by simp [World.setCell]; omega, fun k hk hne => (Below.heap_setCell w6 ⟨gs, 0, none⟩ _ k hne).trans ((HG6.out.block k (by omega) (fun e => by have h1 := HOW.out _ e.symm; omega)).trans ((HB5.out.block k (by omega)).trans ((HHQ.out k (by omega)).trans (HK.out.2 k hk hne))))⟩
    · have hltz : ¬ (i : Int) < (ss.length : Int) := by omega
      obtain rfl : i = ss.length := by omega
      have hR := HR.out
      rw [List.take_length] at hR
      have HS9 := Aside0.mk hR
      have BR9 := Aside0.mk (blk_kept BKgr.out HK.out NEGR.out)
      clear hR HR
      obtain ⟨⟨pc0, pf0⟩, ⟨pc1, pf1⟩⟩ := cells2 HG.out
      obtain ⟨⟨uc0, uf0⟩, ⟨uc1, uf1⟩⟩ := cells2 BR9.out
      have hz9 := HK.out.1
      go_wp2
      refine bodyPost_ret (results_cell_row rfl _ _ gr 27 #[.slice Ap ss.length cp, .slice A1 op.length c1] (0, 0) _ rfl (by (with_reducible repeat (first | refine blk_drewN ?_ _ | refine blk_drew ?_ | refine blk_alloc ?_ _)); refine blk_put (cs := #[.slice Ap ss.length cp, .slice none 0 0]) ?_ 1 _ rfl; (with_reducible repeat (first | refine blk_drewN ?_ _ | refine blk_drew ?_ | refine blk_alloc ?_ _)); refine blk_put (cs := #[.slice none 0 0, .slice none 0 0]) ?_ 0 _ rfl; (with_reducible repeat (first | refine blk_drewN ?_ _ | refine blk_drew ?_ | refine blk_alloc ?_ _)); exact BR9.out) Tryz.underlying27 rfl (by kernel_rfl)) rfl ?_
      refine ⟨_, rfl, ?_, below_set (below_set (HB.out) GEgr.out) GEgr.out⟩
      refine HelpSta.tSta.M_mono (fun _ _ => trivial) ⟨[_, _], rfl, Tys.cons_apart (ok1 := fun k => w3.heap.size ≤ k) (ok2 := fun k => gr < k ∧ k < gs) ?_ (Tys.M_one ?_) (fun k h1 h2 => by have h3 := GSL.out; omega)⟩
      · exact ((Ty.M_set (T := HelpBB.tBB) (Ty.M_set (T := HelpBB.tBB) HS9.out (fun k hk e => by have h1 : w3.heap.size ≤ k := hk; have h2 := GSL.out; have h3 := GLgr.out; have h4 := GS.out; have h5 := HB12.out.size; omega) _) (fun k hk e => by have h1 : w3.heap.size ≤ k := hk; have h2 := GSL.out; have h3 := GLgr.out; have h4 := GS.out; have h5 := HB12.out.size; omega) _))
      · exact ((Ty.M_set (T := HelpBB.tBB) (Ty.M_set (T := HelpBB.tBB) (Ty.M_kept (T := HelpBB.tBB) HC2.out HK.out (fun k hk e => by have h1 := hk.2; omega)) (fun k hk e => by have h1 := hk.1; omega) _) (fun k hk e => by have h1 := hk.1; omega) _))
end Go.Proofs.YtmgmdnmfalepkaaGreat.Sto

namespace Go.Proofs.YtmgmdnmfalepkaaGreat.PSta
open Go.RowKit Go.Proofs.YtmgmdnmfalepkaaGreatW.PrintWords Go.Proofs.YtmgmdnmfalepkaaGreat.PKit Go.Proofs.YtmgmdnmfalepkaaGreat.PSeg Go.Proofs.YtmgmdnmfalepkaaGreat.PEnc Go.Proofs.YtmgmdnmfalepkaaGreat.PDec Go.Proofs.YtmgmdnmfalepkaaGreat.HelpBB
set_option linter.unusedVariables false
theorem chain_append {base : Int} {ss : List SegT} {bs : List (List Int)} (h : Chain base ss bs) (r : List (List Int)) : segsFrom base (bs ++ r) = (segsFrom (base + ((nlin ss : Nat) : Int)) r).map fun q => ss ++ q := by
  induction h with
  | nil base => simp [nlin]
  | @cons base s b ss bs h t ih =>
    obtain ⟨h1, h2, h3, h4, h5⟩ := h
    show (if (dec b).2 = 0 ∧ (dec b).1.1 = base then (segsFrom (base + ((dec b).1.2.1.length : Int)) (bs ++ r)).map fun q => (dec b).1 :: q else none) = _
    rw [h5, if_pos ⟨rfl, h1⟩, ih]
    have e : base + (s.2.1.length : Int) + ((nlin ss : Nat) : Int) = base + ((nlin (s :: ss) : Nat) : Int) := by
      show _ = base + ((s.2.1.length + nlin ss : Nat) : Int)
      omega
    show ((segsFrom (base + (s.2.1.length : Int) + ((nlin ss : Nat) : Int)) r).map fun q => ss ++ q).map (fun q => s :: q) = _
    rw [e]
    cases segsFrom (base + ((nlin (s :: ss) : Nat) : Int)) r <;> rfl
theorem chain_snoc {base : Int} {ss : List SegT} {bs : List (List Int)} (h : Chain base ss bs) {s : SegT} {b : List Int} (ha : At (base + ((nlin ss : Nat) : Int)) s b) : Chain base (ss ++ [s]) (bs ++ [b]) := by
  induction h with
  | nil base =>
    refine .cons ?_ (.nil _)
    have e : base + ((nlin ([] : List SegT) : Nat) : Int) = base := by simp [nlin]
    rw [e] at ha
    exact ha
  | @cons base s' b' ss bs h t ih =>
    refine .cons h (ih ?_)
    have e : base + ((nlin (s' :: ss) : Nat) : Int) = base + (s'.2.1.length : Int) + ((nlin ss : Nat) : Int) := by
      show base + ((s'.2.1.length + nlin ss : Nat) : Int) = _
      omega
    rw [e] at ha
    exact ha
theorem chain_bounds {base : Int} {ss : List SegT} {bs : List (List Int)} (h : Chain base ss bs) : (ss = [] ∨ base + ((nlin ss : Nat) : Int) ≤ 1000) ∧ (0 ≤ base ∨ ss = []) ∧ ss.length ≤ nlin ss ∧ tots ss ≤ 20000 * ss.length ∧ ∀ s ∈ ss, s = seg s.1 s.2.1 ∧ fits s.1 s.2.1 = true := by
  induction h with
  | nil base => exact ⟨.inl rfl, .inr rfl, by simp [nlin], by simp [tots], fun s hs => by cases hs⟩
  | @cons base s b ss bs h t ih =>
    obtain ⟨h1, h2, h3, h4, h5⟩ := h
    obtain ⟨i1, i2, i3, i4, i5⟩ := ih
    obtain ⟨f1, f2, f3, f4, f5, f6⟩ := fits_parts h2
    rw [h1] at f1 f4
    have el : nlin (s :: ss) = s.2.1.length + nlin ss := rfl
    have et : tots (s :: ss) = totalB s.2.1 + tots ss := rfl
    refine ⟨.inr ?_, .inl f1, by simp only [List.length_cons]; omega, by simp only [List.length_cons]; omega, ?_⟩
    · rw [el]
      rcases i1 with rfl | i1
      · simp [nlin]; omega
      · omega
    · intro s' hs'
      rcases List.mem_cons.1 hs' with rfl | hs'
      · exact ⟨h3, h2⟩
      · exact i5 s' hs'
theorem chain_len0 {ss : List SegT} {bs : List (List Int)} (h : Chain 0 ss bs) : nlin ss ≤ 1000 ∧ ss.length ≤ 1000 ∧ tots ss ≤ 20000000 := by
  obtain ⟨h1, _, h2, h3, _⟩ := chain_bounds h
  have h4 : nlin ss ≤ 1000 := by
    rcases h1 with rfl | h1
    · simp [nlin]
    · omega
  exact ⟨h4, by omega, by omega⟩
theorem take_get (bs : List (List Int)) (i : Nat) (hi : i < bs.length) : bs = bs.take i ++ bs.getD i [] :: bs.drop (i + 1) := by
  have h : bs.drop i = bs.getD i [] :: bs.drop (i + 1) := by rw [List.drop_eq_getElem_cons hi]; simp [List.getD, List.getElem?_eq_getElem hi]
  rw [← h, List.take_append_drop]
theorem segs_stop {st : StaT} {acc : List SegT} {i : Nat} (hc : Chain 0 acc (st.1.take i)) (hi : i < st.1.length) (hn : ¬ ((dec (st.1.getD i [])).2 = 0 ∧ (dec (st.1.getD i [])).1.1 = ((nlin acc : Nat) : Int))) : segsOf st = none := by
  have h : segsFrom 0 st.1 = none := by
    rw [take_get st.1 i hi, chain_append hc]
    have e : segsFrom (0 + ((nlin acc : Nat) : Int)) (st.1.getD i [] :: st.1.drop (i + 1)) = none := by
      show (if _ ∧ _ then _ else none) = none
      rw [if_neg (by rw [Int.zero_add]; exact hn)]
    rw [e]
    rfl
  unfold segsOf
  rw [h]
  rfl
theorem segs_next {st : StaT} {acc : List SegT} {i : Nat} (hc : Chain 0 acc (st.1.take i)) (hi : i < st.1.length) (h0 : (dec (st.1.getD i [])).2 = 0) (h1 : (dec (st.1.getD i [])).1.1 = ((nlin acc : Nat) : Int)) : Chain 0 (acc ++ [(dec (st.1.getD i [])).1]) (st.1.take (i + 1)) := by
  have h := dec_at h0
  rw [h1] at h
  have e : st.1.take (i + 1) = st.1.take i ++ [st.1.getD i []] := take_snoc st.1 i hi
  rw [e]
  exact chain_snoc hc (by rw [Int.zero_add]; exact h)
theorem segs_all {st : StaT} {acc : List SegT} (hc : Chain 0 acc st.1) : segsOf st = if plain st.2 = true ∧ nlin acc + st.2.length ≤ 1000 ∧ tots acc + totalB st.2 ≤ 20000 then some acc else none := by
  unfold segsOf
  rw [chain_segs hc]
  rfl
end Go.Proofs.YtmgmdnmfalepkaaGreat.PSta

namespace Go.Proofs.YtmgmdnmfalepkaaGreat.IdxBB
open Go.RowKit Go.Proofs.YtmgmdnmfalepkaaGreatW.PrintWords Go.Proofs.YtmgmdnmfalepkaaGreat.Kit
set_option linter.unusedVariables false
set_option maxHeartbeats 2000000 in
theorem index_calls {α : Type} (d : Kd α) (hs : d.sz = 1) (z : α) (p : α → Bool) (g : Nat) (cap : Array Value) (eg : ∀ args w, (callFunc g args).run Tryz.prog w = .ok (.enter g args) w)
    (A : Option Addr) (c : Nat) (xs : List α) (w : World) (hr : d.C w A xs.length xs) (hp : PredK Tryz.prog d g cap p xs w) :
    Calls Tryz.prog 94 #[.slice A xs.length c, .func (.func g) #[] cap] w fun e w' => e = .returned (.int .i64 (idxB p xs)) ∧ Grew w w' := by
  have hbig : xs.length ≤ 9223372036854775807 := hr.2.1
  have HR := Aside0.mk hr
  have HP := Aside0.mk hp
  clear hr hp
  go_enter Tryz.func94, Tryz.ntmps94
  go_wp2
  go_loopg [5, 8] xs.length (fun gg _ s8 wr => ∃ kk : Nat, kk ≤ xs.length ∧ xs.length - kk ≤ gg ∧ s8 = .int .i64 kk ∧ Aside0 (Below w.heap.size w wr) ∧ Aside0 (∀ j, j < kk → p (xs.getD j z) = false))
  case atStart => exact ⟨0, Nat.zero_le _, by omega, rfl, ⟨Below.refl _ w⟩, ⟨fun j hj => absurd hj (Nat.not_lt_zero _)⟩⟩
  case round =>
    obtain ⟨kk, hkk, hg, rfl, BW, HA⟩ := hrel
    by_cases hlt : kk < xs.length
    · have hltz : (kk : Int) < (xs.length : Int) := by omega
      obtain ⟨ad, u, rfl, hc0, hK⟩ := get_one hs HR.out z kk hlt
      have hcell : wr.cell? (ad.add kk) = some u := (BW.out.cell (World.block_lt_of_cell? w _ hc0)).trans hc0
      have hcall := HP.out wr (xs.getD kk z) u (getD_mem xs z kk hlt) BW.out (d.K_below (pw_grow BW.out) hK)
      clear hc0 hK
      cases hq : p (xs.getD kk z) with
      | true =>
        rw [hq] at hcall
        have HQ := Aside0.mk hq
        clear hq
        go_wp2_with (go_at_fn g; refine hcall.mono ?_; rintro e w' ⟨rfl, hb'⟩)
        go_ret
        refine ⟨?_, below_then BW.out BW.out.size hb'⟩
        rw [idxB_hit p xs z kk hlt HQ.out HA.out]; rfl
      | false =>
        rw [hq] at hcall
        have HQ := Aside0.mk hq
        clear hq
        go_wp2_with (go_at_fn g; refine hcall.mono ?_; rintro e w' ⟨rfl, hb'⟩)
        go_roundg (xs.length - (kk + 1))
        case measure => omega
        case rel =>
          refine ⟨kk + 1, by omega, by omega, by go_num, ⟨below_then BW.out BW.out.size hb'⟩, ⟨fun j hj => ?_⟩⟩
          by_cases e : j = kk
          · subst e
            exact HQ.out
          · exact HA.out j (by omega)
    · have hltz : ¬ (kk : Int) < (xs.length : Int) := by omega
      go_wp2
      go_ret
      refine ⟨?_, BW.out⟩
      rw [idxB_none p xs z (fun j hj => HA.out j (by omega))]; rfl
set_option maxHeartbeats 2000000 in
theorem contains_calls {α : Type} (d : Kd α) (hs : d.sz = 1) (z : α) (p : α → Bool) (g : Nat) (cap : Array Value) (eg : ∀ args w, (callFunc g args).run Tryz.prog w = .ok (.enter g args) w)
    (A : Option Addr) (c : Nat) (xs : List α) (w : World) (hr : d.C w A xs.length xs) (hp : PredK Tryz.prog d g cap p xs w) :
    Calls Tryz.prog 71 #[.slice A xs.length c, .func (.func g) #[] cap] w fun e w' => e = .returned (.bool (xs.any p)) ∧ Grew w w' := by
  have hcall := index_calls d hs z p g cap eg A c xs w hr hp
  have HB := Aside0.mk (idxB_any p xs)
  clear hr hp
  go_enter Tryz.func71, Tryz.ntmps71
  generalize hi : idxB p xs = i at hcall HB
  clear hi
  go_wp2_with (go_at_call 94; refine hcall.mono ?_; rintro e w' ⟨rfl, hb'⟩)
  go_ret
  exact ⟨by rw [← HB.out]; rfl, hb'⟩
end Go.Proofs.YtmgmdnmfalepkaaGreat.IdxBB

namespace Go.Proofs.YtmgmdnmfalepkaaGreat.Sto
open Go.RowKit Go.Proofs.YtmgmdnmfalepkaaGreatW.PrintWords Go.Proofs.YtmgmdnmfalepkaaGreatW.PrintMore Go.Proofs.YtmgmdnmfalepkaaGreat.Kit Go.Proofs.YtmgmdnmfalepkaaGreat.PKit Go.Proofs.YtmgmdnmfalepkaaGreat.Ty Go.Proofs.YtmgmdnmfalepkaaGreat.PSeg Go.Proofs.YtmgmdnmfalepkaaGreat.PEnc Go.Proofs.YtmgmdnmfalepkaaGreat.PDec Go.Proofs.YtmgmdnmfalepkaaGreat.PSta Go.Proofs.YtmgmdnmfalepkaaGreat.HelpBB Go.Proofs.YtmgmdnmfalepkaaGreat.HelpSeg
open Go.Proofs.YtmgmdnmfalepkaaGreat.Build hiding code ans
set_option linter.unusedVariables false
set_option linter.unusedSimpArgs false
theorem dec_bytes {b : List Int} (hb : ∀ x ∈ b, 0 ≤ x ∧ x ≤ 255) (h : (dec b).2 = 0) : Bytes (dec b).1.2.1 := by
  rcases decBy_or implP b with ⟨base, ls, h1, h2, h3, h4⟩ | h4
  · have e : dec b = (seg base ls, 0) := h4
    rw [e]
    exact (Decode.implP_some hb h3).2.2.2.2
  · have e : dec b = ((0, [], [], []), 5) := h4
    rw [e] at h
    cases h
theorem chain_good {base : Int} {ss : List SegT} {bs : List (List Int)} (h : Chain base ss bs) (hb : Bytes bs) : ∀ s ∈ ss, Good s := by
  induction h with
  | nil base => intro s hs; cases hs
  | cons h t ih =>
    intro s' hs'
    rcases List.mem_cons.1 hs' with rfl | hs'
    · obtain ⟨h1, h2, h3, h4, h5⟩ := h
      have h6 := dec_bytes (hb _ List.mem_cons_self) (by rw [h5])
      rw [h5] at h6
      exact ⟨h3, h2, h6⟩
    · exact ih (fun l hl => hb l (List.mem_cons_of_mem _ hl)) s' hs'
def Got (w w' : World) (st : StaT) (e : Ending) : Prop := match segsOf st with
  | none => e = .returned (.tuple #[.pointer none, .bool false])
  | some ss => ∃ (g : Nat) (Av : Option Addr) (cv : Nat) (Ao : Option Addr) (co N : Nat), e = .returned (.tuple #[.pointer (some ⟨g, 0, none⟩), .bool true]) ∧ w'.heap[g]? = some (.cells #[.slice Av ss.length cv, .slice Ao st.2.length co] 79 (0, 0)) ∧ w.heap.size ≤ g ∧ g < N ∧ N ≤ w'.heap.size ∧ Kd.R kSeg 59 w' w.heap.size (fun k => g < k ∧ k < N) (.slice Av ss.length cv) ss ∧ Kd.S kB 25 w' w.heap.size (fun k => N ≤ k) (.slice Ao st.2.length co) st.2
theorem got_none {w w' : World} {st : StaT} {e : Ending} (h : segsOf st = none) (he : e = .returned (.tuple #[.pointer none, .bool false])) : Got w w' st e := by
  unfold Got; rw [h]; exact he
theorem one_pred (ls : List (List Int)) (w : World) (hb : Bytes ls) : PredK Tryz.prog kB 72 #[] (fun l => decide (10 ∈ l)) ls w := by
  rintro W x u hx hW ⟨A, c, e, hl, hr⟩
  obtain rfl : u = .slice A x.length c := by injection e
  have hone := one_calls A c x W hr hl (hb x hx)
  have hd : decide (10 ∈ x) = !decide (10 ∉ x) := by by_cases h : 10 ∈ x <;> simp [h]
  show Calls Tryz.prog 72 #[.slice A x.length c] W (fun e w' => e = .returned (.bool (decide (10 ∈ x))) ∧ Grew W w')
  rw [hd]
  generalize decide (10 ∉ x) = q at hone
  go_enter Tryz.func72, Tryz.ntmps72
  go_wp2_with (go_at_call 73; refine hone.mono ?_; rintro e w' ⟨rfl, rfl⟩)
  go_ret
  exact ⟨rfl, Below.refl _ _⟩
theorem any_plain (ls : List (List Int)) : (ls.any fun l => decide (10 ∈ l)) = !plain ls := by
  unfold plain
  rw [List.not_all_eq_any_not]
  congr 1
  funext l
  by_cases h : 10 ∈ l <;> simp [h]
set_option maxRecDepth 100000 in
set_option maxHeartbeats 8000000 in
theorem storeOf_calls (st : StaT) (A0 A1 : Option Addr) (c0 c1 : Nat) (w : World) (h0 : Kd.C kB w A0 st.1.length st.1) (l0 : st.1.length ≤ c0) (h1 : Kd.C kB w A1 st.2.length st.2) (l1 : st.2.length ≤ c1) (hb0 : Bytes st.1) (hb1 : Bytes st.2) (s0 : smallBB st.1) (s1 : smallBB st.2) :
    Calls Tryz.prog 49 #[.agg #[.slice A0 st.1.length c0, .slice A1 st.2.length c1]] w fun e w' => Got w w' st e ∧ Grew w w' := by
  have huS := Tryz.underlying79
  have huI := Tryz.underlying59
  have huT := Tryz.underlying27
  have q0 : st.1.length + totalB st.1 ≤ 1048576 := s0
  have q1 : st.2.length + totalB st.2 ≤ 1048576 := s1
  have H0 := Aside0.mk h0
  have H1 := Aside0.mk h1
  have HY0 := Aside0.mk hb0
  have HY1 := Aside0.mk hb1
  have htt := fun (W : World) (hW : Below w.heap.size w W) => total_calls A1 c1 st.2 W (Kd.C_below H1.out hW) l1 s1
  have HTT := Aside0.mk htt
  have HCP := Aside0.mk (fun (W : World) (hW : Below w.heap.size w W) => copy_calls A1 c1 st.2 W (Kd.C_below H1.out hW) l1 s1)
  have eg := enters_of Tryz.func72 (by kernel_rfl) rfl
  have hct := fun (W : World) (hW : Below w.heap.size w W) => IdxBB.contains_calls kB rfl [] (fun l => decide (10 ∈ l)) 72 #[] eg A1 c1 st.2 W (Kd.C_below H1.out hW) (one_pred st.2 W hb1)
  rw [any_plain] at hct
  have HCT := Aside0.mk hct
  clear h0 h1 hb0 hb1 htt hct eg s0 s1
  go_enter Tryz.func49, Tryz.ntmps49
  go_wp2_with (first | ((with_reducible refine gate_dst (N := 1) rfl ?_); refine box_event ?hg (N := 1) ?hd (cs := #[.slice A0 st.1.length c0, .slice A1 st.2.length c1]) (t := 27) ?hr ?_; (case hd => rfl); (case hg => rfl); (case hr => first | (go_simp; done) | (go_simp; rfl)); intro gp hg_ w1 hbx hbb; have BKgp := Aside0.mk hbx; have GEgp := Aside0.mk (show w.heap.size ≤ gp from Nat.le_of_eq hg_.symm); have GLgp := Aside0.mk (blk_lt hbx); have HBw1 := Aside0.mk hbb; clear hg_ hbb; obtain ⟨⟨hgpc0, hgpf0⟩, ⟨hgpc1, hgpf1⟩⟩ := cells2 hbx; clear hbx) | ((with_reducible refine gate_dst (N := 12) rfl ?_); refine box_event ?hg (N := 12) ?hd (cs := #[.slice none 0 0, .slice none 0 0]) (t := 79) ?hr ?_; (case hd => rfl); (case hg => rfl); (case hr => first | (go_simp; done) | (go_simp; rfl)); intro gs hg_ w2 hbx hbb; have BKgs := Aside0.mk hbx; have GEgs := Aside0.mk (show w1.heap.size ≤ gs from Nat.le_of_eq hg_.symm); have GLgs := Aside0.mk (blk_lt hbx); have HBw2 := Aside0.mk hbb; clear hg_ hbb; obtain ⟨⟨hgsc0, hgsf0⟩, ⟨hgsc1, hgsf1⟩⟩ := cells2 hbx; clear hbx; have BKp_ := Aside0.mk (blk_below BKgp.out HBw2.out); clear BKgp hgpc0 hgpf0 hgpc1 hgpf1; have BKgp := BKp_; clear BKp_; obtain ⟨⟨pc0, pf0⟩, ⟨pc1, pf1⟩⟩ := cells2 BKgp.out))
  have HG2 := Aside0.mk (show Below w.heap.size w w2 from grew_trans HBw1.out HBw2.out)
  go_at_call 54
  refine (HTT.out _ HG2.out).mono ?_
  rintro e w3 ⟨rfl, hw3⟩
  subst hw3
  go_wp2_with fail
  have HB3 := Aside0.mk HG2.out
  have GSL := Aside0.mk (blk_lt BKgs.out)
  have GPL := Aside0.mk (blk_lt BKgp.out)
  have NEP := Aside0.mk (show gp ≠ gs from fun e => by have h1 := GLgp.out; have h2 := GEgs.out; omega)
  clear HG2 hgsc0 hgsf0 hgsc1 hgsf1 pc0 pf0 pc1 pf1
  go_loopg [5, 6, 19] st.1.length (fun gg s5 s6 s19 wr => ∃ (i : Nat) (acc : List SegT) (Ap : Option Addr) (cp : Nat), i ≤ st.1.length ∧ st.1.length - i ≤ gg ∧ s19 = .int .i64 (i : Int) ∧ s5 = .int .i64 ((nlin acc : Nat) : Int) ∧ s6 = .int .i64 (((tots acc : Nat) : Int) + (totalB st.2 : Int)) ∧ Aside0 (Chain 0 acc (st.1.take i)) ∧ Aside0 (wr.heap[gs]? = some (.cells #[.slice Ap i cp, .slice none 0 0] 79 (0, 0))) ∧ Aside0 (Kd.R kSeg 59 wr w.heap.size (fun k => w3.heap.size ≤ k) (.slice Ap i cp) acc) ∧ Aside0 (∀ k, (Value.slice Ap i cp).ownBlock = some k → w3.heap.size ≤ k) ∧ Aside0 (Kept w3 wr (fun k => k = gs)) ∧ Aside0 (Below w.heap.size w wr))
  case atStart => exact ⟨0, [], none, 0, by omega, by omega, rfl, rfl, by simp [tots], ⟨.nil 0⟩, BKgs, ⟨Kd.R_nil _ _ _ _ _⟩, ⟨fun k hk => by simp [Value.ownBlock] at hk⟩, ⟨Kept.refl _ _⟩, HB3⟩
  case round =>
    obtain ⟨i, acc, Ap, cp, hi, hgg, rfl, rfl, rfl, HC, HG, HR, HOW, HK, HB⟩ := hrel
    obtain ⟨n1, n2, n3⟩ := chain_len0 HC.out
    have n4 : acc.length = i := by have h := chain_len HC.out; rw [List.length_take] at h; omega
    have HN4 := Aside0.mk n4
    clear n4
    by_cases hlt : i < st.1.length
    · have hltz : (i : Int) < (st.1.length : Int) := by omega
      obtain ⟨ad, u, rfl, hcell0, hK⟩ := get_one (d := kB) rfl H0.out [] i hlt
      obtain ⟨A', c', e', hc', hr'⟩ := hK
      obtain rfl : u = .slice A' (st.1.getD i []).length c' := by injection e'
      have hcell : wr.cell? (ad.add i) = some (.slice A' (st.1.getD i []).length c') := (HB.out.cell (World.block_lt_of_cell? w _ hcell0)).trans hcell0
      have hgl := getD_len st.1 i
      have HBY := Aside0.mk (getD_bytes HY0.out i)
      have HDE := Aside0.mk (fun (W : World) (hW : Below w.heap.size w W) => Decode.decode_calls A' c' (st.1.getD i []) W (Kd.C_below hr' hW) hc' HBY.out (by omega))
      have HST := Aside0.mk (fun h => segs_stop (st := st) HC.out hlt h)
      have HNX := Aside0.mk (fun h0 h1 => segs_next (st := st) HC.out hlt h0 h1)
      clear e' hr' hcell0 hgl
      generalize st.1.getD i [] = b at hcell hc' HDE HST HNX HBY
      go_wp2_with fail
      go_at_call 70
      refine (HDE.out _ HB.out).mono ?_
      rintro e w5 ⟨v5, rfl, hM5, hb5⟩
      obtain ⟨B1, d1, B2, d2, B3, d3, rfl, hK5⟩ := kSeg_mk hM5
      have HFS := Aside0.mk (fun h => (dec_at (b := b) h).2.1)
      have HM5 := Aside0.mk hK5
      have HB5 := Aside0.mk hb5
      clear hM5 hK5 hb5
      generalize (dec b).1 = s at HM5 HST HNX HFS
      generalize (dec b).2 = cd at HST HNX HFS
      obtain ⟨⟨x0, x0f⟩, ⟨x1, x1f⟩, ⟨x2, x2f⟩, ⟨x3, x3f⟩⟩ := cells4 (blk_new w5 (.cells #[.int .i64 s.1, .slice B1 s.2.1.length d1, .slice B2 s.2.2.1.length d2, .slice B3 s.2.2.2.length d3] 59 (0, 0)))
      by_cases hgood : cd = 0 ∧ s.1 = ((nlin acc : Nat) : Int)
      case neg =>
        have hno := HST.out hgood
        have HNO := Aside0.mk hno
        clear hno
        by_cases hcd : cd = 0
        · subst hcd
          have hne : (s.1 != ((nlin acc : Nat) : Int)) = true := by simp; intro e; exact hgood ⟨rfl, e⟩
          clear hgood
          go_wp2
          go_ret2
          exact ⟨got_none HNO.out rfl, by have h1 := HB.out; have h2 := HB5.out; refine grew_trans (grew_trans h1 h2) ?_; repeat (first | exact Below.refl _ _ | apply below_alloc | apply below_drew1 | apply pw_below_drewN)⟩
        · have hne : (cd != 0) = true := by simpa using hcd
          clear hgood hcd
          go_wp2
          go_ret2
          exact ⟨got_none HNO.out rfl, by have h1 := HB.out; have h2 := HB5.out; refine grew_trans (grew_trans h1 h2) ?_; repeat (first | exact Below.refl _ _ | apply below_alloc | apply below_drew1 | apply pw_below_drewN)⟩
      case pos =>
        obtain ⟨hcd, hs1⟩ := hgood
        subst hcd
        have HS1 := Aside0.mk hs1
        have HCN := Aside0.mk (HNX.out rfl hs1)
        obtain ⟨f1, f2, f3, f4, f5, f6⟩ := fits_parts (HFS.out rfl)
        have hne : (s.1 != ((nlin acc : Nat) : Int)) = false := by simp [hs1]
        have f7 : s.2.1.length ≤ 1000 := by omega
        clear HST HNX HFS hs1 f1 f2 f3 f4 f5
        go_wp2_with fail
        obtain ⟨gq, hgq⟩ : ∃ g_, g_ = w5.heap.size := ⟨_, rfl⟩
        obtain ⟨w6, hw6⟩ : ∃ w_, w_ = w5.alloc (.cells #[.int .i64 s.1, .slice B1 s.2.1.length d1, .slice B2 s.2.2.1.length d2, .slice B3 s.2.2.2.length d3] 59 (0, 0)) := ⟨_, rfl⟩
        rw [← hw6, ← hgq] at x0 x0f x1 x1f x2 x2f x3 x3f
        rw [← hw6]
        (try rw [← hgq])
        have BKgq := Aside0.mk (show w6.heap[gq]? = some (.cells #[.int .i64 s.1, .slice B1 s.2.1.length d1, .slice B2 s.2.2.1.length d2, .slice B3 s.2.2.2.length d3] 59 (0, 0)) from by rw [hw6, hgq]; exact blk_new w5 _)
        have hb6 : Below w5.heap.size w5 w6 := by rw [hw6]; exact below_alloc (Below.refl _ _) _
        have HB6 := Aside0.mk (show Below wr.heap.size wr w6 from grew_trans HB5.out hb6)
        have HZ6 := Aside0.mk HB6.out.size
        have HM6 := Aside0.mk (show kSeg.M w6 wr.heap.size (fun k => wr.heap.size ≤ k) s [.int .i64 s.1, .slice B1 s.2.1.length d1, .slice B2 s.2.2.1.length d2, .slice B3 s.2.2.2.length d3] from kSeg.M_mono (fun k hk => hk.2.1) (kSeg.M_bound (Kd.M_below HM5.out hb6)))
        have hk6 := kSeg_open (kSeg.K_of_M HM6.out)
        have hct : Kd.C kB w6 B1 s.2.1.length s.2.1 ∧ s.2.1.length ≤ d1 := by
          obtain ⟨E1, e1, E2, e2, E3, e3, ee, hT⟩ := hk6
          simp only [List.cons.injEq, and_true, Value.slice.injEq, true_and] at ee
          obtain ⟨⟨rfl, rfl⟩, ⟨rfl, rfl⟩, rfl, rfl⟩ := ee
          obtain ⟨⟨F1, e1, ee, hl, hr⟩, _, _⟩ := Decode.seg_parts hT
          obtain ⟨rfl, rfl⟩ : B1 = F1 ∧ d1 = e1 := by injection ee with x1 x2 x3; exact ⟨x1, x3⟩
          exact ⟨hr, hl⟩
        have htt := total_calls B1 d1 s.2.1 w6 hct.1 hct.2 (by show _ ≤ _; omega)
        have BKS := Aside0.mk (blk_below HG.out HB6.out)
        clear hgq hw6 hb6 hk6 hct
        go_at_call 54
        refine htt.mono ?_
        rintro e w7 ⟨rfl, hw7⟩
        have hw7' := hw7.symm
        subst hw7'
        clear hw7
        have HOL := Aside0.mk (fun k (h : (Value.slice Ap i cp).ownBlock = some k) => Kd.R_lt HR.out k h)
        obtain ⟨⟨y0, y0f⟩, ⟨y1, y1f⟩⟩ := cells2 BKS.out
        obtain ⟨⟨z0, z0f⟩, ⟨z1, z1f⟩⟩ := cells2 (blk_alloc BKS.out (.cells #[.int .i64 s.1, .slice B1 s.2.1.length d1, .slice B2 s.2.2.1.length d2, .slice B3 s.2.2.2.length d3] 59 (0, 0)))
        clear htt
        go_wp2_with fail
        go_region_law (rw [← World.alloc_drew]; refine Kd.R_append_step kSeg (w0 := w) w.heap.size (by first | rfl | simp [Region.wanted]) (.tmp 50) (.tmp 52) 44 59 (.agg #[.int .i64 0, .slice none 0 0, .slice none 0 0, .slice none 0 0]) 80 (by rfl) Tryz.underlying44 infoSeg rfl (by decide) (by omega) (.slice Ap i cp) acc s [.int .i64 s.1, .slice B1 s.2.1.length d1, .slice B2 s.2.2.1.length d2, .slice B3 s.2.2.2.length d3] (fun k => w3.heap.size ≤ k) (fun k => wr.heap.size ≤ k) (by first | rfl | (simp; done) | (simp; rfl)) (by first | rfl | (simp; done) | (simp; rfl)) ?aP ?aK ?aF ?aO ?aB ?aS ?aL ?_; (case aP => exact kSeg.M_lower HB.out.size (Kd.M_below HM6.out (by repeat (first | exact Below.refl _ _ | apply below_alloc | apply below_drew1 | apply pw_below_drewN)))); (case aK => exact fun k hk => ⟨by have h1 := HK.out.1; have h2 : wr.heap.size ≤ k := hk; omega, fun e => by have h2 : wr.heap.size ≤ k := hk; have h3 := HOL.out k e.symm; omega⟩); (case aF => exact fun k hk => by have h1 := HK.out.1; have h2 := HZ6.out; have h4 : w6.heap.size ≤ k := Nat.le_trans (below_size (by repeat (first | exact Below.refl _ _ | apply below_alloc | apply below_drew1 | apply pw_below_drewN))) hk; omega); (case aO => exact Kd.R_below (Kd.R_below HR.out HB6.out) (by repeat (first | exact Below.refl _ _ | apply below_alloc | apply below_drew1 | apply pw_below_drewN))); (case aB => exact grew_trans (grew_trans HB.out HB6.out) (by repeat (first | exact Below.refl _ _ | apply below_alloc | apply below_drew1 | apply pw_below_drewN))); (case aS => exact (grew_trans (grew_trans HB.out HB6.out) (by repeat (first | exact Below.refl _ _ | apply below_alloc | apply below_drew1 | apply pw_below_drewN))).size); (case aL => omega); intro v7 w7 hO7 hB7 hg7 hat7; obtain ⟨A7, c7, e7⟩ := Kd.R_slice hO7; rw [show (acc ++ [s]).length = i + 1 from by have h4 := HN4.out; rw [List.length_append, List.length_singleton]; omega] at e7; subst e7; have HG7 := Aside0.mk (show w6.drew.grownBy w7 (Value.slice Ap i cp).ownBlock from hg7); have BK7 := Aside0.mk (blk_grown (g := gs) (blk_drew BKS.out) HG7.out (fun e => by have h1 := HOW.out _ e.symm; have h2 := GSL.out; omega)); obtain ⟨⟨rc0, rf0⟩, ⟨rc1, rf1⟩⟩ := cells2 BK7.out; have HO7 := Aside0.mk hO7; have HB7 := Aside0.mk hB7; clear hO7 hB7 hg7 hat7)
        all_goals
          go_wp2
          go_roundg (st.1.length - (i + 1))
          case measure => omega
          case rel =>
            have hz1 := HK.out.1
            have hz2 := HZ6.out
            have hz7 : w6.heap.size ≤ w7.heap.size := HG7.out.size
            refine ⟨i + 1, acc ++ [s], A7, c7, by omega, by omega, by go_num, ?_, ?_, ⟨HCN.out⟩, ⟨blk_put (cs := #[.slice Ap i cp, .slice none 0 0]) BK7.out 0 _ rfl⟩, ⟨?_⟩, ⟨fun k hk => HO7.out.1 k hk⟩, ⟨?_⟩, ⟨below_set HB7.out (Nat.le_trans HBw1.out.size GEgs.out)⟩⟩
            · rw [nlin_append, nlin_one]; go_num
            · rw [tots_append, tots_one]
              congr 1
              omega
            · exact Kd.R_far HO7.out (fun k hk => by have h1 : w3.heap.size ≤ k := hk; have h2 := GSL.out; show k ≠ gs; omega) _
            · exact ⟨by simp [World.setCell]; omega, fun k hk hne => (Below.heap_setCell w7 ⟨gs, 0, none⟩ _ k hne).trans ((HG7.out.block k (show k < w6.heap.size from by omega) (fun e => by have h1 := HOW.out _ e.symm; omega)).trans ((HB6.out.block k (by omega)).trans (HK.out.2 k hk hne)))⟩
    · have hltz : ¬ (i : Int) < (st.1.length : Int) := by omega
      obtain rfl : i = st.1.length := by omega
      have hC := HC.out
      rw [List.take_length] at hC
      have HC9 := Aside0.mk hC
      have HSA := Aside0.mk (segs_all (st := st) hC)
      have BP9 := Aside0.mk (blk_kept BKgp.out HK.out NEP.out)
      clear hC HC
      obtain ⟨⟨p0, p0f⟩, ⟨p1, p1f⟩⟩ := cells2 BP9.out
      have hct := HCT.out wr HB.out
      cases hp : plain st.2 with
      | false =>
        rw [hp] at hct
        have HNO := Aside0.mk (show segsOf st = none from by rw [HSA.out, if_neg (fun h => by rw [hp] at h; exact Bool.noConfusion h.1)])
        clear hp
        go_wp2_with (go_at_call 71; refine hct.mono ?_; rintro e w8 ⟨rfl, hb8⟩)
        go_ret2
        exact ⟨got_none HNO.out rfl, grew_trans HB.out hb8⟩
      | true =>
        rw [hp] at hct
        have HP := Aside0.mk hp
        clear hp
        have ARMC := True.intro
        by_cases hlen : nlin acc + st.2.length ≤ 1000
        case neg =>
          have hlz : ¬ (((nlin acc : Nat) : Int) + (st.2.length : Int) ≤ 1000) := by omega
          have HNO := Aside0.mk (show segsOf st = none from by rw [HSA.out, if_neg (fun h => hlen h.2.1)])
          go_wp2_with (go_at_call 71; refine hct.mono ?_; rintro e w8 ⟨rfl, hb8⟩; have HB8 := Aside0.mk hb8; obtain ⟨⟨t0, t0f⟩, ⟨t1, t1f⟩⟩ := cells2 (blk_below BP9.out hb8); clear hb8)
          go_ret2
          exact ⟨got_none HNO.out rfl, grew_trans HB.out HB8.out⟩
        case pos =>
          have hlz : ((nlin acc : Nat) : Int) + (st.2.length : Int) ≤ 1000 := by omega
          by_cases htot : tots acc + totalB st.2 ≤ 20000
          case neg =>
            have htz : ¬ (((tots acc : Nat) : Int) + (totalB st.2 : Int) ≤ 20000) := by omega
            have HNO := Aside0.mk (show segsOf st = none from by rw [HSA.out, if_neg (fun h => htot h.2.2)])
            go_wp2_with (go_at_call 71; refine hct.mono ?_; rintro e w8 ⟨rfl, hb8⟩; have HB8 := Aside0.mk hb8; obtain ⟨⟨t0, t0f⟩, ⟨t1, t1f⟩⟩ := cells2 (blk_below BP9.out hb8); clear hb8)
            go_ret2
            exact ⟨got_none HNO.out rfl, grew_trans HB.out HB8.out⟩
          case pos =>
            have htz : ((tots acc : Nat) : Int) + (totalB st.2 : Int) ≤ 20000 := by omega
            have HYES := Aside0.mk (show segsOf st = some acc from by rw [HSA.out, if_pos ⟨HP.out, hlen, htot⟩])
            go_wp2_with (first | (go_at_call 71; refine hct.mono ?_; rintro e w8 ⟨rfl, hb8⟩; have HB8 := Aside0.mk hb8; obtain ⟨⟨t0, t0f⟩, ⟨t1, t1f⟩⟩ := cells2 (blk_below BP9.out hb8); clear hb8) | (go_at_call 74; refine (HCP.out _ (grew_trans HB.out HB8.out)).mono ?_; rintro e w9 ⟨v9, rfl, hS9, hb9⟩; obtain ⟨Ao, co, rfl⟩ := Kd.S_slice hS9; have BK9 := Aside0.mk (blk_below (blk_below HG.out HB8.out) hb9); obtain ⟨⟨s0, s0f⟩, ⟨s1, s1f⟩⟩ := cells2 BK9.out; have HS9 := Aside0.mk hS9; have HB9 := Aside0.mk hb9; clear hS9 hb9))
            go_ret2
            have hz8 := HB8.out.size
            have hz9 := HB9.out.size
            have hz := HB.out.size
            have hzk := HK.out.1
            have hgs := GSL.out
            refine ⟨?_, below_set (grew_trans (grew_trans HB.out HB8.out) HB9.out) (Nat.le_trans HBw1.out.size GEgs.out)⟩
            unfold Got
            rw [HYES.out, ← HN4.out]
            rw [← HN4.out] at BK9
            refine ⟨gs, Ap, cp, Ao, co, w8.heap.size, rfl, blk_put (cs := #[.slice Ap acc.length cp, .slice none 0 0]) BK9.out 1 _ rfl, Nat.le_trans HBw1.out.size GEgs.out, by omega, by simp [World.setCell]; omega, ?_, ?_⟩
            · have hR := HR.out
              rw [← HN4.out] at hR
              exact Kd.R_far (Kd.R_mono (Kd.R_below (Kd.R_below (Kd.R_bound hR) HB8.out) HB9.out) (fun k hk => by have h1 : w3.heap.size ≤ k := hk.1; have h2 := hk.2.2.1; exact ⟨by omega, by omega⟩)) (fun k hk => by have h1 := hk.1; show k ≠ gs; omega) _
            · exact Ty.M_set (T := HelpBB.tBB) (HelpBB.tBB.M_mono (fun k hk => hk.2.1) (HelpBB.tBB.M_lower (by omega) (HelpBB.tBB.M_bound HS9.out))) (fun k hk e => by have h1 : w8.heap.size ≤ k := hk; omega) _
end Go.Proofs.YtmgmdnmfalepkaaGreat.Sto

namespace Go.Proofs.YtmgmdnmfalepkaaGreat.Sto
open Go.RowKit Go.Proofs.YtmgmdnmfalepkaaGreatW.PrintWords Go.Proofs.YtmgmdnmfalepkaaGreatW.PrintMore Go.Proofs.YtmgmdnmfalepkaaGreat.Kit Go.Proofs.YtmgmdnmfalepkaaGreat.PKit Go.Proofs.YtmgmdnmfalepkaaGreat.Ty Go.Proofs.YtmgmdnmfalepkaaGreat.PSeg Go.Proofs.YtmgmdnmfalepkaaGreat.PEnc Go.Proofs.YtmgmdnmfalepkaaGreat.PDec Go.Proofs.YtmgmdnmfalepkaaGreat.PSta Go.Proofs.YtmgmdnmfalepkaaGreat.HelpBB Go.Proofs.YtmgmdnmfalepkaaGreat.HelpSeg
open Go.Proofs.YtmgmdnmfalepkaaGreat.Build hiding code ans
set_option linter.unusedVariables false
set_option linter.unusedSimpArgs false
abbrev StepT := List SegT → (List SegT × List (List Int)) × Int
def chg (x : StaT) (f : StepT) : StaT × Int := match segsOf x with
  | none => (([], []), 4)
  | some ss => (((f ss).1.1.map code, (f ss).1.2), (f ss).2)
def StepOk (g : Nat) (cap : Array Value) (x : StaT) (f : StepT) (w0 : World) : Prop :=
  ∀ (W : World) (gs N : Nat) (Av Ao : Option Addr) (cv co : Nat) (ss : List SegT), segsOf x = some ss → (∀ s ∈ ss, Good s) → Below w0.heap.size w0 W → w0.heap.size ≤ gs → gs < N → N ≤ W.heap.size →
    W.heap[gs]? = some (.cells #[.slice Av ss.length cv, .slice Ao x.2.length co] 79 (0, 0)) → Kd.R kSeg 59 W w0.heap.size (fun k => gs < k ∧ k < N) (.slice Av ss.length cv) ss → Kd.S kB 25 W w0.heap.size (fun k => N ≤ k) (.slice Ao x.2.length co) x.2 →
    Calls Tryz.prog g (#[.pointer (some ⟨gs, 0, none⟩)] ++ cap) W fun e w' => ∃ (Bv : Option Addr) (dv : Nat) (Bo : Option Addr) (do_ : Nat), e = .returned (.int .i64 (f ss).2) ∧ w'.heap[gs]? = some (.cells #[.slice Bv (f ss).1.1.length dv, .slice Bo (f ss).1.2.length do_] 79 (0, 0)) ∧ Kd.C kSeg w' Bv (f ss).1.1.length (f ss).1.1 ∧ Kd.C kB w' Bo (f ss).1.2.length (f ss).1.2 ∧ (f ss).1.2.length ≤ do_ ∧ Below w0.heap.size w0 w'
theorem two_M (w : World) (base : Nat) : HelpSta.tSta.M w base (fun _ => True) ([], []) (.agg #[.slice none 0 0, .slice none 0 0]) :=
  HelpSta.tSta.M_mono (fun _ _ => trivial) ⟨[_, _], rfl, Tys.cons_apart (ok1 := fun _ => False) (ok2 := fun _ => True) (Kd.S_nil _ _ _ _ _) (Tys.M_one (Kd.S_nil _ _ _ _ _)) (fun _ _ h => h)⟩
set_option maxRecDepth 100000 in
set_option maxHeartbeats 8000000 in
theorem changed_calls (g : Nat) (cap : Array Value) (eg : ∀ args w, (callFunc g args).run Tryz.prog w = .ok (.enter g args) w) (x : StaT) (f : StepT) (A0 A1 : Option Addr) (c0 c1 : Nat) (w : World) (h0 : Kd.C kB w A0 x.1.length x.1) (l0 : x.1.length ≤ c0) (h1 : Kd.C kB w A1 x.2.length x.2) (l1 : x.2.length ≤ c1) (hb0 : Bytes x.1) (hb1 : Bytes x.2) (s0 : smallBB x.1) (s1 : smallBB x.2)
    (hst : ∀ w0, Below w.heap.size w w0 → StepOk g cap x f w0) (hgd : ∀ ss, segsOf x = some ss → (∀ s ∈ (f ss).1.1, Good s) ∧ (f ss).1.1.length ≤ 1048576 ∧ smallBB (f ss).1.2) :
    Calls Tryz.prog 27 #[.agg #[.slice A0 x.1.length c0, .slice A1 x.2.length c1], .func (.func g) #[] cap] w fun e w' => ∃ v', e = .returned (.tuple #[v', .int .i64 (chg x f).2]) ∧ HelpSta.tSta.M w' w.heap.size (fun _ => True) (chg x f).1 v' ∧ Grew w w' := by
  have huT := Tryz.underlying27
  have H0 := Aside0.mk h0
  have H1 := Aside0.mk h1
  have HSO := Aside0.mk (fun (W : World) (hW : Below w.heap.size w W) => storeOf_calls x A0 A1 c0 c1 W (Kd.C_below h0 hW) l0 (Kd.C_below h1 hW) l1 hb0 hb1 s0 s1)
  have HB0 := Aside0.mk hb0
  have HST := Aside0.mk hst
  have HGD := Aside0.mk hgd
  clear h0 h1 hb0 hb1 hst hgd s0 s1
  go_enter Tryz.func27, Tryz.ntmps27
  go_wp2_with (first | ((with_reducible refine gate_dst (N := 2) rfl ?_); refine box_event ?hg (N := 2) ?hd (cs := #[.slice A0 x.1.length c0, .slice A1 x.2.length c1]) (t := 27) ?hr ?_; (case hd => rfl); (case hg => rfl); (case hr => first | (go_simp; done) | (go_simp; rfl)); intro gx hg_ w1 hbx hbb; have BKgx := Aside0.mk hbx; have GEgx := Aside0.mk (show w.heap.size ≤ gx from Nat.le_of_eq hg_.symm); have GLgx := Aside0.mk (blk_lt hbx); have HBw1 := Aside0.mk hbb; clear hg_ hbb; obtain ⟨⟨hgxc0, hgxf0⟩, ⟨hgxc1, hgxf1⟩⟩ := cells2 hbx; clear hbx) | ((with_reducible refine gate_dst (N := 4) rfl ?_); refine box_event ?hg (N := 4) ?hd (cs := #[.slice none 0 0, .slice none 0 0]) (t := 27) ?hr ?_; (case hd => rfl); (case hg => rfl); (case hr => first | (go_simp; done) | (go_simp; rfl)); intro gr hg_ w2 hbx hbb; have BKgr := Aside0.mk hbx; have GEgr := Aside0.mk (show w1.heap.size ≤ gr from Nat.le_of_eq hg_.symm); have GLgr := Aside0.mk (blk_lt hbx); have HBw2 := Aside0.mk hbb; clear hg_ hbb; obtain ⟨⟨hgrc0, hgrf0⟩, ⟨hgrc1, hgrf1⟩⟩ := cells2 hbx; clear hbx; have BKp_ := Aside0.mk (blk_below BKgx.out HBw2.out); clear BKgx hgxc0 hgxf0 hgxc1 hgxf1; have BKgx := BKp_; clear BKp_; obtain ⟨⟨pc0, pf0⟩, ⟨pc1, pf1⟩⟩ := cells2 BKgx.out))
  have HB2 := Aside0.mk (show Below w.heap.size w w2 from grew_trans HBw1.out HBw2.out)
  have GER := Aside0.mk (show w.heap.size ≤ gr from Nat.le_trans HBw1.out.size GEgr.out)
  clear hgrc0 hgrf0 hgrc1 hgrf1 pc0 pf0 pc1 pf1
  go_at_call 49
  refine (HSO.out _ HB2.out).mono ?_
  rintro e w3 ⟨hG3, hb3⟩
  have BK3 := Aside0.mk (blk_below BKgr.out hb3)
  have HB3 := Aside0.mk (show Below w.heap.size w w3 from grew_trans HB2.out hb3)
  have HB23 := Aside0.mk hb3
  have GLR := Aside0.mk (blk_lt BKgr.out)
  obtain ⟨⟨r0, rf0⟩, ⟨r1, rf1⟩⟩ := cells2 BK3.out
  clear hb3
  cases hs : segsOf x with
  | none =>
    unfold Got at hG3
    rw [hs] at hG3
    obtain rfl := hG3
    have HS := Aside0.mk hs
    clear hs
    go_wp2
    refine bodyPost_ret (results_ct rfl _ _ gr 27 #[.slice none 0 0, .slice none 0 0] (0, 0) _ rfl (by (with_reducible repeat (first | refine blk_drewN ?_ _ | refine blk_drew ?_ | refine blk_alloc ?_ _)); refine blk_put (cs := #[.slice none 0 0, .slice none 0 0]) ?_ 1 _ rfl; (with_reducible repeat (first | refine blk_drewN ?_ _ | refine blk_drew ?_ | refine blk_alloc ?_ _)); refine blk_put (cs := #[.slice none 0 0, .slice none 0 0]) ?_ 0 _ rfl; (with_reducible repeat (first | refine blk_drewN ?_ _ | refine blk_drew ?_ | refine blk_alloc ?_ _)); exact BK3.out) Tryz.underlying27 rfl (by kernel_rfl)) rfl ?_
    rw [show chg x f = (([], []), 4) from by unfold chg; rw [HS.out]]
    exact ⟨_, rfl, two_M _ _, below_set (below_set (HB3.out) GER.out) GER.out⟩
  | some ss =>
    unfold Got at hG3
    rw [hs] at hG3
    obtain ⟨gs, Av, cv, Ao, co, N, rfl, hk3, g1, g2, g3, hR3, hS3⟩ := hG3
    have HS := Aside0.mk hs
    have HC := Aside0.mk (show chg x f = (((f ss).1.1.map code, (f ss).1.2), (f ss).2) from by unfold chg; rw [hs])
    have HF := Aside0.mk (HGD.out ss hs)
    have hstep := HST.out w2 HB2.out w3 gs N Av Ao cv co ss hs (chain_good (segsOf_some hs).1 HB0.out) HB23.out g1 g2 g3 hk3 hR3 hS3
    have GSR := Aside0.mk (show gr < gs from by have := GLR.out; omega)
    clear hs hk3 g2 g3 hR3 hS3 g1
    generalize f ss = q at hstep HC HF
    go_wp2_with fail
    go_at_fn g
    refine hstep.mono ?_
    rintro e w4 ⟨Bv, dv, Bo, do_, rfl, hk4, hC4, hO4, hl4, hb4⟩
    have HB24 := Aside0.mk hb4
    have HB4 := Aside0.mk (show Below w.heap.size w w4 from grew_trans HB2.out hb4)
    have BK4 := Aside0.mk (blk_below BKgr.out hb4)
    have HSC := Aside0.mk (state_calls gs Bv Bo dv do_ q.1.1.length q.1.2.length q.1.1 q.1.2 rfl rfl w4 hk4 hC4 hO4 hl4 HF.out.2.2 HF.out.1 HF.out.2.1)
    clear hk4 hC4 hO4 hl4 hb4 hstep r0 rf0 r1 rf1
    obtain ⟨⟨r0, rf0⟩, ⟨r1, rf1⟩⟩ := cells2 BK4.out
    go_wp2_with fail
    go_at_call 50
    refine HSC.out.mono ?_
    rintro e w5 ⟨v5, rfl, hM5, hb5⟩
    obtain ⟨E0, e0, E1, e1, ev⟩ := HelpSta.form (HelpSta.tSta.K_of_M hM5)
    have ev : v5 = .agg #[.slice E0 (q.1.1.map code).length e0, .slice E1 q.1.2.length e1] := ev
    rw [List.length_map] at ev
    subst ev
    have HM5 := Aside0.mk hM5
    have HB45 := Aside0.mk hb5
    have HB5 := Aside0.mk (show Below w.heap.size w w5 from grew_trans HB4.out hb5)
    have BK5 := Aside0.mk (blk_below BK4.out hb5)
    clear hM5 hb5 r0 rf0 r1 rf1
    obtain ⟨⟨r0, rf0⟩, ⟨r1, rf1⟩⟩ := cells2 BK5.out
    go_wp2
    refine bodyPost_ret (results_ct rfl _ _ gr 27 #[.slice E0 q.1.1.length e0, .slice E1 q.1.2.length e1] (0, 0) _ rfl (by (with_reducible repeat (first | refine blk_drewN ?_ _ | refine blk_drew ?_ | refine blk_alloc ?_ _)); refine blk_put (cs := #[.slice E0 q.1.1.length e0, .slice none 0 0]) ?_ 1 _ rfl; (with_reducible repeat (first | refine blk_drewN ?_ _ | refine blk_drew ?_ | refine blk_alloc ?_ _)); refine blk_put (cs := #[.slice none 0 0, .slice none 0 0]) ?_ 0 _ rfl; (with_reducible repeat (first | refine blk_drewN ?_ _ | refine blk_drew ?_ | refine blk_alloc ?_ _)); exact BK5.out) Tryz.underlying27 rfl (by kernel_rfl)) rfl ?_
    rw [HC.out]
    refine ⟨_, rfl, ?_, below_set (below_set (HB5.out) GER.out) GER.out⟩
    exact HelpSta.tSta.M_mono (fun _ _ => trivial) ((Ty.M_set (T := HelpSta.tSta) (Ty.M_set (T := HelpSta.tSta) (HelpSta.tSta.M_lower HB4.out.size (HelpSta.tSta.M_bound HM5.out)) (fun k hk e => by have h1 := hk.2.1; have h2 := GLR.out; have h3 := HB24.out.size; omega) _) (fun k hk e => by have h1 := hk.2.1; have h2 := GLR.out; have h3 := HB24.out.size; omega) _))
end Go.Proofs.YtmgmdnmfalepkaaGreat.Sto

namespace Go.Proofs.YtmgmdnmfalepkaaGreat.Sto
open Go.RowKit Go.Proofs.YtmgmdnmfalepkaaGreatW.PrintWords Go.Proofs.YtmgmdnmfalepkaaGreatW.PrintMore Go.Proofs.YtmgmdnmfalepkaaGreat.Kit Go.Proofs.YtmgmdnmfalepkaaGreat.PKit Go.Proofs.YtmgmdnmfalepkaaGreat.Ty Go.Proofs.YtmgmdnmfalepkaaGreat.PSeg Go.Proofs.YtmgmdnmfalepkaaGreat.PEnc Go.Proofs.YtmgmdnmfalepkaaGreat.PDec Go.Proofs.YtmgmdnmfalepkaaGreat.PSta Go.Proofs.YtmgmdnmfalepkaaGreat.HelpBB Go.Proofs.YtmgmdnmfalepkaaGreat.HelpSeg
open Go.Proofs.YtmgmdnmfalepkaaGreat.Build hiding code ans
set_option linter.unusedVariables false
set_option linter.unusedSimpArgs false
set_option maxRecDepth 100000 in
set_option maxHeartbeats 4000000 in
theorem bytes_calls (g : Nat) (Av Ao : Option Addr) (cv co n m : Nat) (ss : List SegT) (op : List (List Int)) (hn : n = ss.length) (hm : m = op.length) (w : World) (hg : w.heap[g]? = some (.cells #[.slice Av n cv, .slice Ao m co] 79 (0, 0))) (hs : Kd.C kSeg w Av ss.length ss) (ho : Kd.C kB w Ao op.length op) (hc : op.length ≤ co) (hso : smallBB op) (hl : tots ss ≤ 20000000) (hG : ∀ s ∈ ss, Good s) :
    Calls Tryz.prog 53 #[.pointer (some ⟨g, 0, none⟩)] w fun e w' => e = .returned (.int .i64 ((totalB op : Int) + ((tots ss : Nat) : Int))) ∧ Grew w w' := by
  subst hn hm
  have huS := Tryz.underlying79
  have huI := Tryz.underlying59
  have q0 : op.length + totalB op ≤ 1048576 := hso
  have hL := hs.2.1
  have HS := Aside0.mk hs
  obtain ⟨⟨g0, f0⟩, ⟨g1, f1⟩⟩ := cells2 hg
  have htt := total_calls Ao co op w ho hc hso
  have HG := Aside0.mk hG
  clear hs hg ho hso hG
  go_enter Tryz.func53, Tryz.ntmps53
  go_wp2_with (go_at_call 54; refine htt.mono ?_; rintro e w2 ⟨rfl, hw2⟩; have hw2' := hw2.symm; subst hw2'; clear hw2)
  clear htt
  go_loopg [3, 16] ss.length (fun gg s3 s16 wr => ∃ i : Nat, i ≤ ss.length ∧ ss.length - i ≤ gg ∧ s16 = .int .i64 (i : Int) ∧ s3 = .int .i64 ((totalB op : Int) + ((tots (ss.take i) : Nat) : Int)) ∧ Aside0 (Below w.heap.size w wr))
  case atStart => exact ⟨0, by omega, by omega, rfl, by simp [tots], ⟨by repeat (first | exact Below.refl _ _ | apply below_alloc | apply below_drew1 | apply pw_below_drewN)⟩⟩
  case round =>
    obtain ⟨i, hi, hg, rfl, rfl, HB⟩ := hrel
    by_cases hlt : i < ss.length
    · have hltz : (i : Int) < (ss.length : Int) := by omega
      obtain ⟨ad, A1, c1, A2, c2, A3, c3, rfl, hcc, hT⟩ := at_seg HS.out i hlt
      obtain ⟨hc0, hc1, hc2, hc3⟩ := cells_later HB.out hcc
      obtain ⟨⟨B1, d1, e1, l1, k1⟩, _, _⟩ := Decode.seg_parts (b := (ss.getD i zS).1) (ls := (ss.getD i zS).2.1) (K := (ss.getD i zS).2.2.1) (Ps := (ss.getD i zS).2.2.2) hT
      obtain ⟨rfl, rfl⟩ : A1 = B1 ∧ c1 = d1 := by injection e1 with x1 x2 x3; exact ⟨x1, x3⟩
      have hsn := tots_append (ss.take i) [ss.getD i zS]
      rw [← seg_snoc ss i hlt, tots_one] at hsn
      have hlt2 := tots_take ss (i + 1)
      have hsm : smallBB (ss.getD i zS).2.1 := by obtain ⟨_, f, _⟩ := HG.out _ (getD_mem ss zS i hlt); have h := fits_parts f; show _ ≤ _; omega
      have HSN := Aside0.mk hsn
      have hb1 : tots (ss.take i) ≤ 20000000 := by omega
      have hb2 : totalB (ss.getD i zS).2.1 ≤ 20000000 := by omega
      have HTT := Aside0.mk (fun (W : World) (hW : Below w.heap.size w W) => total_calls A1 c1 (ss.getD i zS).2.1 W (Kd.C_below k1 hW) l1 hsm)
      clear hcc hT hsn hlt2 e1 l1 k1 hsm
      generalize ss.getD i zS = s at hc0 hc1 hc2 hc3 HSN hb2 HTT
      go_wp2_with (go_at_call 54; refine (HTT.out _ (by repeat (first | exact HB.out | apply below_alloc | apply below_drew1 | apply pw_below_drewN))).mono ?_; rintro e w2 ⟨rfl, hw2⟩; have HB2 := Aside0.mk (show Below w.heap.size w w2 from by rw [hw2]; repeat (first | exact HB.out | apply below_alloc | apply below_drew1 | apply pw_below_drewN)); clear hw2)
      go_roundg (ss.length - (i + 1))
      case measure => omega
      case rel => exact ⟨i + 1, by omega, by omega, by go_num, by rw [HSN.out]; congr 1; omega, HB2⟩
    · have hltz : ¬ (i : Int) < (ss.length : Int) := by omega
      obtain rfl : i = ss.length := by omega
      rw [List.take_length]
      go_wp2
      go_ret
      exact ⟨rfl, HB.out⟩
set_option maxRecDepth 100000 in
set_option maxHeartbeats 4000000 in
theorem total_big (A : Option Addr) (c : Nat) (ls : List (List Int)) (w : World) (hr : Kd.C kB w A ls.length ls) (hc : ls.length ≤ c) (hs : ls.length + totalB ls ≤ 4194304) :
    Calls Tryz.prog 54 #[.slice A ls.length c] w fun e w' => e = .returned (.int .i64 (totalB ls : Int)) ∧ w' = w := by
  have hs' : ls.length + totalB ls ≤ 4194304 := hs
  have HR := Aside0.mk hr
  clear hr
  go_enter Tryz.func54, Tryz.ntmps54
  go_wp2
  go_loopg [3, 8] ls.length (fun gg s3 s8 wr => ∃ i : Nat, i ≤ ls.length ∧ ls.length - i ≤ gg ∧ s3 = .int .i64 (totalB (ls.take i) : Int) ∧ s8 = .int .i64 i ∧ wr = w)
  case atStart => exact ⟨0, by omega, by omega, by simp [totalB], rfl, rfl⟩
  case round =>
    obtain ⟨i, hi, hg, rfl, rfl, rfl⟩ := hrel
    by_cases hlt : i < ls.length
    · have hltz : (i : Int) < (ls.length : Int) := by omega
      have ht := total_take ls (i + 1)
      rw [total_drop ls i hlt] at ht
      obtain ⟨ad, u, rfl, hcell, hK⟩ := get_one (d := kB) rfl HR.out [] i hlt
      obtain ⟨A', c', e', hc', hr'⟩ := hK
      obtain rfl : u = .slice A' (ls.getD i []).length c' := by injection e'
      clear hc' hr' e'
      have hd := total_drop ls i hlt
      generalize hx : ls.getD i [] = l at ht hcell hd
      clear hx
      go_wp2
      go_roundg (ls.length - (i + 1))
      case measure => omega
      case rel => exact ⟨i + 1, by omega, by omega, by rw [hd]; go_num, by go_num, rfl⟩
    · have hltz : ¬ (i : Int) < (ls.length : Int) := by omega
      obtain rfl : i = ls.length := by omega
      go_wp2
      go_ret
      exact ⟨by first | rfl | simp, rfl⟩
end Go.Proofs.YtmgmdnmfalepkaaGreat.Sto

namespace Go.Proofs.YtmgmdnmfalepkaaGreat.L
open Go.RowKit Go.Proofs.YtmgmdnmfalepkaaGreatW.PrintWords Go.Proofs.YtmgmdnmfalepkaaGreatW.PrintLast Go.Proofs.YtmgmdnmfalepkaaGreatW.PrintMore
attribute [local go_sem] max2_int min2_int max_two min_two max_three min_three max_four min_four
set_option linter.unusedVariables false
set_option linter.unusedSimpArgs false
mutual
def spec_SplitLines.l0 : Nat → List Int → List (List Int) → Int → Option ((List (List Int)))
 | 0, _, _, _ => none
 | k + 1, x0, x3, x4 => if x4 < (x0.length : Int) then (spec_SplitLines.l1 k x0 x3 x4 ([] : List Int)) else (some x3)
def spec_SplitLines.l1 : Nat → List Int → List (List Int) → Int → List Int → Option ((List (List Int)))
 | 0, _, _, _, _ => none
 | k + 1, x0, x3, x4, x5 => if x4 < (x0.length : Int) then (if 0 ≤ x4 then (if (rd x0 x4) = 10 then (if x3.length < 5864062014805 then (spec_SplitLines.l0 k x0 (x3 ++ [x5]) (wrap64 (x4 + 1))) else (none)) else (if x5.length < 140737488355328 then (spec_SplitLines.l1 k x0 x3 (wrap64 (x4 + 1)) (x5 ++ [rd x0 x4])) else (none))) else (none)) else (if x3.length < 5864062014805 then (spec_SplitLines.l0 k x0 (x3 ++ [x5]) (wrap64 (x4 + 1))) else (none))
end
def spec_SplitLines.f (k : Nat) (l0 : List Int) : Option ((List (List Int))) := spec_SplitLines.l0 k l0 ([] : List (List Int)) 0
theorem spec_SplitLines.mono_l : ∀ k, (∀ y0 y1 y2, LeO (spec_SplitLines.l0 k y0 y1 y2) (spec_SplitLines.l0 (k + 1) y0 y1 y2)) ∧ (∀ y0 y1 y2 y3, LeO (spec_SplitLines.l1 k y0 y1 y2 y3) (spec_SplitLines.l1 (k + 1) y0 y1 y2 y3))
  | 0 => ⟨fun _ _ _ r h => by simp [spec_SplitLines.l0] at h, fun _ _ _ _ r h => by simp [spec_SplitLines.l1] at h⟩
  | k + 1 => by
    obtain ⟨ih0, ih1⟩ := spec_SplitLines.mono_l k
    refine ⟨?_, ?_⟩
    · intro y0 y1 y2
      unfold spec_SplitLines.l0
      repeat' first
      | (with_reducible exact ih0 _ _ _)
      | (with_reducible exact ih1 _ _ _ _)
      | (with_reducible exact LeO.refl _)
      | (with_reducible exact LeO.none _)
      | (with_reducible refine LeO.ite ?_ ?_)
      | (with_reducible refine LeO.bind ?_ (fun _ => ?_))
      | exact ih0 _ _ _
      | exact ih1 _ _ _ _
      | exact LeO.none _
      | refine LeO.ite ?_ ?_
      | refine LeO.bind ?_ (fun _ => ?_)
    · intro y0 y1 y2 y3
      unfold spec_SplitLines.l1
      repeat' first
      | (with_reducible exact ih0 _ _ _)
      | (with_reducible exact ih1 _ _ _ _)
      | (with_reducible exact LeO.refl _)
      | (with_reducible exact LeO.none _)
      | (with_reducible refine LeO.ite ?_ ?_)
      | (with_reducible refine LeO.bind ?_ (fun _ => ?_))
      | exact ih0 _ _ _
      | exact ih1 _ _ _ _
      | exact LeO.none _
      | refine LeO.ite ?_ ?_
      | refine LeO.bind ?_ (fun _ => ?_)
theorem spec_SplitLines.mono : ∀ a0 k, LeO (spec_SplitLines.f k a0) (spec_SplitLines.f (k + 1) a0) := by
 intro a0 k
 obtain ⟨ih0, ih1⟩ := spec_SplitLines.mono_l k
 unfold spec_SplitLines.f
 repeat' first
   | (with_reducible exact ih0 _ _ _)
   | (with_reducible exact ih1 _ _ _ _)
   | (with_reducible exact LeO.refl _)
   | (with_reducible exact LeO.none _)
   | (with_reducible refine LeO.ite ?_ ?_)
   | (with_reducible refine LeO.bind ?_ (fun _ => ?_))
   | exact ih0 _ _ _
   | exact ih1 _ _ _ _
   | exact LeO.none _
   | refine LeO.ite ?_ ?_
   | refine LeO.bind ?_ (fun _ => ?_)
set_option maxHeartbeats 8000000 in
set_option maxRecDepth 100000 in
theorem spec_SplitLines.calls (k : Nat) (A0 : Option Addr) (c0 : Nat) (l0 : List Int) (r : List (List Int)) (w : World) (hr0 : Kd.C (Kd.int .u8) w A0 l0.length l0) (hc0 : l0.length ≤ c0) (h : spec_SplitLines.f k l0 = some r) :
    Calls Tryz.prog 20 #[.slice A0 l0.length c0] w fun e w' => ∃ v0_ : Value, e = .returned (v0_) ∧ Kd.S (Kd.slice 5 (Kd.int .u8)) 25 w' w.heap.size (fun _ => True) v0_ r ∧ Below w.heap.size w w' := by
  have HR0 := Aside0.mk hr0
  have HC0 := Aside0.mk hc0
  clear hr0 hc0
  have HB := Aside0.mk (Below.refl w.heap.size w)
  have H : (spec_SplitLines.l0 k l0 ([] : List (List Int)) 0) = some r := h
  clear h
  have H' := Aside0.mk H
  clear H
  go_enter Tryz.func20, Tryz.ntmps20
  go_wp2
  go_loopg [3, 4] k (fun kq v3 v4 w' => ∃ (x3_1 : List (List Int)) (x4_1 : Int), v4 = .int .i64 x4_1 ∧ Aside0 (spec_SplitLines.l0 kq l0 x3_1 x4_1 = some r) ∧ Aside0 (kq ≤ k) ∧ Aside0 (Kd.S (Kd.slice 5 (Kd.int .u8)) 25 w' w.heap.size (fun _ => True) v3 x3_1) ∧ Aside0 (Below w.heap.size w w'))
  case atStart => exact ⟨(([] : List (List Int))), (0), (by first | rfl | (simp; done) | (simp [*]; done)), H', ⟨Nat.le_refl _⟩, ⟨by first | exact Kd.S_nil _ _ _ _ _ | exact Kd.N_nil _ _ _ _ _ | exact Kd.V_nil _ _ _ _ _ | exact Kd.Q_nil _ _ _ _ _ | exact Kd.R_nil _ _ _ _ _⟩, ⟨by repeat (first | (with_reducible first | exact HB.out | apply below_alloc | apply pw_below_drewN | apply below_drew1) | exact HB.out)⟩⟩
  case round =>
    clear H'
    obtain ⟨x3_1, x4_1, rfl, HA, HK1, HO_3, HB⟩ := hrel
    cases gk with
    | zero => exact absurd HA.out (by simp [spec_SplitLines.l0])
    | succ k1 =>
      have H := HA.out
      clear HA
      simp only [spec_SplitLines.l0] at H
      by_cases c2 : x4_1 < (l0.length : Int)
      · rw [if_pos c2] at H
        have c2b0 : decide (x4_1 < (l0.length : Int)) = true := decide_eq_true c2
        clear c2
        have H' := Aside0.mk H
        clear H
        go_wp2
        go_loopg [4, 5] k1 (fun kq v4 v5 w' => ∃ (x4_2 : Int) (x5_2 : List Int), v4 = .int .i64 x4_2 ∧ Aside0 (spec_SplitLines.l1 kq l0 x3_1 x4_2 x5_2 = some r) ∧ Aside0 (kq ≤ k1) ∧ Aside0 (Kd.S (Kd.slice 5 (Kd.int .u8)) 25 w' w.heap.size (fun k_ => some k_ ≠ (v5 : Value).ownBlock) u3 x3_1) ∧ Aside0 (Kd.R (Kd.int .u8) 5 w' w.heap.size (fun _ => True) v5 x5_2) ∧ Aside0 (Below w.heap.size w w'))
        case atStart => exact ⟨(x4_1), (([] : List Int)), (by first | rfl | (simp; done) | (simp [*]; done)), H', ⟨Nat.le_refl _⟩, ⟨by (with_reducible repeat (first | apply Kd.S_alloc | apply Kd.S_drewN | apply Kd.S_drew)); exact Kd.S_mono HO_3.out (fun _ hk => (by simp [Value.ownBlock]))⟩, ⟨by first | exact Kd.R_nil _ _ _ _ _ | exact Kd.N_nil _ _ _ _ _ | exact Kd.V_nil _ _ _ _ _ | exact Kd.Q_nil _ _ _ _ _ | exact Kd.S_nil _ _ _ _ _⟩, ⟨by repeat (first | (with_reducible first | exact HB.out | apply below_alloc | apply pw_below_drewN | apply below_drew1) | exact HB.out)⟩⟩
        case round =>
          clear H'
          try clear c2
          try clear c2b0
          try clear p2
          obtain ⟨x4_2, x5_2, rfl, HA, HK2, HO_3, HO_5, HB⟩ := hrel
          cases gk with
          | zero => exact absurd HA.out (by simp [spec_SplitLines.l1])
          | succ k2 =>
            have H := HA.out
            clear HA
            simp only [spec_SplitLines.l1] at H
            by_cases c3 : x4_2 < (l0.length : Int)
            · rw [if_pos c3] at H
              have c3b0 : decide (x4_2 < (l0.length : Int)) = true := decide_eq_true c3
              clear c3
              by_cases c4 : 0 ≤ x4_2
              · rw [if_pos c4] at H
                have c4b0 : decide (0 ≤ x4_2) = true := decide_eq_true c4
                clear c4
                by_cases c5 : (rd l0 x4_2) = 10
                · rw [if_pos c5] at H
                  have c5b0 : ((rd l0 x4_2) == 10) = true := beq_iff_eq.mpr c5
                  have c5b1 : ((rd l0 x4_2) != 10) = false := bne_eq_false_iff_eq.mpr c5
                  clear c5
                  by_cases c6 : x3_1.length < 5864062014805
                  · rw [if_pos c6] at H
                    have LMc6 := Aside0.mk c6
                    clear c6
                    obtain ⟨y380, hy380⟩ : ∃ y_ : List (List Int), y_ = (x3_1 ++ [x5_2]) := ⟨_, rfl⟩
                    replace H : (spec_SplitLines.l0 k2 l0 y380 (wrap64 (x4_2 + 1))) = some r := by first | (rw [hy380]; with_reducible exact H) | (have H2_ := (Option.bind_some _ _).symm.trans H; rw [hy380]; with_reducible exact H2_) | (have H2_ := (Option.bind_some _ _).symm.trans H; with_reducible exact H2_) | with_reducible exact H | (rw [hy380]; exact H) | exact H
                    have Ny380 := Aside0.mk hy380
                    clear hy380
                    have H' := Aside0.mk H
                    clear H
                    have p379 : 0 ≤ (x4_2 : Int) := of_decide_eq_true (by first | (with_reducible assumption) | assumption)
                    have q379 : x4_2 < (l0.length : Int) := of_decide_eq_true (by first | (with_reducible assumption) | assumption)
                    obtain ⟨ad379, e379, hx379_0⟩ := Kd.at_int HR0.out x4_2 p379 q379
                    cases e379
                    replace hx379_0 := (HB.out.cell (World.block_lt_of_cell? w _ hx379_0)).trans hx379_0
                    replace p379 := eq_true p379
                    replace q379 := eq_true q379
                    obtain ⟨Ao8, co8, eo8⟩ := Kd.R_slice HO_5.out
                    subst eo8
                    go_wp2_with (first | ((with_reducible refine gate_builtin (b := .append) (xs := #[.tmp 30, .tmp 32]) rfl ?_); at_builtin; refine Kd.S_append (Kd.slice 5 (Kd.int .u8)) (w0 := w) w.heap.size rfl (.tmp 30) (.tmp 32) 22 25 (.slice none 0 0) 24 rfl Tryz.underlying22 info25 rfl (by decide) (by omega) u3 x3_1 x5_2 [.slice Ao8 x5_2.length co8] (fun _ => True) (fun k_ => some k_ = (.slice Ao8 x5_2.length co8 : Value).ownBlock) rfl rfl ?aP (fun k_ hk_ => ((Kd.R_mono (ok' := fun k_ => ((fun _ => True)) k_ ∧ some k_ ≠ (u3 : Value).ownBlock) (Kd.R_apart' (HO_5.out) (Kd.S_typed HO_3.out) (by decide)) (fun k_ hk => ⟨trivial, hk.2⟩))).1 k_ hk_.symm) ?aF ?aO ?aB ?aS ?aL ?_; (case aP => exact Kd.M_row (Kd.R_mono (Kd.R_tight rfl (Kd.R_mono (ok' := fun k_ => ((fun _ => True)) k_ ∧ some k_ ≠ (u3 : Value).ownBlock) (Kd.R_apart' (HO_5.out) (Kd.S_typed HO_3.out) (by decide)) (fun k_ hk => ⟨trivial, hk.2⟩))) (fun _ h_ => h_))); (case aB => exact (by repeat (first | (with_reducible first | exact HB.out | apply below_alloc | apply pw_below_drewN | apply below_drew1) | exact HB.out))); (case aF => exact (fun _ _ => trivial)); (case aO => exact (by (with_reducible repeat (first | apply Kd.S_alloc | apply Kd.S_drewN | apply Kd.S_drew)); exact Kd.S_mono HO_3.out (fun k_ hk => ⟨trivial, fun e_ => hk e_⟩))); (case aS => exact (below_size (by repeat (first | (with_reducible first | exact HB.out | apply below_alloc | apply pw_below_drewN | apply below_drew1) | exact HB.out)))); (case aL => have := LMc6.out; omega); intro v381 w7 ho hb hg hat; rw [← Ny380.out] at ho; have n0_ := Aside0.mk (hb); have n1_ := Aside0.mk (ho); clear HB; clear HO_3; clear HO_5; have HB := n0_; have HO382 := n1_; clear n0_ n1_; clear ho hb hg hat))
                    go_roundg k2
                    case measure => have := HK1.out; have := HK2.out; omega
                    case rel => exact ⟨(y380), (wrap64 (x4_2 + 1)), (by first | rfl | (simp; done) | (simp [*]; done)), H', ⟨by have := HK1.out; have := HK2.out; omega⟩, ⟨by (with_reducible repeat (first | apply Kd.S_alloc | apply Kd.S_drewN | apply Kd.S_drew)); exact HO382.out⟩, ⟨by repeat (first | (with_reducible first | exact HB.out | apply below_alloc | apply pw_below_drewN | apply below_drew1) | exact HB.out)⟩⟩
                  · rw [if_neg c6] at H
                    exact absurd H (by simp)
                · rw [if_neg c5] at H
                  have c5b0 : ((rd l0 x4_2) == 10) = false := beq_eq_false_iff_ne.mpr c5
                  have c5b1 : ((rd l0 x4_2) != 10) = true := bne_iff_ne.mpr c5
                  by_cases c9 : x5_2.length < 140737488355328
                  · rw [if_pos c9] at H
                    have LMc9 := Aside0.mk c9
                    clear c9
                    obtain ⟨y384, hy384⟩ : ∃ y_ : List Int, y_ = (x5_2 ++ [rd l0 x4_2]) := ⟨_, rfl⟩
                    replace H : (spec_SplitLines.l1 k2 l0 x3_1 (wrap64 (x4_2 + 1)) y384) = some r := by first | (rw [hy384]; with_reducible exact H) | (have H2_ := (Option.bind_some _ _).symm.trans H; rw [hy384]; with_reducible exact H2_) | (have H2_ := (Option.bind_some _ _).symm.trans H; with_reducible exact H2_) | with_reducible exact H | (rw [hy384]; exact H) | exact H
                    have Ny384 := Aside0.mk hy384
                    clear hy384
                    have H' := Aside0.mk H
                    clear H
                    have p379 : 0 ≤ (x4_2 : Int) := of_decide_eq_true (by first | (with_reducible assumption) | assumption)
                    have q379 : x4_2 < (l0.length : Int) := of_decide_eq_true (by first | (with_reducible assumption) | assumption)
                    obtain ⟨ad379, e379, hx379_0⟩ := Kd.at_int HR0.out x4_2 p379 q379
                    cases e379
                    replace hx379_0 := (HB.out.cell (World.block_lt_of_cell? w _ hx379_0)).trans hx379_0
                    replace p379 := eq_true p379
                    replace q379 := eq_true q379
                    have p383 : 0 ≤ (x4_2 : Int) := of_decide_eq_true (by first | (with_reducible assumption) | assumption)
                    have q383 : x4_2 < (l0.length : Int) := of_decide_eq_true (by first | (with_reducible assumption) | assumption)
                    obtain ⟨ad383, e383, hx383_0⟩ := Kd.at_int HR0.out x4_2 p383 q383
                    obtain rfl : ad379 = ad383 := (by injection e383)
                    replace hx383_0 := (HB.out.cell (World.block_lt_of_cell? w _ hx383_0)).trans hx383_0
                    replace p383 := eq_true p383
                    replace q383 := eq_true q383
                    go_wp2_with (first | ((with_reducible refine gate_builtin (b := .append) (xs := #[.tmp 21, .tmp 26]) rfl ?_); at_builtin; refine Kd.R_append (Kd.int .u8) (w0 := w) w.heap.size rfl (.tmp 21) (.tmp 26) 25 5 (.int .u8 0) 1 rfl Tryz.underlying25 info5 rfl (by decide) (by omega) u5 x5_2 (rd l0 x4_2) [.int .u8 (rd l0 x4_2)] (fun _ => True) (fun _ => False) rfl rfl ?aP (fun _ hk => hk.elim) ?aF ?aO ?aB ?aS ?aL ?_; (case aP => exact rfl); (case aB => exact (by repeat (first | (with_reducible first | exact HB.out | apply below_alloc | apply pw_below_drewN | apply below_drew1) | exact HB.out))); (case aF => exact (fun _ _ => trivial)); (case aO => exact (by (with_reducible repeat (first | apply Kd.R_alloc | apply Kd.R_drewN | apply Kd.R_drew)); exact HO_5.out)); (case aS => exact (below_size (by repeat (first | (with_reducible first | exact HB.out | apply below_alloc | apply pw_below_drewN | apply below_drew1) | exact HB.out)))); (case aL => have := LMc9.out; omega); intro v385 w10 ho hb hg hat; rw [← Ny384.out] at ho; have n0_ := Aside0.mk (Kd.S_after (ok := (fun _ => True)) (by (with_reducible repeat (first | apply Kd.S_alloc | apply Kd.S_drewN | apply Kd.S_drew)); exact Kd.S_mono HO_3.out (fun _ hk => ⟨trivial, hk⟩)) hg hat); have n1_ := Aside0.mk (hb); have n2_ := Aside0.mk (ho); clear HO_3; clear HB; clear HO_5; have HO_3 := n0_; have HB := n1_; have HO386 := n2_; clear n0_ n1_ n2_; clear ho hb hg hat))
                    go_roundg k2
                    case measure => have := HK1.out; have := HK2.out; omega
                    case rel => exact ⟨(wrap64 (x4_2 + 1)), (y384), (by first | rfl | (simp; done) | (simp [*]; done)), H', ⟨by have := HK1.out; have := HK2.out; omega⟩, ⟨by (with_reducible repeat (first | apply Kd.S_alloc | apply Kd.S_drewN | apply Kd.S_drew)); exact Kd.S_mono HO_3.out (fun _ hk => hk.2)⟩, ⟨by (with_reducible repeat (first | apply Kd.R_alloc | apply Kd.R_drewN | apply Kd.R_drew)); exact HO386.out⟩, ⟨by repeat (first | (with_reducible first | exact HB.out | apply below_alloc | apply pw_below_drewN | apply below_drew1) | exact HB.out)⟩⟩
                  · rw [if_neg c9] at H
                    exact absurd H (by simp)
              · rw [if_neg c4] at H
                exact absurd H (by simp)
            · rw [if_neg c3] at H
              have c3b0 : decide (x4_2 < (l0.length : Int)) = false := decide_eq_false c3
              clear c3
              by_cases c11 : x3_1.length < 5864062014805
              · rw [if_pos c11] at H
                have LMc11 := Aside0.mk c11
                clear c11
                obtain ⟨y387, hy387⟩ : ∃ y_ : List (List Int), y_ = (x3_1 ++ [x5_2]) := ⟨_, rfl⟩
                replace H : (spec_SplitLines.l0 k2 l0 y387 (wrap64 (x4_2 + 1))) = some r := by first | (rw [hy387]; with_reducible exact H) | (have H2_ := (Option.bind_some _ _).symm.trans H; rw [hy387]; with_reducible exact H2_) | (have H2_ := (Option.bind_some _ _).symm.trans H; with_reducible exact H2_) | with_reducible exact H | (rw [hy387]; exact H) | exact H
                have Ny387 := Aside0.mk hy387
                clear hy387
                have H' := Aside0.mk H
                clear H
                obtain ⟨Ao13, co13, eo13⟩ := Kd.R_slice HO_5.out
                subst eo13
                go_wp2_with (first | ((with_reducible refine gate_builtin (b := .append) (xs := #[.tmp 30, .tmp 32]) rfl ?_); at_builtin; refine Kd.S_append (Kd.slice 5 (Kd.int .u8)) (w0 := w) w.heap.size rfl (.tmp 30) (.tmp 32) 22 25 (.slice none 0 0) 24 rfl Tryz.underlying22 info25 rfl (by decide) (by omega) u3 x3_1 x5_2 [.slice Ao13 x5_2.length co13] (fun _ => True) (fun k_ => some k_ = (.slice Ao13 x5_2.length co13 : Value).ownBlock) rfl rfl ?aP (fun k_ hk_ => ((Kd.R_mono (ok' := fun k_ => ((fun _ => True)) k_ ∧ some k_ ≠ (u3 : Value).ownBlock) (Kd.R_apart' (HO_5.out) (Kd.S_typed HO_3.out) (by decide)) (fun k_ hk => ⟨trivial, hk.2⟩))).1 k_ hk_.symm) ?aF ?aO ?aB ?aS ?aL ?_; (case aP => exact Kd.M_row (Kd.R_mono (Kd.R_tight rfl (Kd.R_mono (ok' := fun k_ => ((fun _ => True)) k_ ∧ some k_ ≠ (u3 : Value).ownBlock) (Kd.R_apart' (HO_5.out) (Kd.S_typed HO_3.out) (by decide)) (fun k_ hk => ⟨trivial, hk.2⟩))) (fun _ h_ => h_))); (case aB => exact (by repeat (first | (with_reducible first | exact HB.out | apply below_alloc | apply pw_below_drewN | apply below_drew1) | exact HB.out))); (case aF => exact (fun _ _ => trivial)); (case aO => exact (by (with_reducible repeat (first | apply Kd.S_alloc | apply Kd.S_drewN | apply Kd.S_drew)); exact Kd.S_mono HO_3.out (fun k_ hk => ⟨trivial, fun e_ => hk e_⟩))); (case aS => exact (below_size (by repeat (first | (with_reducible first | exact HB.out | apply below_alloc | apply pw_below_drewN | apply below_drew1) | exact HB.out)))); (case aL => have := LMc11.out; omega); intro v388 w12 ho hb hg hat; rw [← Ny387.out] at ho; have n0_ := Aside0.mk (hb); have n1_ := Aside0.mk (ho); clear HB; clear HO_3; clear HO_5; have HB := n0_; have HO389 := n1_; clear n0_ n1_; clear ho hb hg hat))
                go_roundg k2
                case measure => have := HK1.out; have := HK2.out; omega
                case rel => exact ⟨(y387), (wrap64 (x4_2 + 1)), (by first | rfl | (simp; done) | (simp [*]; done)), H', ⟨by have := HK1.out; have := HK2.out; omega⟩, ⟨by (with_reducible repeat (first | apply Kd.S_alloc | apply Kd.S_drewN | apply Kd.S_drew)); exact HO389.out⟩, ⟨by repeat (first | (with_reducible first | exact HB.out | apply below_alloc | apply pw_below_drewN | apply below_drew1) | exact HB.out)⟩⟩
              · rw [if_neg c11] at H
                exact absurd H (by simp)
      · rw [if_neg c2] at H
        have c2b0 : decide (x4_1 < (l0.length : Int)) = false := decide_eq_false c2
        clear c2
        obtain rfl := Option.some.inj H
        go_wp2
        go_ret
        exact ⟨_, by first | rfl | (simp [errW_none, errW_some] <;> rfl) | (simp [*, errW_none, errW_some] <;> rfl), by (with_reducible repeat (first | apply Kd.S_alloc | apply Kd.S_drewN | apply Kd.S_drew)); exact HO_3.out, by repeat (first | (with_reducible first | exact HB.out | apply below_alloc | apply pw_below_drewN | apply below_drew1) | exact HB.out)⟩
end Go.Proofs.YtmgmdnmfalepkaaGreat.L

namespace Go.Proofs.YtmgmdnmfalepkaaGreat.PLines
open Go.RowKit Go.Proofs.YtmgmdnmfalepkaaGreatW.PrintWords Go.Proofs.YtmgmdnmfalepkaaGreat.PKit Go.Proofs.YtmgmdnmfalepkaaGreat.L
set_option linter.unusedVariables false
def cutAt : List Int → Nat
  | [] => 0
  | x :: r => if x = 10 then 0 else cutAt r + 1
theorem cutAt_le (t : List Int) : cutAt t ≤ t.length := by
  induction t with
  | nil => exact Nat.le_refl _
  | cons x r ih =>
    unfold cutAt
    split
    · exact Nat.zero_le _
    · simp only [List.length_cons]; omega
def linesN : Nat → List Int → List (List Int)
  | 0, _ => []
  | n + 1, t => if t = [] then [] else t.take (cutAt t) :: linesN n (t.drop (cutAt t + 1))
def lines (t : List Int) : List (List Int) := linesN t.length t
theorem linesN_fuel : ∀ (n m : Nat) (t : List Int), t.length ≤ n → t.length ≤ m → linesN n t = linesN m t
  | 0, m, t, h, _ => by
    obtain rfl := List.length_eq_zero_iff.1 (Nat.le_zero.1 h)
    cases m with
    | zero => rfl
    | succ m => simp [linesN]
  | n + 1, 0, t, _, h => by
    obtain rfl := List.length_eq_zero_iff.1 (Nat.le_zero.1 h)
    simp [linesN]
  | n + 1, m + 1, t, h1, h2 => by
    unfold linesN
    by_cases ht : t = []
    · rw [if_pos ht, if_pos ht]
    · have : 0 < t.length := List.length_pos_iff.2 ht
      rw [if_neg ht, if_neg ht, linesN_fuel n m _ (by rw [List.length_drop]; omega) (by rw [List.length_drop]; omega)]
theorem lines_nil : lines [] = [] := rfl
theorem lines_step (t : List Int) (ht : t ≠ []) : lines t = t.take (cutAt t) :: lines (t.drop (cutAt t + 1)) := by
  have : 0 < t.length := List.length_pos_iff.2 ht
  unfold lines
  rw [linesN_fuel t.length (t.length - 1 + 1) t (by omega) (by omega)]
  conv => lhs; unfold linesN
  rw [if_neg ht, linesN_fuel (t.length - 1) (t.drop (cutAt t + 1)).length _ (by rw [List.length_drop]; omega) (Nat.le_refl _)]
theorem lines_len : ∀ (n : Nat) (t : List Int), t.length ≤ n → (lines t).length ≤ t.length
  | 0, t, h => by
    obtain rfl := List.length_eq_zero_iff.1 (Nat.le_zero.1 h)
    rw [lines_nil]
    exact Nat.le_refl _
  | n + 1, t, h => by
    by_cases ht : t = []
    · subst ht; rw [lines_nil]; exact Nat.le_refl _
    · have : 0 < t.length := List.length_pos_iff.2 ht
      rw [lines_step t ht, List.length_cons]
      have := lines_len n (t.drop (cutAt t + 1)) (by rw [List.length_drop]; omega)
      rw [List.length_drop] at this
      omega
section
variable (x0 : List Int) (hl : x0.length ≤ 1048576)
theorem l1_ev (hl : x0.length ≤ 1048576) (r : List (List Int)) (acc : List (List Int)) (ha : acc.length ≤ 1048577) : ∀ (d i : Nat) (p : List Int), i + d = x0.length → p.length ≤ i →
    Ev (fun k => spec_SplitLines.l0 k x0 (acc ++ [p ++ (x0.drop i).take (cutAt (x0.drop i))]) ((i + cutAt (x0.drop i) + 1 : Nat) : Int)) r → Ev (fun k => spec_SplitLines.l1 k x0 acc (i : Int) p) r := by
  intro d
  induction d with
  | zero =>
    intro i p hd hp h
    have e : x0.drop i = [] := List.drop_of_length_le (by omega)
    rw [e] at h
    simp only [cutAt, List.take_nil, List.append_nil, Nat.add_zero] at h
    refine Ev.step (fun k => ?_) h
    simp only [spec_SplitLines.l1]
    rw [if_neg (by omega), if_pos (by omega), wrap_succ i (by omega)]
  | succ d ih =>
    intro i p hd hp h
    have hi : i < x0.length := by omega
    have e : x0.drop i = rd x0 (i : Int) :: x0.drop (i + 1) := by rw [List.drop_eq_getElem_cons hi, rd_get x0 i hi]
    rw [e] at h
    by_cases h10 : rd x0 (i : Int) = 10
    · have ec : cutAt (rd x0 (i : Int) :: x0.drop (i + 1)) = 0 := by unfold cutAt; rw [if_pos h10]
      rw [ec, List.take_zero, List.append_nil] at h
      refine Ev.step (fun k => ?_) h
      simp only [spec_SplitLines.l1]
      rw [if_pos (by omega), if_pos (by omega), if_pos h10, if_pos (by omega), wrap_succ i (by omega)]
    · have ec : cutAt (rd x0 (i : Int) :: x0.drop (i + 1)) = cutAt (x0.drop (i + 1)) + 1 := by
        conv => lhs; unfold cutAt
        rw [if_neg h10]
      rw [ec, List.take_succ_cons] at h
      have h2 := ih (i + 1) (p ++ [rd x0 (i : Int)]) (by omega) (by simp; omega) (by
        have e1 : i + 1 + cutAt (x0.drop (i + 1)) + 1 = i + (cutAt (x0.drop (i + 1)) + 1) + 1 := by omega
        rw [e1, List.append_assoc]
        exact h)
      refine Ev.step (fun k => ?_) h2
      simp only [spec_SplitLines.l1]
      rw [if_pos (by omega), if_pos (by omega), if_neg h10, if_pos (by omega), wrap_succ i (by omega)]
theorem l0_ev (hl : x0.length ≤ 1048576) : ∀ (n i : Nat) (acc : List (List Int)), x0.length - i ≤ n → i ≤ x0.length + 1 → acc.length ≤ i → Ev (fun k => spec_SplitLines.l0 k x0 acc (i : Int)) (acc ++ lines (x0.drop i)) := by
  intro n
  induction n with
  | zero =>
    intro i acc hn hi ha
    rw [List.drop_of_length_le (by omega), lines_nil, List.append_nil]
    refine Ev.step (f := fun _ => some acc) (fun k => ?_) (Ev.now _)
    simp only [spec_SplitLines.l0]
    rw [if_neg (by omega)]
  | succ n ih =>
    intro i acc hn hi ha
    by_cases hlt : i < x0.length
    · have hne : x0.drop i ≠ [] := by
        intro e
        have := congrArg List.length e
        rw [List.length_drop] at this
        simp at this
        omega
      have hc := cutAt_le (x0.drop i)
      rw [List.length_drop] at hc
      refine Ev.step (f := fun k => spec_SplitLines.l1 k x0 acc (i : Int) []) (fun k => ?_) ?_
      · simp only [spec_SplitLines.l0]
        rw [if_pos (by omega)]
      · refine l1_ev x0 hl _ acc (by omega) (x0.length - i) i [] (by omega) (by simp) ?_
        have h := ih (i + cutAt (x0.drop i) + 1) (acc ++ [[] ++ (x0.drop i).take (cutAt (x0.drop i))]) (by omega) (by omega) (by simp; omega)
        rw [lines_step _ hne]
        rw [List.append_assoc] at h
        rw [List.drop_drop]
        have e1 : i + (cutAt (x0.drop i) + 1) = i + cutAt (x0.drop i) + 1 := by omega
        rw [e1]
        exact h
    · rw [List.drop_of_length_le (by omega), lines_nil, List.append_nil]
      refine Ev.step (f := fun _ => some acc) (fun k => ?_) (Ev.now _)
      simp only [spec_SplitLines.l0]
      rw [if_neg (by omega)]
theorem spec_ev (hl : x0.length ≤ 1048576) : Ev (fun k => spec_SplitLines.f k x0) (lines x0) := by
  have := l0_ev x0 hl x0.length 0 [] (by omega) (by omega) (by simp)
  exact Ev.congr (fun k => by simp only [spec_SplitLines.f]; rfl) this
end
theorem index_cut (t : List Int) (hb : ∀ x ∈ t, 0 ≤ x ∧ x ≤ 255) : Go.Lib.indexByte (Go.Lib.bytesOf t) ((10 : Int).toNat.toUInt8) = if cutAt t < t.length then (cutAt t : Int) else -1 := by
  induction t with
  | nil => rfl
  | cons x r ih =>
    have ih := ih (fun y hy => hb y (List.mem_cons_of_mem _ hy))
    obtain ⟨b0, b1⟩ := hb x (List.mem_cons_self ..)
    have e : Go.Lib.bytesOf (x :: r) = UInt8.ofNat x.toNat :: Go.Lib.bytesOf r := rfl
    rw [e]
    unfold Go.Lib.indexByte
    by_cases h10 : x = 10
    · subst h10
      have ec : cutAt (10 :: r) = 0 := by unfold cutAt; rw [if_pos rfl]
      rw [ec, if_pos (by rfl), if_pos (by simp)]
      rfl
    · have hne : (UInt8.ofNat x.toNat == (10 : Int).toNat.toUInt8) = false := by
        rw [beq_eq_false_iff_ne]
        intro h
        have h2 := congrArg UInt8.toNat h
        rw [UInt8.toNat_ofNat'] at h2
        have h3 : ((10 : Int).toNat.toUInt8).toNat = 10 := rfl
        rw [h3] at h2
        omega
      have ec : cutAt (x :: r) = cutAt r + 1 := by
        conv => lhs; unfold cutAt
        rw [if_neg h10]
      rw [hne, if_neg (by simp), ih, ec]
      simp only [List.length_cons]
      by_cases hc : cutAt r < r.length
      · have : ((cutAt r : Int) == -1) = false := by rw [beq_eq_false_iff_ne]; omega
        rw [if_pos hc, this, if_neg (by simp), if_pos (by omega)]
        omega
      · rw [if_neg hc, if_pos (by rfl), if_neg (by omega)]
end Go.Proofs.YtmgmdnmfalepkaaGreat.PLines
