/- Parts of the proof (see the row's own text): IngS, LawIng. -/
import Derived.Test.YtmgmdnmfalepkaaGreatG16
import Derived.Test.YtmgmdnmfalepkaaGreatG17
import Derived.Test.YtmgmdnmfalepkaaGreatG7
import Derived.Test.YtmgmdnmfalepkaaGreatG15
import Derived.Test.YtmgmdnmfalepkaaGreatG5
import Derived.Deep.RegionHeld3
import Derived.Deep.DeepCutAuto
namespace Go.Proofs.YtmgmdnmfalepkaaGreat.Ing
open Go.RowKit Go.Proofs.YtmgmdnmfalepkaaGreatW.PrintWords Go.Proofs.YtmgmdnmfalepkaaGreatW.PrintMore Go.Proofs.YtmgmdnmfalepkaaGreat.Kit Go.Proofs.YtmgmdnmfalepkaaGreat.PKit Go.Proofs.YtmgmdnmfalepkaaGreat.Ty Go.Proofs.YtmgmdnmfalepkaaGreat.PSeg Go.Proofs.YtmgmdnmfalepkaaGreat.PEnc Go.Proofs.YtmgmdnmfalepkaaGreat.PDec Go.Proofs.YtmgmdnmfalepkaaGreat.PSta Go.Proofs.YtmgmdnmfalepkaaGreat.HelpBB Go.Proofs.YtmgmdnmfalepkaaGreat.HelpSeg
open Go.Proofs.YtmgmdnmfalepkaaGreat.Build hiding code ans
open Go.Proofs.YtmgmdnmfalepkaaGreat.Sto Go.Proofs.YtmgmdnmfalepkaaGreat.PLines Go.Proofs.YtmgmdnmfalepkaaGreat.Far Go.Proofs.YtmgmdnmfalepkaaGreat.SegS Go.Proofs.YtmgmdnmfalepkaaGreat.L
set_option linter.unusedVariables false
set_option linter.unusedSimpArgs false
theorem bytes_big (ls : List (List Int)) (hs : ls.length + totalB ls ≤ 4194304) : Ev (fun k => spec_l4bytes.f k ls) (totalB ls : Int) := by
  have hs' : ls.length + totalB ls ≤ 4194304 := hs
  have key : ∀ (d i : Nat), i + d = ls.length → Ev (fun k => spec_l4bytes.l0 k ls (totalB (ls.take i) : Int) (i : Int)) (totalB ls : Int) := by
    intro d
    induction d with
    | zero =>
      intro i hd
      have e : ls.take i = ls := List.take_of_length_le (by omega)
      refine Ev.step (f := fun _ => some (totalB ls : Int)) (fun k => ?_) (Ev.now _)
      simp only [spec_l4bytes.l0]
      rw [if_neg (by omega), e]
    | succ d ih =>
      intro i hd
      have ht := total_take ls (i + 1)
      rw [total_drop ls i (by omega)] at ht
      refine Ev.step (fun k => ?_) (ih (i + 1) (by omega))
      simp only [spec_l4bytes.l0]
      rw [if_pos (by omega), if_pos (by omega), rdB, wrap_in (x := (totalB (ls.take i) : Int) + ((ls.getD i []).length : Int)) (by omega), wrap_succ i (by omega), total_drop ls i (by omega)]
      congr 1
  have h := key ls.length 0 (by omega)
  exact Ev.congr (fun k => by simp only [spec_l4bytes.f]; rfl) h
theorem bytes_all (A : Option Addr) (n c : Nat) (ls : List (List Int)) (hn : n = ls.length) (w : World) (hr : Kd.C kB w A ls.length ls) (hc : ls.length ≤ c) (hs : ls.length + totalB ls ≤ 4194304) :
    Calls Tryz.prog 24 #[.slice A n c] w fun e w' => e = .returned (.int .i64 (totalB ls : Int)) ∧ Below w.heap.size w w' := by
  subst hn
  obtain ⟨k, hk⟩ := (bytes_big ls hs).rounds
  refine (L.spec_l4bytes.calls k A c ls _ w hr hc hk).mono ?_
  rintro e w' ⟨rfl, hd⟩
  exact ⟨rfl, below_of_drawn hd⟩
theorem split_spec (A : Option Addr) (c : Nat) (t : List Int) (w : World) (hr : Kd.C (Kd.int .u8) w A t.length t) (hc : t.length ≤ c) (hl : t.length ≤ 1048576) :
    Calls Tryz.prog 20 #[.slice A t.length c] w fun e w' => ∃ (E : Option Addr) (f : Nat), e = .returned (.slice E (lines t).length f) ∧ Kd.S kB 25 w' w.heap.size (fun _ => True) (.slice E (lines t).length f) (lines t) ∧ Below w.heap.size w w' := by
  obtain ⟨k, hk⟩ := (PLines.spec_ev t hl).rounds
  refine (L.spec_SplitLines.calls k A c t _ w hr hc hk).mono ?_
  rintro e w' ⟨v, rfl, hS, hb⟩
  obtain ⟨E, f, rfl⟩ := Kd.S_slice hS
  exact ⟨E, f, rfl, hS, hb⟩
set_option maxRecDepth 100000 in
set_option maxHeartbeats 16000000 in
theorem specC (x0 : StaT) (x1 : List Int) (v0 v1 : Value) (w : World) (h0 : HelpSta.tSta.K w x0 v0) (h1 : HelpB.tB.K w x1 v1) (s0 : HelpSta.smallSta x0) (s1 : HelpB.smallB x1) (y0 : Bytes x0.1) (y1 : Bytes x0.2) (y2 : ∀ x ∈ x1, 0 ≤ x ∧ x ≤ 255) :
    Calls Tryz.prog 7 #[v0, v1] w fun e w' => ∃ v', e = .returned (.tuple #[v', .int .i64 (ing_ x0 x1).2]) ∧ HelpSta.tSta.K w' (ing_ x0 x1).1 v' ∧ Grew w w' := by
  have huT := Tryz.underlying27
  obtain ⟨q0, q1⟩ := HelpSta.small_parts s0
  obtain ⟨l, rfl, u0, r0, rfl, ⟨A0, c0, rfl, l0, k0⟩, u1, rfl, ⟨A1, c1, rfl, l1, k1⟩⟩ := h0
  obtain ⟨At, ct, rfl, lt, kt⟩ := h1
  have t1 : x1.length ≤ 1048576 := s1
  have HSG := Aside0.mk (fun (W : World) (hW : Below w.heap.size w W) => segs_calls x0 A0 A1 c0 c1 W (Kd.C_below k0 hW) l0 (Kd.C_below k1 hW) l1 y0 q0 q1)
  have HCP := Aside0.mk (fun (W : World) (hW : Below w.heap.size w W) => copy2_calls x0 A0 A1 c0 c1 W (Kd.C_below k0 hW) l0 (Kd.C_below k1 hW) l1 q0 q1)
  have HSP := Aside0.mk (fun (W : World) (hW : Below w.heap.size w W) => split_spec At ct x1 W (Kd.C_below kt hW) lt t1)
  have m1 := k0.2.1
  have m2 := k1.2.1
  have qb : x0.1.length + totalB x0.1 ≤ 1048576 := q0
  have qc : x0.2.length + totalB x0.2 ≤ 1048576 := q1
  have L1 := lines_len x1.length x1 (Nat.le_refl _)
  have L2 := total_lines x1.length x1 (Nat.le_refl _)
  have K1 := Aside0.mk k1
  clear k0 k1 kt y0 y1 y2 s0 s1 q0 q1
  show Calls Tryz.prog 7 #[.agg #[.slice A0 x0.1.length c0, .slice A1 x0.2.length c1], .slice At x1.length ct] w _
  generalize hls : lines x1 = ls at HSP L1 L2
  have HLS := Aside0.mk hls
  clear hls
  go_enter Tryz.func7, Tryz.ntmps7
  go_wp2_with (first | ((with_reducible refine gate_dst (N := 2) rfl ?_); refine box_event ?hg (N := 2) ?hd (cs := #[.slice A0 x0.1.length c0, .slice A1 x0.2.length c1]) (t := 27) ?hr ?_; (case hd => rfl); (case hg => rfl); (case hr => first | (go_simp; done) | (go_simp; rfl)); intro gx hg_ w1 hbx hbb; have BKgx := Aside0.mk hbx; have GEgx := Aside0.mk (show w.heap.size ≤ gx from Nat.le_of_eq hg_.symm); have GLgx := Aside0.mk (blk_lt hbx); have HBw1 := Aside0.mk hbb; clear hg_ hbb; obtain ⟨⟨hgxc0, hgxf0⟩, ⟨hgxc1, hgxf1⟩⟩ := cells2 hbx; clear hbx) | ((with_reducible refine gate_dst (N := 4) rfl ?_); refine box_event ?hg (N := 4) ?hd (cs := #[.slice none 0 0, .slice none 0 0]) (t := 27) ?hr ?_; (case hd => rfl); (case hg => rfl); (case hr => first | (go_simp; done) | (go_simp; rfl)); intro gr hg_ w2 hbx hbb; have BKgr := Aside0.mk hbx; have GEgr := Aside0.mk (show w1.heap.size ≤ gr from Nat.le_of_eq hg_.symm); have GLgr := Aside0.mk (blk_lt hbx); have HBw2 := Aside0.mk hbb; clear hg_ hbb; obtain ⟨⟨hgrc0, hgrf0⟩, ⟨hgrc1, hgrf1⟩⟩ := cells2 hbx; clear hbx; have n_ := Aside0.mk (blk_below BKgx.out HBw2.out); clear BKgx; have BKgx := n_; clear n_; clear hgxc0 hgxf0 hgxc1 hgxf1; obtain ⟨⟨pc0, pf0⟩, ⟨pc1, pf1⟩⟩ := cells2 BKgx.out))
  have HB2 := Aside0.mk (show Below w.heap.size w w2 from grew_trans HBw1.out HBw2.out)
  have GER := Aside0.mk (show w.heap.size ≤ gr from Nat.le_trans HBw1.out.size GEgr.out)
  have GLR := Aside0.mk (blk_lt BKgr.out)
  clear hgrc0 hgrf0 hgrc1 hgrf1 pc0 pf0 pc1 pf1
  go_at_call 22
  refine (HSG.out _ HB2.out).mono ?_
  rintro e w3 ⟨hG3, hb3⟩
  have BK3 := Aside0.mk (blk_below BKgx.out hb3)
  have BR3 := Aside0.mk (blk_below BKgr.out hb3)
  have HB3 := Aside0.mk (show Below w.heap.size w w3 from grew_trans HB2.out hb3)
  have HB23 := Aside0.mk hb3
  clear hb3
  unfold GotS at hG3
  cases hs : segsOf x0 with
  | none =>
    rw [hs] at hG3
    obtain rfl := hG3
    have HS := Aside0.mk hs
    clear hs
    obtain ⟨⟨r0, rf0⟩, ⟨r1, rf1⟩⟩ := cells2 BR3.out
    go_wp2
    refine bodyPost_ret (results_ct rfl _ _ gr 27 #[.slice none 0 0, .slice none 0 0] (0, 0) _ rfl (by (with_reducible repeat (first | refine blk_drewN ?_ _ | refine blk_drew ?_ | refine blk_alloc ?_ _)); refine blk_put (cs := #[.slice none 0 0, .slice none 0 0]) ?_ 1 _ rfl; (with_reducible repeat (first | refine blk_drewN ?_ _ | refine blk_drew ?_ | refine blk_alloc ?_ _)); refine blk_put (cs := #[.slice none 0 0, .slice none 0 0]) ?_ 0 _ rfl; (with_reducible repeat (first | refine blk_drewN ?_ _ | refine blk_drew ?_ | refine blk_alloc ?_ _)); exact BR3.out) Tryz.underlying27 rfl (by kernel_rfl)) rfl ?_
    rw [show ing_ x0 x1 = (([], []), 4) from by unfold ing_; rw [HS.out]]
    exact ⟨_, rfl, HelpSta.tSta.K_of_M (two_M _ 0), below_set (below_set (HB3.out) GER.out) GER.out⟩
  | some ss =>
    rw [hs] at hG3
    obtain ⟨Av, cv, rfl, hC⟩ := hG3
    have HC := Aside0.mk hC
    obtain ⟨ch, _, hn1, hn2⟩ := segsOf_some hs
    have HS := Aside0.mk hs
    clear hs hC ch
    go_wp2_with fail
    go_at_call 20
    refine (HSP.out _ HB3.out).mono ?_
    rintro e w4 ⟨A5, c5, rfl, hS5, hb4⟩
    have HS5 := Aside0.mk hS5
    have HB34 := Aside0.mk hb4
    have HB4 := Aside0.mk (show Below w.heap.size w w4 from grew_trans HB3.out hb4)
    have HC4 := Aside0.mk (Kd.C_below HC.out hb4)
    have HC5 := Aside0.mk (Kd.S_reads' hS5).2.2
    have HCX := Aside0.mk (Kd.C_below K1.out HB4.out)
    have BK4 := Aside0.mk (blk_below BK3.out hb4)
    have BR4 := Aside0.mk (blk_below BR3.out hb4)
    clear hS5 hb4
    go_wp2_with fail
    go_at_call 23
    refine (flat_calls Av cv ss.length ss rfl w4 HC4.out (by omega)).mono ?_
    rintro e w5 ⟨A9, c9, rfl, hR5, hb5⟩
    have HR5 := Aside0.mk hR5
    have HQ5 := Aside0.mk hb5
    have BK5 := Aside0.mk (blk_below BK4.out hb5)
    have hfl := flat_len ss
    have hft := flat_tot ss
    have HFL := Aside0.mk hfl
    have HFT := Aside0.mk hft
    clear hR5 hb5 hfl hft
    obtain ⟨⟨p0, pf0⟩, ⟨p1, pf1⟩⟩ := cells2 BK5.out
    generalize flatS ss = fl at HR5 HFL HFT
    have HSD := Aside0.mk hn1
    by_cases hlen : nlin ss + x0.2.length + ls.length ≤ 1000
    case neg =>
      have hlz : (1000 : Int) < ((nlin ss : Nat) : Int) + (x0.2.length : Int) + (ls.length : Int) := by omega
      have HRM := Aside0.mk (show room ss x0.2 ls = false from by unfold room; rw [decide_eq_false hlen]; rfl)
      clear hlen
      go_wp2_with (first | (at_builtin; refine Kd.R_append_rows (far kB w4) (Rr := kB.K w4) (w0 := w4) w4.heap.size rfl (.tmp 23) (.tmp 25) 22 25 (.slice none 0 0) 24 rfl Tryz.underlying22 infoBB rfl Nat.zero_lt_one (by omega) (.slice A9 (nlin ss) c9) (fl) (x0.2) A1 x0.2.length c1 (fun _ => True) (fun _ => False) rfl rfl HR5.out (far_reads HCX.out HQ5.out) (fun _ _ h => h) (fun _ h => h.elim) (fun _ _ => trivial) HQ5.out HQ5.out.size (by rw [HFL.out]; omega) ?_; intro v6 w6 hR6 hB6 hg6 hat6; obtain ⟨A6, c6, e6⟩ := Kd.R_slice hR6; rw [List.length_append, HFL.out] at e6; subst e6; have HR6 := Aside0.mk hR6; have HQ6 := Aside0.mk hB6; clear hR6 hB6 hg6 hat6) | (at_builtin; refine Kd.R_append_rows (far kB w4) (Rr := kB.K w4) (w0 := w4) w4.heap.size rfl (.tmp 27) (.tmp 28) 22 25 (.slice none 0 0) 24 rfl Tryz.underlying22 infoBB rfl Nat.zero_lt_one (by omega) (.slice A6 (nlin ss + x0.2.length) c6) (fl ++ x0.2) (ls) A5 ls.length c5 (fun _ => True) (fun _ => False) rfl rfl HR6.out (far_reads HC5.out HQ6.out) (fun _ _ h => h) (fun _ h => h.elim) (fun _ _ => trivial) HQ6.out HQ6.out.size (by rw [List.length_append, HFL.out]; omega) ?_; intro v7 w7 hR7 hB7 hg7 hat7; obtain ⟨A7, c7, e7⟩ := Kd.R_slice hR7; rw [List.length_append, List.length_append, HFL.out] at e7; subst e7; have HR7 := Aside0.mk hR7; have HQ7 := Aside0.mk hB7; clear hR7 hB7 hg7 hat7; have HCA := Aside0.mk (far_C (Kd.R_reads' HR7.out).2.2 HQ7.out); have hla : (fl ++ x0.2 ++ ls).length = nlin ss + x0.2.length + ls.length := by { rw [List.length_append, List.length_append, HFL.out] }; have hta : totalB (fl ++ x0.2 ++ ls) = tots ss + totalB x0.2 + totalB ls := by { rw [total_append, total_append, HFT.out] }; have hca := (Kd.R_reads' HR7.out).2.1; have hbz := bytes_all A7 (nlin ss + x0.2.length + ls.length) c7 (fl ++ x0.2 ++ ls) hla.symm w7 HCA.out (by { rw [hla]; exact hca }) (by { rw [hla, hta]; omega }); rw [hta] at hbz; have HBY := Aside0.mk hbz; have HB8 := Aside0.mk (show Below w.heap.size w w7 from grew_trans HB4.out HQ7.out); have BX8 := Aside0.mk (blk_below BK4.out HQ7.out); have BR8 := Aside0.mk (blk_below BR4.out HQ7.out); have HQ8 := Aside0.mk HQ7.out; obtain ⟨⟨n0, nf0⟩, ⟨n1, nf1⟩⟩ := cells2 BX8.out; clear hla hta hca hbz p0 pf0 p1 pf1) | (go_at_call 25; refine (HCP.out _ HB8.out).mono ?_; rintro e w9 ⟨E0, e0, E1, e1, N, rfl, hS0, hS1, hN1, hN2, hb9⟩; have HGZ := Aside0.mk (blk_lt BR8.out); have HZ48 := Aside0.mk HQ8.out.size; have HB89 := Aside0.mk hb9; have HB9 := Aside0.mk (show Below w.heap.size w w9 from grew_trans HB8.out hb9); have HN1 := Aside0.mk hN1; have HN2 := Aside0.mk hN2; have HS0 := Aside0.mk hS0; have HS1 := Aside0.mk hS1; have BR9 := Aside0.mk (blk_below BR8.out hb9); obtain ⟨⟨r0, rf0⟩, ⟨r1, rf1⟩⟩ := cells2 BR9.out; clear hS0 hS1 hN1 hN2 hb9))
      refine bodyPost_ret (results_ct rfl _ _ gr 27 #[.slice E0 x0.1.length e0, .slice E1 x0.2.length e1] (0, 0) _ rfl (by (with_reducible repeat (first | refine blk_drewN ?_ _ | refine blk_drew ?_ | refine blk_alloc ?_ _)); refine blk_put (cs := #[.slice E0 x0.1.length e0, .slice none 0 0]) ?_ 1 _ rfl; (with_reducible repeat (first | refine blk_drewN ?_ _ | refine blk_drew ?_ | refine blk_alloc ?_ _)); refine blk_put (cs := #[.slice none 0 0, .slice none 0 0]) ?_ 0 _ rfl; (with_reducible repeat (first | refine blk_drewN ?_ _ | refine blk_drew ?_ | refine blk_alloc ?_ _)); exact BR9.out) Tryz.underlying27 rfl (by kernel_rfl)) rfl ?_
      rw [show ing_ x0 x1 = (x0, 6) from by unfold ing_; rw [HS.out, HLS.out]; exact if_neg (by rw [HRM.out]; exact Bool.false_ne_true)]
      exact ⟨_, rfl, ⟨[_, _], rfl, _, _, rfl, HelpBB.tBB.K_of_M ((Ty.M_set (T := HelpBB.tBB) (Ty.M_set (T := HelpBB.tBB) (HelpBB.tBB.M_bound HS0.out) (fun k hk e => by have h1 := hk.2.1; have h2 := HGZ.out; omega) _) (fun k hk e => by have h1 := hk.2.1; have h2 := HGZ.out; omega) _)), _, rfl, HelpBB.tBB.K_of_M ((Ty.M_set (T := HelpBB.tBB) (Ty.M_set (T := HelpBB.tBB) (HelpBB.tBB.M_bound HS1.out) (fun k hk e => by have h1 := hk.2.1; have h2 := HGZ.out; omega) _) (fun k hk e => by have h1 := hk.2.1; have h2 := HGZ.out; omega) _))⟩, below_set (below_set (HB9.out) GER.out) GER.out⟩
    case pos =>
      have hlz : ¬ (1000 : Int) < ((nlin ss : Nat) : Int) + (x0.2.length : Int) + (ls.length : Int) := by omega
      by_cases htot : tots ss + totalB x0.2 + totalB ls ≤ 20000
      case neg =>
        have htz : (20000 : Int) < ((tots ss : Nat) : Int) + (totalB x0.2 : Int) + (totalB ls : Int) := by omega
        have HRM := Aside0.mk (show room ss x0.2 ls = false from by unfold room; rw [show totalB x0.2 + tots ss + totalB ls = tots ss + totalB x0.2 + totalB ls from by omega, decide_eq_false htot, Bool.and_false])
        clear htot
        go_wp2_with (first | (at_builtin; refine Kd.R_append_rows (far kB w4) (Rr := kB.K w4) (w0 := w4) w4.heap.size rfl (.tmp 23) (.tmp 25) 22 25 (.slice none 0 0) 24 rfl Tryz.underlying22 infoBB rfl Nat.zero_lt_one (by omega) (.slice A9 (nlin ss) c9) (fl) (x0.2) A1 x0.2.length c1 (fun _ => True) (fun _ => False) rfl rfl HR5.out (far_reads HCX.out HQ5.out) (fun _ _ h => h) (fun _ h => h.elim) (fun _ _ => trivial) HQ5.out HQ5.out.size (by rw [HFL.out]; omega) ?_; intro v6 w6 hR6 hB6 hg6 hat6; obtain ⟨A6, c6, e6⟩ := Kd.R_slice hR6; rw [List.length_append, HFL.out] at e6; subst e6; have HR6 := Aside0.mk hR6; have HQ6 := Aside0.mk hB6; clear hR6 hB6 hg6 hat6) | (at_builtin; refine Kd.R_append_rows (far kB w4) (Rr := kB.K w4) (w0 := w4) w4.heap.size rfl (.tmp 27) (.tmp 28) 22 25 (.slice none 0 0) 24 rfl Tryz.underlying22 infoBB rfl Nat.zero_lt_one (by omega) (.slice A6 (nlin ss + x0.2.length) c6) (fl ++ x0.2) (ls) A5 ls.length c5 (fun _ => True) (fun _ => False) rfl rfl HR6.out (far_reads HC5.out HQ6.out) (fun _ _ h => h) (fun _ h => h.elim) (fun _ _ => trivial) HQ6.out HQ6.out.size (by rw [List.length_append, HFL.out]; omega) ?_; intro v7 w7 hR7 hB7 hg7 hat7; obtain ⟨A7, c7, e7⟩ := Kd.R_slice hR7; rw [List.length_append, List.length_append, HFL.out] at e7; subst e7; have HR7 := Aside0.mk hR7; have HQ7 := Aside0.mk hB7; clear hR7 hB7 hg7 hat7; have HCA := Aside0.mk (far_C (Kd.R_reads' HR7.out).2.2 HQ7.out); have hla : (fl ++ x0.2 ++ ls).length = nlin ss + x0.2.length + ls.length := by { rw [List.length_append, List.length_append, HFL.out] }; have hta : totalB (fl ++ x0.2 ++ ls) = tots ss + totalB x0.2 + totalB ls := by { rw [total_append, total_append, HFT.out] }; have hca := (Kd.R_reads' HR7.out).2.1; have hbz := bytes_all A7 (nlin ss + x0.2.length + ls.length) c7 (fl ++ x0.2 ++ ls) hla.symm w7 HCA.out (by { rw [hla]; exact hca }) (by { rw [hla, hta]; omega }); rw [hta] at hbz; have HBY := Aside0.mk hbz; have HB8 := Aside0.mk (show Below w.heap.size w w7 from grew_trans HB4.out HQ7.out); have BX8 := Aside0.mk (blk_below BK4.out HQ7.out); have BR8 := Aside0.mk (blk_below BR4.out HQ7.out); have HQ8 := Aside0.mk HQ7.out; obtain ⟨⟨n0, nf0⟩, ⟨n1, nf1⟩⟩ := cells2 BX8.out; clear hla hta hca hbz p0 pf0 p1 pf1) | (go_at_call 24; refine HBY.out.mono ?_; rintro e w8 ⟨rfl, hb8⟩; have z1 := Aside0.mk (show Below w.heap.size w w8 from grew_trans HB8.out hb8); have z2 := Aside0.mk (blk_below BX8.out hb8); have z3 := Aside0.mk (blk_below BR8.out hb8); have z4 := Aside0.mk (show Below w4.heap.size w4 w8 from grew_trans HQ8.out hb8); clear HB8 BX8 BR8 HQ8 n0 nf0 n1 nf1 hb8; have HB8 := z1; have BX8 := z2; have BR8 := z3; have HQ8 := z4; obtain ⟨⟨n0, nf0⟩, ⟨n1, nf1⟩⟩ := cells2 BX8.out; clear z1 z2 z3 z4) | (go_at_call 25; refine (HCP.out _ HB8.out).mono ?_; rintro e w9 ⟨E0, e0, E1, e1, N, rfl, hS0, hS1, hN1, hN2, hb9⟩; have HGZ := Aside0.mk (blk_lt BR8.out); have HZ48 := Aside0.mk HQ8.out.size; have HB89 := Aside0.mk hb9; have HB9 := Aside0.mk (show Below w.heap.size w w9 from grew_trans HB8.out hb9); have HN1 := Aside0.mk hN1; have HN2 := Aside0.mk hN2; have HS0 := Aside0.mk hS0; have HS1 := Aside0.mk hS1; have BR9 := Aside0.mk (blk_below BR8.out hb9); obtain ⟨⟨r0, rf0⟩, ⟨r1, rf1⟩⟩ := cells2 BR9.out; clear hS0 hS1 hN1 hN2 hb9))
        refine bodyPost_ret (results_ct rfl _ _ gr 27 #[.slice E0 x0.1.length e0, .slice E1 x0.2.length e1] (0, 0) _ rfl (by (with_reducible repeat (first | refine blk_drewN ?_ _ | refine blk_drew ?_ | refine blk_alloc ?_ _)); refine blk_put (cs := #[.slice E0 x0.1.length e0, .slice none 0 0]) ?_ 1 _ rfl; (with_reducible repeat (first | refine blk_drewN ?_ _ | refine blk_drew ?_ | refine blk_alloc ?_ _)); refine blk_put (cs := #[.slice none 0 0, .slice none 0 0]) ?_ 0 _ rfl; (with_reducible repeat (first | refine blk_drewN ?_ _ | refine blk_drew ?_ | refine blk_alloc ?_ _)); exact BR9.out) Tryz.underlying27 rfl (by kernel_rfl)) rfl ?_
        rw [show ing_ x0 x1 = (x0, 6) from by unfold ing_; rw [HS.out, HLS.out]; exact if_neg (by rw [HRM.out]; exact Bool.false_ne_true)]
        exact ⟨_, rfl, ⟨[_, _], rfl, _, _, rfl, HelpBB.tBB.K_of_M ((Ty.M_set (T := HelpBB.tBB) (Ty.M_set (T := HelpBB.tBB) (HelpBB.tBB.M_bound HS0.out) (fun k hk e => by have h1 := hk.2.1; have h2 := HGZ.out; omega) _) (fun k hk e => by have h1 := hk.2.1; have h2 := HGZ.out; omega) _)), _, rfl, HelpBB.tBB.K_of_M ((Ty.M_set (T := HelpBB.tBB) (Ty.M_set (T := HelpBB.tBB) (HelpBB.tBB.M_bound HS1.out) (fun k hk e => by have h1 := hk.2.1; have h2 := HGZ.out; omega) _) (fun k hk e => by have h1 := hk.2.1; have h2 := HGZ.out; omega) _))⟩, below_set (below_set (HB9.out) GER.out) GER.out⟩
      case pos =>
        have htz : ¬ (20000 : Int) < ((tots ss : Nat) : Int) + (totalB x0.2 : Int) + (totalB ls : Int) := by omega
        have HRM := Aside0.mk (show room ss x0.2 ls = true from by unfold room; rw [show totalB x0.2 + tots ss + totalB ls = tots ss + totalB x0.2 + totalB ls from by omega, decide_eq_true htot, decide_eq_true hlen]; rfl)
        clear htot hlen
        go_wp2_with (first | (at_builtin; refine Kd.R_append_rows (far kB w4) (Rr := kB.K w4) (w0 := w4) w4.heap.size rfl (.tmp 23) (.tmp 25) 22 25 (.slice none 0 0) 24 rfl Tryz.underlying22 infoBB rfl Nat.zero_lt_one (by omega) (.slice A9 (nlin ss) c9) (fl) (x0.2) A1 x0.2.length c1 (fun _ => True) (fun _ => False) rfl rfl HR5.out (far_reads HCX.out HQ5.out) (fun _ _ h => h) (fun _ h => h.elim) (fun _ _ => trivial) HQ5.out HQ5.out.size (by rw [HFL.out]; omega) ?_; intro v6 w6 hR6 hB6 hg6 hat6; obtain ⟨A6, c6, e6⟩ := Kd.R_slice hR6; rw [List.length_append, HFL.out] at e6; subst e6; have HR6 := Aside0.mk hR6; have HQ6 := Aside0.mk hB6; clear hR6 hB6 hg6 hat6) | (at_builtin; refine Kd.R_append_rows (far kB w4) (Rr := kB.K w4) (w0 := w4) w4.heap.size rfl (.tmp 27) (.tmp 28) 22 25 (.slice none 0 0) 24 rfl Tryz.underlying22 infoBB rfl Nat.zero_lt_one (by omega) (.slice A6 (nlin ss + x0.2.length) c6) (fl ++ x0.2) (ls) A5 ls.length c5 (fun _ => True) (fun _ => False) rfl rfl HR6.out (far_reads HC5.out HQ6.out) (fun _ _ h => h) (fun _ h => h.elim) (fun _ _ => trivial) HQ6.out HQ6.out.size (by rw [List.length_append, HFL.out]; omega) ?_; intro v7 w7 hR7 hB7 hg7 hat7; obtain ⟨A7, c7, e7⟩ := Kd.R_slice hR7; rw [List.length_append, List.length_append, HFL.out] at e7; subst e7; have HR7 := Aside0.mk hR7; have HQ7 := Aside0.mk hB7; clear hR7 hB7 hg7 hat7; have HCA := Aside0.mk (far_C (Kd.R_reads' HR7.out).2.2 HQ7.out); have hla : (fl ++ x0.2 ++ ls).length = nlin ss + x0.2.length + ls.length := by { rw [List.length_append, List.length_append, HFL.out] }; have hta : totalB (fl ++ x0.2 ++ ls) = tots ss + totalB x0.2 + totalB ls := by { rw [total_append, total_append, HFT.out] }; have hca := (Kd.R_reads' HR7.out).2.1; have hbz := bytes_all A7 (nlin ss + x0.2.length + ls.length) c7 (fl ++ x0.2 ++ ls) hla.symm w7 HCA.out (by { rw [hla]; exact hca }) (by { rw [hla, hta]; omega }); rw [hta] at hbz; have HBY := Aside0.mk hbz; have HB8 := Aside0.mk (show Below w.heap.size w w7 from grew_trans HB4.out HQ7.out); have BX8 := Aside0.mk (blk_below BK4.out HQ7.out); have BR8 := Aside0.mk (blk_below BR4.out HQ7.out); have HQ8 := Aside0.mk HQ7.out; obtain ⟨⟨n0, nf0⟩, ⟨n1, nf1⟩⟩ := cells2 BX8.out; clear hla hta hca hbz p0 pf0 p1 pf1) | (go_at_call 24; refine HBY.out.mono ?_; rintro e w8 ⟨rfl, hb8⟩; have z1 := Aside0.mk (show Below w.heap.size w w8 from grew_trans HB8.out hb8); have z2 := Aside0.mk (blk_below BX8.out hb8); have z3 := Aside0.mk (blk_below BR8.out hb8); have z4 := Aside0.mk (show Below w4.heap.size w4 w8 from grew_trans HQ8.out hb8); clear HB8 BX8 BR8 HQ8 n0 nf0 n1 nf1 hb8; have HB8 := z1; have BX8 := z2; have BR8 := z3; have HQ8 := z4; obtain ⟨⟨n0, nf0⟩, ⟨n1, nf1⟩⟩ := cells2 BX8.out; clear z1 z2 z3 z4) | (go_at_call 25; refine (HCP.out _ HB8.out).mono ?_; rintro e w9 ⟨E0, e0, E1, e1, N, rfl, hS0, hS1, hN1, hN2, hb9⟩; have HGZ := Aside0.mk (blk_lt BR8.out); have HZ48 := Aside0.mk HQ8.out.size; have HB89 := Aside0.mk hb9; have HB9 := Aside0.mk (show Below w.heap.size w w9 from grew_trans HB8.out hb9); have HN1 := Aside0.mk hN1; have HN2 := Aside0.mk hN2; have HS0 := Aside0.mk hS0; have HS1 := Aside0.mk hS1; have BR9 := Aside0.mk (blk_below BR8.out hb9); obtain ⟨⟨r0, rf0⟩, ⟨r1, rf1⟩⟩ := cells2 BR9.out; clear hS0 hS1 hN1 hN2 hb9; obtain ⟨⟨m0, mf0⟩, ⟨m1_, mf1⟩⟩ := cells2 (blk_new w9 (.cells #[.slice E0 x0.1.length e0, .slice E1 x0.2.length e1] 27 (0, 0))); have HW9 := Aside0.mk (show w9.heap.size < (w9.alloc (.cells #[.slice E0 x0.1.length e0, .slice E1 x0.2.length e1] 27 (0, 0))).heap.size from blk_lt (blk_new w9 _)); clear r0 rf0 r1 rf1) | (at_builtin; have HAL := Aside0.mk (show Below w9.heap.size w9 (w9.alloc (.cells #[.slice E0 x0.1.length e0, .slice E1 x0.2.length e1] 27 (0, 0))) from below_alloc (Below.refl _ _) _); have HZ := Aside0.mk (show w4.heap.size ≤ w9.heap.size from Nat.le_trans HZ48.out HB89.out.size); have HD9 := Aside0.mk (show Kd.R kB 25 (w9.alloc (.cells #[.slice E0 x0.1.length e0, .slice E1 x0.2.length e1] 27 (0, 0))) w3.heap.size (fun k => w3.heap.size ≤ k ∧ k ≠ w9.heap.size) (.slice E1 x0.2.length e1) x0.2 from Kd.R_mono (Kd.R_below (Kd.R_lower (Kd.R_bound (Kd.S_R HS1.out)) (Nat.le_trans HB34.out.size HZ48.out)) HAL.out) (fun k hk => by have h1 := hk.2.1; have h2 := hk.2.2.1; have h3 := HB34.out.size; have h4 := HZ48.out; exact ⟨by omega, by omega⟩)); have HOL := Aside0.mk (fun k (h : (Value.slice E1 x0.2.length e1).ownBlock = some k) => (show N ≤ k ∧ k < w9.heap.size from ⟨(Kd.S_R HS1.out).1 k h, Kd.S_lt HS1.out k h⟩)); have HL9 := Aside0.mk (show ReadsRow (fun y cs => kB.M (w9.alloc (.cells #[.slice E0 x0.1.length e0, .slice E1 x0.2.length e1] 27 (0, 0))) w3.heap.size (fun k => w3.heap.size ≤ k ∧ k < w4.heap.size) y cs) 1 (w9.alloc (.cells #[.slice E0 x0.1.length e0, .slice E1 x0.2.length e1] 27 (0, 0))) A5 ls.length ls from by { have h : Kd.S kB 25 w4 w3.heap.size (fun k => w3.heap.size ≤ k ∧ k < w4.heap.size) (.slice A5 ls.length c5) ls := HelpBB.tBB.M_mono (fun k hk => hk.2) (HelpBB.tBB.M_bound HS5.out); obtain ⟨B, d, e, _, hr⟩ := OwnRow.reads (Kd.S_R (Kd.S_below h (grew_trans HQ8.out (grew_trans HB89.out HAL.out)))).2; obtain ⟨rfl, rfl⟩ : A5 = B ∧ c5 = d := by { injection e with x1 x2 x3; exact ⟨x1, x3⟩ }; exact hr.imp_ (Below.refl _ _) (fun y cs h => kB.M_mono (fun k hk => hk.1) h) }); have HB39 := Aside0.mk (show Below w3.heap.size w3 (w9.alloc (.cells #[.slice E0 x0.1.length e0, .slice E1 x0.2.length e1] 27 (0, 0))) from grew_trans HB34.out (grew_trans HQ8.out (grew_trans HB89.out HAL.out))); refine Kd.R_append_rows kB (Rr := fun y cs => kB.M (w9.alloc (.cells #[.slice E0 x0.1.length e0, .slice E1 x0.2.length e1] 27 (0, 0))) w3.heap.size (fun k => w3.heap.size ≤ k ∧ k < w4.heap.size) y cs) (w0 := w3) w3.heap.size rfl (.tmp 43) (.tmp 44) 22 25 (.slice none 0 0) 24 rfl Tryz.underlying22 infoBB rfl Nat.zero_lt_one (by omega) (.slice E1 x0.2.length e1) x0.2 ls A5 ls.length c5 (fun k => w3.heap.size ≤ k ∧ k ≠ w9.heap.size) (fun k => w3.heap.size ≤ k ∧ k < w4.heap.size) rfl rfl HD9.out HL9.out (fun _ _ h => h) (fun k hk => by have h1 := HZ.out; exact ⟨⟨hk.1, by omega⟩, fun e => by have h2 := (HOL.out k e.symm).1; have h3 := HN1.out; have h4 := hk.2; have h5 := HZ48.out; omega⟩) (fun k hk => by have h1 := HW9.out; have h2 := HB34.out.size; have h3 := HZ.out; have h4 : (w9.alloc (.cells #[.slice E0 x0.1.length e0, .slice E1 x0.2.length e1] 27 (0, 0))).heap.size ≤ k := hk; exact ⟨by omega, by omega⟩) HB39.out HB39.out.size (by omega) ?_; intro v10 w10 hO10 hB10 hg10 hat10; obtain ⟨A10, c10, e10⟩ := Kd.R_slice hO10; rw [List.length_append] at e10; subst e10; have HG10 := Aside0.mk hg10; have BO10 := Aside0.mk (blk_grown (g := w9.heap.size) (blk_new w9 (.cells #[.slice E0 x0.1.length e0, .slice E1 x0.2.length e1] 27 (0, 0))) hg10 (fun e => by have h1 := (HOL.out _ e.symm).2; omega)); have BR10 := Aside0.mk (blk_grown (g := gr) (blk_below BR9.out HAL.out) hg10 (fun e => by have h1 := (HOL.out _ e.symm).1; have h2 := HGZ.out; have h3 := HN1.out; omega)); have HE10 := Aside0.mk (show HelpBB.tBB.M w10 w.heap.size (fun k => w3.heap.size ≤ k ∧ k < w9.heap.size) x0.1 (.slice E0 x0.1.length e0) from HelpBB.tBB.M_mono (fun k hk => ⟨by have h1 := hk.2.1; have h2 := HB34.out.size; have h3 := HZ48.out; omega, hk.2.2⟩) (HelpBB.tBB.M_lower HB8.out.size (HelpBB.tBB.M_move (fun k hk => (hg10.block k (by have h1 := hk.2.2; have h2 := HW9.out; omega) (fun e => by have h1 := (HOL.out k e.symm).1; have h2 := hk.1; omega)).trans (HAL.out.block k hk.2.2)) (HelpBB.tBB.M_bound HS0.out)))); obtain ⟨⟨t0, tf0⟩, ⟨t1_, tf1⟩⟩ := cells2 BO10.out; obtain ⟨⟨u0_, uf0⟩, ⟨u1_, uf1⟩⟩ := cells2 (show (w10.setCell ⟨w9.heap.size, 1, none⟩ (.slice A10 (x0.2.length + ls.length) c10)).heap[w9.heap.size]? = some (.cells #[.slice E0 x0.1.length e0, .slice A10 (x0.2.length + ls.length) c10] 27 (0, 0)) from blk_put (cs := #[.slice E0 x0.1.length e0, .slice E1 x0.2.length e1]) BO10.out 1 _ rfl); have NRO := Aside0.mk (show gr ≠ w9.heap.size from fun e => by have h1 := HGZ.out; have h2 := HB89.out.size; omega); have BR11 := Aside0.mk (show (w10.setCell ⟨w9.heap.size, 1, none⟩ (.slice A10 (x0.2.length + ls.length) c10)).heap[gr]? = some (.cells #[.slice none 0 0, .slice none 0 0] 27 (0, 0)) from blk_far BR10.out NRO.out _); obtain ⟨⟨s0_, sf0⟩, ⟨s1_, sf1⟩⟩ := cells2 BR11.out; have HO10 := Aside0.mk hO10; have HB10 := Aside0.mk hB10; clear hO10 hB10 hg10 hat10))
        refine bodyPost_ret (results_ct rfl _ _ gr 27 #[.slice E0 x0.1.length e0, .slice A10 (x0.2.length + ls.length) c10] (0, 0) _ rfl (by (with_reducible repeat (first | refine blk_drewN ?_ _ | refine blk_drew ?_ | refine blk_alloc ?_ _)); refine blk_put (cs := #[.slice E0 x0.1.length e0, .slice none 0 0]) ?_ 1 _ rfl; (with_reducible repeat (first | refine blk_drewN ?_ _ | refine blk_drew ?_ | refine blk_alloc ?_ _)); refine blk_put (cs := #[.slice none 0 0, .slice none 0 0]) ?_ 0 _ rfl; (with_reducible repeat (first | refine blk_drewN ?_ _ | refine blk_drew ?_ | refine blk_alloc ?_ _)); exact BR11.out) Tryz.underlying27 rfl (by kernel_rfl)) rfl ?_
        rw [show ing_ x0 x1 = ((x0.1, x0.2 ++ ls), 0) from by unfold ing_; rw [HS.out, HLS.out]; exact if_pos HRM.out]
        refine ⟨_, rfl, ⟨[_, _], rfl, _, _, rfl, ?_, _, rfl, ?_⟩, below_set (below_set ((below_set (grew_trans HB3.out HB10.out) (Nat.le_trans HB9.out.size (Nat.le_refl _)))) GER.out) GER.out⟩
        · exact HelpBB.tBB.K_of_M ((Ty.M_set (T := HelpBB.tBB) (Ty.M_set (T := HelpBB.tBB) (Ty.M_set (T := HelpBB.tBB) HE10.out (fun k hk e => by have h1 := hk.2; omega) _) (fun k hk e => by have h1 := hk.1; have h2 := GLR.out; have h3 := HB23.out.size; omega) _) (fun k hk e => by have h1 := hk.1; have h2 := GLR.out; have h3 := HB23.out.size; omega) _))
        · have e : (x0.2 ++ ls).length = x0.2.length + ls.length := List.length_append ..
          obtain ⟨_, hc10, hC10⟩ := Kd.R_reads' (Kd.R_far (d := kB) (Kd.R_far (d := kB) (Kd.R_far (d := kB) HO10.out (p := ⟨w9.heap.size, 1, none⟩) (fun k hk => hk.2) (.slice A10 (x0.2.length + ls.length) c10)) (p := ⟨gr, 0, none⟩) (fun k hk => by have h1 := hk.1; have h2 := GLR.out; have h3 := HB23.out.size; show k ≠ gr; omega) (.slice E0 x0.1.length e0)) (p := ⟨gr, 1, none⟩) (fun k hk => by have h1 := hk.1; have h2 := GLR.out; have h3 := HB23.out.size; show k ≠ gr; omega) (.slice A10 (x0.2.length + ls.length) c10))
          exact ⟨A10, c10, by rw [e], by rw [e]; exact hc10, hC10⟩
end Go.Proofs.YtmgmdnmfalepkaaGreat.Ing

namespace Go.Proofs.YtmgmdnmfalepkaaGreat.LawIng
open Go.RowKit Go.Proofs.YtmgmdnmfalepkaaGreatW.PrintWords Go.Proofs.YtmgmdnmfalepkaaGreatW.PrintMore Go.Proofs.YtmgmdnmfalepkaaGreat.Kit Go.Proofs.YtmgmdnmfalepkaaGreat.PKit Go.Proofs.YtmgmdnmfalepkaaGreat.Ty Go.Proofs.YtmgmdnmfalepkaaGreat.Ing Go.Proofs.YtmgmdnmfalepkaaGreat.PSeg Go.Proofs.YtmgmdnmfalepkaaGreat.PSta
set_option linter.unusedVariables false
theorem cells2 {w : World} {g : Nat} {t : TypeId} {a0 a1 : Value} (h : w.heap[g]? = some (.cells #[a0, a1] t (0, 0))) : (w.cell? ⟨g, 0, none⟩ = some a0 ∧ w.frozen? ⟨g, 0, none⟩ = false) ∧ (w.cell? ⟨g, 1, none⟩ = some a1 ∧ w.frozen? ⟨g, 1, none⟩ = false) := ⟨⟨(blk_cell h 0).trans rfl, blk_frozen h 0⟩, ⟨(blk_cell h 1).trans rfl, blk_frozen h 1⟩⟩
set_option maxRecDepth 100000 in
set_option maxHeartbeats 4000000 in
theorem law_calls (x0 : HelpSta.X) (x1 : List Int) (v0 : Value) (v1 : Value) (w : World) (h0 : HelpSta.tSta.K w x0 v0) (h1 : HelpB.tB.K w x1 v1) (y0 : Bytes x0.1) (y1 : Bytes x0.2) (y2 : ∀ x ∈ x1, 0 ≤ x ∧ x ≤ 255) :
    Calls Tryz.prog 3 #[v0, v1] w fun e w' => e = .returned (.bool true) ∧ Below w.heap.size w w' := by
  have hu27 := Tryz.underlying27
  have hu24 := Tryz.underlying24
  obtain ⟨A0p0, c0p0, A1p0, c1p0, es_⟩ := HelpSta.form h0
  subst es_
  have K0 := Aside0.mk h0
  clear h0
  obtain ⟨A1, c1, rfl, hc1, hr1⟩ := h1
  have K1 := Aside0.mk (show HelpB.tB.K w x1 (.slice A1 x1.length c1) from ⟨A1, c1, rfl, hc1, hr1⟩)
  have hm1 := hr1.2.1
  clear hc1 hr1
  have Ay0 := Aside0.mk y0
  have Ay1 := Aside0.mk y1
  have Ay2 := Aside0.mk y2
  clear y0 y1 y2
  by_cases q1 : 1048576 < x1.length
  · have qz1 : (1048576 : Int) < (x1.length : Int) := by omega
    go_enter Tryz.func3, Tryz.ntmps3
    go_wp2_with (first | ((with_reducible refine gate_dst (N := 2) rfl ?_); refine box_event ?hg (N := 2) ?hd (cs := #[.slice A0p0 (x0.1).length c0p0, .slice A1p0 (x0.2).length c1p0]) (t := 24) ?hr ?_; (case hd => rfl); (case hg => rfl); (case hr => first | (go_simp; done) | (go_simp; rfl)); intro gp0 hgb w1 hbx gg; have PGp0 := Aside0.mk (show w.heap.size ≤ gp0 from Nat.le_of_eq hgb.symm); have PLp0 := Aside0.mk (blk_lt hbx); have BKp0 := Aside0.mk hbx; clear hgb hbx; have Gw1 := Aside0.mk (show Grew w w1 from grew_trans (Below.refl _ _) gg); have Ew1 := Aside0.mk gg.size; clear gg; obtain ⟨⟨hcgp00, hfgp00⟩, ⟨hcgp01, hfgp01⟩⟩ := cells2 BKp0.out))
    go_wp2
    go_ret
    exact ⟨rfl, Gw1.out⟩
  have qz1 : ¬ (1048576 : Int) < (x1.length : Int) := by omega
  have s1 : HelpB.smallB x1 := by show x1.length ≤ 1048576; omega
  have S1 := Aside0.mk s1
  clear q1 s1
  obtain ⟨r0, hr0, hz0⟩ := HelpSta.sz_pure x0 1048576 (by omega) (by omega) ⟨w, _, K0.out⟩
  by_cases q0 : r0 < 0
  · clear hr0
    go_enter Tryz.func3, Tryz.ntmps3
    go_wp2_with (first | ((with_reducible refine gate_dst (N := 2) rfl ?_); refine box_event ?hg (N := 2) ?hd (cs := #[.slice A0p0 (x0.1).length c0p0, .slice A1p0 (x0.2).length c1p0]) (t := 24) ?hr ?_; (case hd => rfl); (case hg => rfl); (case hr => first | (go_simp; done) | (go_simp; rfl)); intro gp0 hgb w1 hbx gg; have PGp0 := Aside0.mk (show w.heap.size ≤ gp0 from Nat.le_of_eq hgb.symm); have PLp0 := Aside0.mk (blk_lt hbx); have BKp0 := Aside0.mk hbx; clear hgb hbx; have Gw1 := Aside0.mk (show Grew w w1 from grew_trans (Below.refl _ _) gg); have Ew1 := Aside0.mk gg.size; clear gg; obtain ⟨⟨hcgp00, hfgp00⟩, ⟨hcgp01, hfgp01⟩⟩ := cells2 BKp0.out))
    go_at_call 6
    refine (hz0 _ (HelpSta.tSta.K_below (Gw1.out) K0.out)).mono ?_
    rintro e w2 ⟨rfl, gg⟩
    clear hcgp00 hfgp00 hcgp01 hfgp01
    have Gw2 := Aside0.mk (show Grew w w2 from grew_trans (Gw1.out) gg)
    have Ew2 := Aside0.mk gg.size
    replace BKp0 := Aside0.mk (blk_below BKp0.out gg)
    clear gg
    obtain ⟨⟨hcgp00, hfgp00⟩, ⟨hcgp01, hfgp01⟩⟩ := cells2 BKp0.out
    go_wp2
    go_ret
    exact ⟨rfl, Gw2.out⟩
  obtain ⟨l0, m0, s0⟩ := hr0 (by omega)
  have S0 := Aside0.mk s0
  clear s0 hr0
  have B0 := Aside0.mk (HelpSta.bd_small S0.out)
  have B1 := Aside0.mk (HelpB.bd_small S1.out)
  have rb := ans_small x0 x1 S0.out S1.out Ay0.out Ay1.out Ay2.out
  have RB := Aside0.mk rb
  clear rb
  have cx0 : (HelpSta.cntSta x0 : Int) ≤ 1048576 := Int.ofNat_le.2 (HelpSta.cnt_small S0.out)
  have cx1 : (HelpB.cntB x1 : Int) ≤ 1048576 := Int.ofNat_le.2 (HelpB.cnt_small S1.out)
  have p1 : ¬ (1 + (HelpSta.cntSta x0 : Int) + (HelpB.cntB x1 : Int) < 0) := by omega
  obtain ⟨C, hC⟩ : ∃ C, (ing_ x0 x1).2 = C := ⟨_, rfl⟩
  have HCO := Aside0.mk hC
  clear hC
  generalize hR : (ing_ x0 x1).1 = R at RB
  have HR := Aside0.mk hR
  clear hR
  have cr : (HelpSta.cntSta R : Int) ≤ 1099511627000 := Int.ofNat_le.2 RB.out.2
  have p2 : ¬ (1 + (HelpSta.cntSta R : Int) < 0) := by omega
  go_enter Tryz.func3, Tryz.ntmps3
  go_wp2_with (first | ((with_reducible refine gate_dst (N := 2) rfl ?_); refine box_event ?hg (N := 2) ?hd (cs := #[.slice A0p0 (x0.1).length c0p0, .slice A1p0 (x0.2).length c1p0]) (t := 24) ?hr ?_; (case hd => rfl); (case hg => rfl); (case hr => first | (go_simp; done) | (go_simp; rfl)); intro gp0 hgb w1 hbx gg; have PGp0 := Aside0.mk (show w.heap.size ≤ gp0 from Nat.le_of_eq hgb.symm); have PLp0 := Aside0.mk (blk_lt hbx); have BKp0 := Aside0.mk hbx; clear hgb hbx; have Gw1 := Aside0.mk (show Grew w w1 from grew_trans (Below.refl _ _) gg); have Ew1 := Aside0.mk gg.size; clear gg; obtain ⟨⟨hcgp00, hfgp00⟩, ⟨hcgp01, hfgp01⟩⟩ := cells2 BKp0.out))
  go_at_call 6
  refine (hz0 _ (HelpSta.tSta.K_below (Gw1.out) K0.out)).mono ?_
  rintro e w2 ⟨rfl, gg⟩
  clear hcgp00 hfgp00 hcgp01 hfgp01
  have Gw2 := Aside0.mk (show Grew w w2 from grew_trans (Gw1.out) gg)
  have Ew2 := Aside0.mk gg.size
  replace BKp0 := Aside0.mk (blk_below BKp0.out gg)
  clear gg
  obtain ⟨⟨hcgp00, hfgp00⟩, ⟨hcgp01, hfgp01⟩⟩ := cells2 BKp0.out
  go_wp2_with fail
  go_at_call 8
  refine (HelpSta.to_calls x0 (.agg #[.slice A0p0 (x0.1).length c0p0, .slice A1p0 (x0.2).length c1p0]) _ (HelpSta.tSta.K_below (Gw2.out) K0.out) B0.out).mono ?_
  rintro e w3 ⟨tT0, rfl, ht_, gg⟩
  clear hcgp00 hfgp00 hcgp01 hfgp01
  have Gw3 := Aside0.mk (show Grew w w3 from grew_trans (Gw2.out) gg)
  have Ew3 := Aside0.mk gg.size
  replace BKp0 := Aside0.mk (blk_below BKp0.out gg)
  have T0 := Aside0.mk ( ht_)
  clear ht_
  clear gg
  obtain ⟨⟨hcgp00, hfgp00⟩, ⟨hcgp01, hfgp01⟩⟩ := cells2 BKp0.out
  go_wp2_with fail
  go_at_call 9
  refine (HelpB.to_calls x1 (.slice A1 x1.length c1) _ (HelpB.tB.K_below (Gw3.out) K1.out) B1.out).mono ?_
  rintro e w4 ⟨tT1, rfl, ht_, gg⟩
  clear hcgp00 hfgp00 hcgp01 hfgp01
  have Gw4 := Aside0.mk (show Grew w w4 from grew_trans (Gw3.out) gg)
  have Ew4 := Aside0.mk gg.size
  replace T0 := Aside0.mk (Ty.M_below T0.out gg)
  replace BKp0 := Aside0.mk (blk_below BKp0.out gg)
  have T1 := Aside0.mk ( ht_)
  clear ht_
  clear gg
  go_wp2_with fail
  go_at_call 7
  refine (specC x0 x1 tT0 tT1 _ (HelpSta.tSta.K_of_M T0.out) (HelpB.tB.K_of_M T1.out) S0.out S1.out Ay0.out Ay1.out Ay2.out).mono ?_
  rintro e w5 ⟨v, rfl, hk, gg⟩
  have Gw5 := Aside0.mk (show Grew w w5 from grew_trans (Gw4.out) gg)
  have Ew5 := Aside0.mk gg.size
  replace T0 := Aside0.mk (Ty.M_below T0.out gg)
  replace T1 := Aside0.mk (Ty.M_below T1.out gg)
  replace BKp0 := Aside0.mk (blk_below BKp0.out gg)
  rw [HCO.out]
  rw [HR.out] at hk
  have W := Aside0.mk hk
  clear hk
  clear gg
  clear T0
  clear T1
  obtain ⟨A0vw, c0vw, A1vw, c1vw, es_⟩ := HelpSta.form W.out
  subst es_
  obtain ⟨⟨hcgp00, hfgp00⟩, ⟨hcgp01, hfgp01⟩⟩ := cells2 BKp0.out
  obtain ⟨⟨hdgp00, hegp00⟩, ⟨hdgp01, hegp01⟩⟩ := cells2 (blk_alloc BKp0.out (.cells #[.slice A0vw (R.1).length c0vw, .slice A1vw (R.2).length c1vw] 27 (0, 0)))
  go_wp2_with fail
  obtain ⟨gvw, hgb⟩ : ∃ g_, g_ = w5.heap.size := ⟨_, rfl⟩
  obtain ⟨w6, hW_⟩ : ∃ w_, w_ = w5.alloc (.cells #[.slice A0vw (R.1).length c0vw, .slice A1vw (R.2).length c1vw] 27 (0, 0)) := ⟨_, rfl⟩
  rw [← hW_, ← hgb]
  have BKvw := Aside0.mk (show w6.heap[gvw]? = some (.cells #[.slice A0vw (R.1).length c0vw, .slice A1vw (R.2).length c1vw] 27 (0, 0)) from by rw [hW_, hgb]; exact blk_new w5 _)
  have gg : Grew w5 w6 := by rw [hW_]; exact below_alloc (Below.refl _ _) _
  have GW_ := Aside0.mk gg
  have PGvw := Aside0.mk (show w5.heap.size ≤ gvw from Nat.le_of_eq hgb.symm)
  have PLvw := Aside0.mk (blk_lt BKvw.out)
  clear hW_ hgb
  clear hcgp00 hfgp00 hcgp01 hfgp01 hdgp00 hegp00 hdgp01 hegp01
  have Gw6 := Aside0.mk (show Grew w w6 from grew_trans (Gw5.out) gg)
  have Ew6 := Aside0.mk gg.size
  replace BKp0 := Aside0.mk (blk_below BKp0.out gg)
  clear gg
  have GGw6 := Aside0.mk (show Grew w6 w6 from Below.refl _ _)
  have n_ := Aside0.mk (HelpSta.tSta.K_below GW_.out W.out)
  clear W
  have W := n_
  clear n_
  go_at_call 8
  refine (HelpSta.to_calls x0 (.agg #[.slice A0p0 (x0.1).length c0p0, .slice A1p0 (x0.2).length c1p0]) _ (HelpSta.tSta.K_below (Gw6.out) K0.out) B0.out).mono ?_
  rintro e w7 ⟨tX0, rfl, ht_, gg⟩
  have Gw7 := Aside0.mk (show Grew w w7 from grew_trans (Gw6.out) gg)
  have Ew7 := Aside0.mk gg.size
  have GGw7 := Aside0.mk (show Grew w6 w7 from grew_trans GGw6.out gg)
  replace BKp0 := Aside0.mk (blk_below BKp0.out gg)
  replace BKvw := Aside0.mk (blk_below BKvw.out gg)
  have X0 := Aside0.mk (HelpSta.tSta.M_lower (GGw6.out).size (Ty.M_beyond ht_))
  clear ht_
  clear gg
  obtain ⟨A0x0, c0x0, A1x0, c1x0, es_⟩ := HelpSta.form (HelpSta.tSta.K_of_M X0.out)
  subst es_
  obtain ⟨⟨hcgp00, hfgp00⟩, ⟨hcgp01, hfgp01⟩⟩ := cells2 BKp0.out
  obtain ⟨⟨hcgvw0, hfgvw0⟩, ⟨hcgvw1, hfgvw1⟩⟩ := cells2 BKvw.out
  obtain ⟨⟨hdgp00, hegp00⟩, ⟨hdgp01, hegp01⟩⟩ := cells2 (blk_alloc BKp0.out (.cells #[.slice A0x0 (x0.1).length c0x0, .slice A1x0 (x0.2).length c1x0] 27 (0, 0)))
  obtain ⟨⟨hdgvw0, hegvw0⟩, ⟨hdgvw1, hegvw1⟩⟩ := cells2 (blk_alloc BKvw.out (.cells #[.slice A0x0 (x0.1).length c0x0, .slice A1x0 (x0.2).length c1x0] 27 (0, 0)))
  go_wp2_with fail
  obtain ⟨gx0, hgb⟩ : ∃ g_, g_ = w7.heap.size := ⟨_, rfl⟩
  obtain ⟨w8, hW_⟩ : ∃ w_, w_ = w7.alloc (.cells #[.slice A0x0 (x0.1).length c0x0, .slice A1x0 (x0.2).length c1x0] 27 (0, 0)) := ⟨_, rfl⟩
  rw [← hW_, ← hgb]
  have BKx0 := Aside0.mk (show w8.heap[gx0]? = some (.cells #[.slice A0x0 (x0.1).length c0x0, .slice A1x0 (x0.2).length c1x0] 27 (0, 0)) from by rw [hW_, hgb]; exact blk_new w7 _)
  have gg : Grew w7 w8 := by rw [hW_]; exact below_alloc (Below.refl _ _) _
  have PGx0 := Aside0.mk (show w7.heap.size ≤ gx0 from Nat.le_of_eq hgb.symm)
  have PLx0 := Aside0.mk (blk_lt BKx0.out)
  clear hW_ hgb
  clear hcgp00 hfgp00 hcgp01 hfgp01 hcgvw0 hfgvw0 hcgvw1 hfgvw1 hdgp00 hegp00 hdgp01 hegp01 hdgvw0 hegvw0 hdgvw1 hegvw1
  have Gw8 := Aside0.mk (show Grew w w8 from grew_trans (Gw7.out) gg)
  have Ew8 := Aside0.mk gg.size
  have GGw8 := Aside0.mk (show Grew w6 w8 from grew_trans GGw7.out gg)
  replace X0 := Aside0.mk (Ty.M_below X0.out gg)
  replace BKp0 := Aside0.mk (blk_below BKp0.out gg)
  replace BKvw := Aside0.mk (blk_below BKvw.out gg)
  clear gg
  go_at_call 9
  refine (HelpB.to_calls x1 (.slice A1 x1.length c1) _ (HelpB.tB.K_below (Gw8.out) K1.out) B1.out).mono ?_
  rintro e w9 ⟨tX1, rfl, ht_, gg⟩
  have Gw9 := Aside0.mk (show Grew w w9 from grew_trans (Gw8.out) gg)
  have Ew9 := Aside0.mk gg.size
  have GGw9 := Aside0.mk (show Grew w6 w9 from grew_trans GGw8.out gg)
  replace X0 := Aside0.mk (Ty.M_below X0.out gg)
  replace BKp0 := Aside0.mk (blk_below BKp0.out gg)
  replace BKvw := Aside0.mk (blk_below BKvw.out gg)
  replace BKx0 := Aside0.mk (blk_below BKx0.out gg)
  have X1 := Aside0.mk (HelpB.tB.M_lower (GGw8.out).size (Ty.M_beyond ht_))
  clear ht_
  clear gg
  obtain ⟨⟨hcgp00, hfgp00⟩, ⟨hcgp01, hfgp01⟩⟩ := cells2 BKp0.out
  obtain ⟨⟨hcgvw0, hfgvw0⟩, ⟨hcgvw1, hfgvw1⟩⟩ := cells2 BKvw.out
  obtain ⟨⟨hcgx00, hfgx00⟩, ⟨hcgx01, hfgx01⟩⟩ := cells2 BKx0.out
  go_wp2_with fail
  go_at_call 10
  refine (implC x0 x1 (.agg #[.slice A0x0 (x0.1).length c0x0, .slice A1x0 (x0.2).length c1x0]) (tX1) _ (HelpSta.tSta.K_of_M X0.out) (HelpB.tB.K_of_M X1.out) S0.out S1.out Ay0.out Ay1.out Ay2.out).mono ?_
  rintro e w10 ⟨g, rfl, hm, gg⟩
  clear hcgp00 hfgp00 hcgp01 hfgp01 hcgvw0 hfgvw0 hcgvw1 hfgvw1 hcgx00 hfgx00 hcgx01 hfgx01
  have Gw10 := Aside0.mk (show Grew w w10 from grew_trans (Gw9.out) gg)
  have Ew10 := Aside0.mk gg.size
  have GGw10 := Aside0.mk (show Grew w6 w10 from grew_trans GGw9.out gg)
  replace X0 := Aside0.mk (Ty.M_below X0.out gg)
  replace X1 := Aside0.mk (Ty.M_below X1.out gg)
  replace BKp0 := Aside0.mk (blk_below BKp0.out gg)
  replace BKvw := Aside0.mk (blk_below BKvw.out gg)
  replace BKx0 := Aside0.mk (blk_below BKx0.out gg)
  rw [HCO.out]
  rw [HR.out] at hm
  have Y := Aside0.mk (HelpSta.tSta.M_lower (GGw9.out).size (Ty.M_beyond hm))
  clear hm
  clear gg
  obtain ⟨A0vg, c0vg, A1vg, c1vg, es_⟩ := HelpSta.form (HelpSta.tSta.K_of_M Y.out)
  subst es_
  obtain ⟨⟨hcgp00, hfgp00⟩, ⟨hcgp01, hfgp01⟩⟩ := cells2 BKp0.out
  obtain ⟨⟨hcgvw0, hfgvw0⟩, ⟨hcgvw1, hfgvw1⟩⟩ := cells2 BKvw.out
  obtain ⟨⟨hcgx00, hfgx00⟩, ⟨hcgx01, hfgx01⟩⟩ := cells2 BKx0.out
  obtain ⟨⟨hdgp00, hegp00⟩, ⟨hdgp01, hegp01⟩⟩ := cells2 (blk_alloc BKp0.out (.cells #[.slice A0vg (R.1).length c0vg, .slice A1vg (R.2).length c1vg] 27 (0, 0)))
  obtain ⟨⟨hdgvw0, hegvw0⟩, ⟨hdgvw1, hegvw1⟩⟩ := cells2 (blk_alloc BKvw.out (.cells #[.slice A0vg (R.1).length c0vg, .slice A1vg (R.2).length c1vg] 27 (0, 0)))
  obtain ⟨⟨hdgx00, hegx00⟩, ⟨hdgx01, hegx01⟩⟩ := cells2 (blk_alloc BKx0.out (.cells #[.slice A0vg (R.1).length c0vg, .slice A1vg (R.2).length c1vg] 27 (0, 0)))
  go_wp2_with fail
  obtain ⟨gvg, hgb⟩ : ∃ g_, g_ = w10.heap.size := ⟨_, rfl⟩
  obtain ⟨w11, hW_⟩ : ∃ w_, w_ = w10.alloc (.cells #[.slice A0vg (R.1).length c0vg, .slice A1vg (R.2).length c1vg] 27 (0, 0)) := ⟨_, rfl⟩
  rw [← hW_, ← hgb]
  have BKvg := Aside0.mk (show w11.heap[gvg]? = some (.cells #[.slice A0vg (R.1).length c0vg, .slice A1vg (R.2).length c1vg] 27 (0, 0)) from by rw [hW_, hgb]; exact blk_new w10 _)
  have gg : Grew w10 w11 := by rw [hW_]; exact below_alloc (Below.refl _ _) _
  have PGvg := Aside0.mk (show w10.heap.size ≤ gvg from Nat.le_of_eq hgb.symm)
  have PLvg := Aside0.mk (blk_lt BKvg.out)
  clear hW_ hgb
  clear hcgp00 hfgp00 hcgp01 hfgp01 hcgvw0 hfgvw0 hcgvw1 hfgvw1 hcgx00 hfgx00 hcgx01 hfgx01 hdgp00 hegp00 hdgp01 hegp01 hdgvw0 hegvw0 hdgvw1 hegvw1 hdgx00 hegx00 hdgx01 hegx01
  have Gw11 := Aside0.mk (show Grew w w11 from grew_trans (Gw10.out) gg)
  have Ew11 := Aside0.mk gg.size
  have GGw11 := Aside0.mk (show Grew w6 w11 from grew_trans GGw10.out gg)
  replace X0 := Aside0.mk (Ty.M_below X0.out gg)
  replace X1 := Aside0.mk (Ty.M_below X1.out gg)
  replace Y := Aside0.mk (Ty.M_below Y.out gg)
  replace BKp0 := Aside0.mk (blk_below BKp0.out gg)
  replace BKvw := Aside0.mk (blk_below BKvw.out gg)
  replace BKx0 := Aside0.mk (blk_below BKx0.out gg)
  clear gg
  go_at_call 11
  refine (HelpSta.eq_calls R (.agg #[.slice A0vg (R.1).length c0vg, .slice A1vg (R.2).length c1vg]) (.agg #[.slice A0vw (R.1).length c0vw, .slice A1vw (R.2).length c1vw]) _ (HelpSta.tSta.K_of_M Y.out) (HelpSta.tSta.K_below GGw11.out W.out) RB.out.1).mono ?_
  rintro e w12 ⟨rfl, gg⟩
  have Gw12 := Aside0.mk (show Grew w w12 from grew_trans (Gw11.out) gg)
  have Ew12 := Aside0.mk gg.size
  have GGw12 := Aside0.mk (show Grew w6 w12 from grew_trans GGw11.out gg)
  replace X0 := Aside0.mk (Ty.M_below X0.out gg)
  replace X1 := Aside0.mk (Ty.M_below X1.out gg)
  replace Y := Aside0.mk (Ty.M_below Y.out gg)
  replace BKp0 := Aside0.mk (blk_below BKp0.out gg)
  replace BKvw := Aside0.mk (blk_below BKvw.out gg)
  replace BKx0 := Aside0.mk (blk_below BKx0.out gg)
  replace BKvg := Aside0.mk (blk_below BKvg.out gg)
  clear gg
  obtain ⟨⟨hcgp00, hfgp00⟩, ⟨hcgp01, hfgp01⟩⟩ := cells2 BKp0.out
  obtain ⟨⟨hcgvw0, hfgvw0⟩, ⟨hcgvw1, hfgvw1⟩⟩ := cells2 BKvw.out
  obtain ⟨⟨hcgx00, hfgx00⟩, ⟨hcgx01, hfgx01⟩⟩ := cells2 BKx0.out
  obtain ⟨⟨hcgvg0, hfgvg0⟩, ⟨hcgvg1, hfgvg1⟩⟩ := cells2 BKvg.out
  go_wp2_with fail
  go_region_held3 (fun W_ => W_.cell? ⟨gp0, 0, none⟩ = some (.slice A0p0 (x0.1).length c0p0) ∧ W_.cell? ⟨gp0, 1, none⟩ = some (.slice A1p0 (x0.2).length c1p0) ∧ W_.cell? ⟨gx0, 0, none⟩ = some (.slice A0x0 (x0.1).length c0x0) ∧ W_.cell? ⟨gx0, 1, none⟩ = some (.slice A1x0 (x0.2).length c1x0) ∧ W_.frozen? ⟨gp0, 0, none⟩ = false ∧ W_.frozen? ⟨gp0, 1, none⟩ = false ∧ W_.frozen? ⟨gx0, 0, none⟩ = false ∧ W_.frozen? ⟨gx0, 1, none⟩ = false) (first | exact ⟨(blk_cell BKp0.out 0).trans rfl, (blk_cell BKp0.out 1).trans rfl, (blk_cell BKx0.out 0).trans rfl, (blk_cell BKx0.out 1).trans rfl, blk_frozen BKp0.out 0, blk_frozen BKp0.out 1, blk_frozen BKx0.out 0, blk_frozen BKx0.out 1⟩ | exact ⟨(blk_cell (blk_below (o := .cells #[.slice A0p0 (x0.1).length c0p0, .slice A1p0 (x0.2).length c1p0] 24 (0, 0)) BKp0.out gA_.out) 0).trans rfl, (blk_cell (blk_below (o := .cells #[.slice A0p0 (x0.1).length c0p0, .slice A1p0 (x0.2).length c1p0] 24 (0, 0)) BKp0.out gA_.out) 1).trans rfl, (blk_cell (blk_below (o := .cells #[.slice A0x0 (x0.1).length c0x0, .slice A1x0 (x0.2).length c1x0] 27 (0, 0)) BKx0.out gA_.out) 0).trans rfl, (blk_cell (blk_below (o := .cells #[.slice A0x0 (x0.1).length c0x0, .slice A1x0 (x0.2).length c1x0] 27 (0, 0)) BKx0.out gA_.out) 1).trans rfl, blk_frozen (blk_below (o := .cells #[.slice A0p0 (x0.1).length c0p0, .slice A1p0 (x0.2).length c1p0] 24 (0, 0)) BKp0.out gA_.out) 0, blk_frozen (blk_below (o := .cells #[.slice A0p0 (x0.1).length c0p0, .slice A1p0 (x0.2).length c1p0] 24 (0, 0)) BKp0.out gA_.out) 1, blk_frozen (blk_below (o := .cells #[.slice A0x0 (x0.1).length c0x0, .slice A1x0 (x0.2).length c1x0] 27 (0, 0)) BKx0.out gA_.out) 0, blk_frozen (blk_below (o := .cells #[.slice A0x0 (x0.1).length c0x0, .slice A1x0 (x0.2).length c1x0] 27 (0, 0)) BKx0.out gA_.out) 1⟩ | exact ⟨(blk_cell (blk_below (o := .cells #[.slice A0p0 (x0.1).length c0p0, .slice A1p0 (x0.2).length c1p0] 24 (0, 0)) BKp0.out (grew_trans gA_.out gB_.out)) 0).trans rfl, (blk_cell (blk_below (o := .cells #[.slice A0p0 (x0.1).length c0p0, .slice A1p0 (x0.2).length c1p0] 24 (0, 0)) BKp0.out (grew_trans gA_.out gB_.out)) 1).trans rfl, (blk_cell (blk_below (o := .cells #[.slice A0x0 (x0.1).length c0x0, .slice A1x0 (x0.2).length c1x0] 27 (0, 0)) BKx0.out (grew_trans gA_.out gB_.out)) 0).trans rfl, (blk_cell (blk_below (o := .cells #[.slice A0x0 (x0.1).length c0x0, .slice A1x0 (x0.2).length c1x0] 27 (0, 0)) BKx0.out (grew_trans gA_.out gB_.out)) 1).trans rfl, blk_frozen (blk_below (o := .cells #[.slice A0p0 (x0.1).length c0p0, .slice A1p0 (x0.2).length c1p0] 24 (0, 0)) BKp0.out (grew_trans gA_.out gB_.out)) 0, blk_frozen (blk_below (o := .cells #[.slice A0p0 (x0.1).length c0p0, .slice A1p0 (x0.2).length c1p0] 24 (0, 0)) BKp0.out (grew_trans gA_.out gB_.out)) 1, blk_frozen (blk_below (o := .cells #[.slice A0x0 (x0.1).length c0x0, .slice A1x0 (x0.2).length c1x0] 27 (0, 0)) BKx0.out (grew_trans gA_.out gB_.out)) 0, blk_frozen (blk_below (o := .cells #[.slice A0x0 (x0.1).length c0x0, .slice A1x0 (x0.2).length c1x0] 27 (0, 0)) BKx0.out (grew_trans gA_.out gB_.out)) 1⟩ | go_keep) (first | (go_at_call 8; refine (HelpSta.to_calls x0 (.agg #[.slice A0p0 (x0.1).length c0p0, .slice A1p0 (x0.2).length c1p0]) _ (HelpSta.tSta.K_below ?ha K0.out) B0.out).mono ?_; (case ha => repeat (first | exact Gw12.out | apply pw_below_drewN | apply below_drew1)); rintro e w13 ⟨z0, rfl, hz_, gA_⟩; have Z := Aside0.mk hz_; have gA_ := Aside0.mk (show Grew w12 w13 from (by first | exact gA_ | exact grew_trans (by repeat (first | exact Below.refl _ _ | apply pw_below_drewN | apply below_drew1)) gA_)); clear hz_) | (go_at_call 11; refine (HelpSta.eq_calls x0 (.agg #[.slice A0x0 (x0.1).length c0x0, .slice A1x0 (x0.2).length c1x0]) z0 _ (HelpSta.tSta.K_below ?hb (HelpSta.tSta.K_of_M X0.out)) (HelpSta.tSta.K_below ?hc (HelpSta.tSta.K_of_M Z.out)) B0.out).mono ?_; (case hb => repeat (first | exact gA_.out | apply pw_below_drewN | apply below_drew1)); (case hc => repeat (first | exact Below.refl _ _ | apply pw_below_drewN | apply below_drew1)); rintro e w14 ⟨rfl, gB_⟩; have gB_ := Aside0.mk (show Grew w13 w14 from (by first | exact gB_ | exact grew_trans (by repeat (first | exact Below.refl _ _ | apply pw_below_drewN | apply below_drew1)) gB_))))
  have gg : Grew w12 w14 := grew_trans gA_.out gB_.out
  clear gA_ gB_ Z
  clear hcgp00 hfgp00 hcgp01 hfgp01 hcgvw0 hfgvw0 hcgvw1 hfgvw1 hcgx00 hfgx00 hcgx01 hfgx01 hcgvg0 hfgvg0 hcgvg1 hfgvg1
  have Gw14 := Aside0.mk (show Grew w w14 from grew_trans (Gw12.out) gg)
  have Ew14 := Aside0.mk gg.size
  have GGw14 := Aside0.mk (show Grew w6 w14 from grew_trans GGw12.out gg)
  replace X0 := Aside0.mk (Ty.M_below X0.out gg)
  replace X1 := Aside0.mk (Ty.M_below X1.out gg)
  replace Y := Aside0.mk (Ty.M_below Y.out gg)
  replace BKp0 := Aside0.mk (blk_below BKp0.out gg)
  replace BKvw := Aside0.mk (blk_below BKvw.out gg)
  replace BKx0 := Aside0.mk (blk_below BKx0.out gg)
  replace BKvg := Aside0.mk (blk_below BKvg.out gg)
  clear gg
  obtain ⟨⟨hcgp00, hfgp00⟩, ⟨hcgp01, hfgp01⟩⟩ := cells2 BKp0.out
  obtain ⟨⟨hcgvw0, hfgvw0⟩, ⟨hcgvw1, hfgvw1⟩⟩ := cells2 BKvw.out
  obtain ⟨⟨hcgx00, hfgx00⟩, ⟨hcgx01, hfgx01⟩⟩ := cells2 BKx0.out
  obtain ⟨⟨hcgvg0, hfgvg0⟩, ⟨hcgvg1, hfgvg1⟩⟩ := cells2 BKvg.out
  go_wp2_with fail
  go_at_call 9
  refine (HelpB.to_calls x1 (.slice A1 x1.length c1) _ (HelpB.tB.K_below (Gw14.out) K1.out) B1.out).mono ?_
  rintro e w15 ⟨z1, rfl, hz_, gg⟩
  clear hcgp00 hfgp00 hcgp01 hfgp01 hcgvw0 hfgvw0 hcgvw1 hfgvw1 hcgx00 hfgx00 hcgx01 hfgx01 hcgvg0 hfgvg0 hcgvg1 hfgvg1
  have Gw15 := Aside0.mk (show Grew w w15 from grew_trans (Gw14.out) gg)
  have Ew15 := Aside0.mk gg.size
  have GGw15 := Aside0.mk (show Grew w6 w15 from grew_trans GGw14.out gg)
  replace X0 := Aside0.mk (Ty.M_below X0.out gg)
  replace X1 := Aside0.mk (Ty.M_below X1.out gg)
  replace Y := Aside0.mk (Ty.M_below Y.out gg)
  replace BKp0 := Aside0.mk (blk_below BKp0.out gg)
  replace BKvw := Aside0.mk (blk_below BKvw.out gg)
  replace BKx0 := Aside0.mk (blk_below BKx0.out gg)
  replace BKvg := Aside0.mk (blk_below BKvg.out gg)
  have Z := Aside0.mk hz_
  clear hz_
  clear gg
  obtain ⟨⟨hcgp00, hfgp00⟩, ⟨hcgp01, hfgp01⟩⟩ := cells2 BKp0.out
  obtain ⟨⟨hcgvw0, hfgvw0⟩, ⟨hcgvw1, hfgvw1⟩⟩ := cells2 BKvw.out
  obtain ⟨⟨hcgx00, hfgx00⟩, ⟨hcgx01, hfgx01⟩⟩ := cells2 BKx0.out
  obtain ⟨⟨hcgvg0, hfgvg0⟩, ⟨hcgvg1, hfgvg1⟩⟩ := cells2 BKvg.out
  go_wp2_with fail
  go_at_call 12
  refine (HelpB.eq_calls x1 (tX1) z1 _ (HelpB.tB.K_of_M X1.out) (HelpB.tB.K_of_M Z.out) B1.out).mono ?_
  rintro e w16 ⟨rfl, gg⟩
  clear hcgp00 hfgp00 hcgp01 hfgp01 hcgvw0 hfgvw0 hcgvw1 hfgvw1 hcgx00 hfgx00 hcgx01 hfgx01 hcgvg0 hfgvg0 hcgvg1 hfgvg1
  have Gw16 := Aside0.mk (show Grew w w16 from grew_trans (Gw15.out) gg)
  have Ew16 := Aside0.mk gg.size
  have GGw16 := Aside0.mk (show Grew w6 w16 from grew_trans GGw15.out gg)
  replace X0 := Aside0.mk (Ty.M_below X0.out gg)
  replace X1 := Aside0.mk (Ty.M_below X1.out gg)
  replace Y := Aside0.mk (Ty.M_below Y.out gg)
  replace BKp0 := Aside0.mk (blk_below BKp0.out gg)
  replace BKvw := Aside0.mk (blk_below BKvw.out gg)
  replace BKx0 := Aside0.mk (blk_below BKx0.out gg)
  replace BKvg := Aside0.mk (blk_below BKvg.out gg)
  clear Z
  clear gg
  obtain ⟨⟨hcgp00, hfgp00⟩, ⟨hcgp01, hfgp01⟩⟩ := cells2 BKp0.out
  obtain ⟨⟨hcgvw0, hfgvw0⟩, ⟨hcgvw1, hfgvw1⟩⟩ := cells2 BKvw.out
  obtain ⟨⟨hcgx00, hfgx00⟩, ⟨hcgx01, hfgx01⟩⟩ := cells2 BKx0.out
  obtain ⟨⟨hcgvg0, hfgvg0⟩, ⟨hcgvg1, hfgvg1⟩⟩ := cells2 BKvg.out
  go_wp2_with fail
  go_at_call 13
  refine (HelpSta.mark_calls x0 (.agg #[.slice A0x0 (x0.1).length c0x0, .slice A1x0 (x0.2).length c1x0]) _ (1) w6 _ GGw16.out X0.out (by omega) (by omega) B0.out).mono ?_
  rintro e w17 ⟨rfl, hm, hb, hkp⟩
  clear hcgp00 hfgp00 hcgp01 hfgp01 hcgvw0 hfgvw0 hcgvw1 hfgvw1 hcgx00 hfgx00 hcgx01 hfgx01 hcgvg0 hfgvg0 hcgvg1 hfgvg1
  have GGw17 := Aside0.mk (show Grew w6 w17 from hb)
  have Gw17 := Aside0.mk (show Grew w w17 from grew_trans Gw6.out hb)
  have Ew17 := Aside0.mk hkp.1
  replace X1 := Aside0.mk (Ty.M_kept X1.out hkp (fun k hk hs => by have a1_ := hk.1; have a2_ := hk.2; have a3_ := hs.1; have a4_ := hs.2; have e0_ := Ew1.out; have e1_ := PGp0.out; have e2_ := PLp0.out; have e3_ := Ew2.out; have e4_ := Ew3.out; have e5_ := Ew4.out; have e6_ := Ew5.out; have e7_ := Ew6.out; have e8_ := PGvw.out; have e9_ := PLvw.out; have e10_ := Ew7.out; have e11_ := Ew8.out; have e12_ := PGx0.out; have e13_ := PLx0.out; have e14_ := Ew9.out; have e15_ := Ew10.out; have e16_ := Ew11.out; have e17_ := PGvg.out; have e18_ := PLvg.out; have e19_ := Ew12.out; have e20_ := Ew14.out; have e21_ := Ew15.out; have e22_ := Ew16.out; have e23_ := Ew17.out; omega))
  replace Y := Aside0.mk (Ty.M_kept Y.out hkp (fun k hk hs => by have a1_ := hk.1; have a2_ := hk.2; have a3_ := hs.1; have a4_ := hs.2; have e0_ := Ew1.out; have e1_ := PGp0.out; have e2_ := PLp0.out; have e3_ := Ew2.out; have e4_ := Ew3.out; have e5_ := Ew4.out; have e6_ := Ew5.out; have e7_ := Ew6.out; have e8_ := PGvw.out; have e9_ := PLvw.out; have e10_ := Ew7.out; have e11_ := Ew8.out; have e12_ := PGx0.out; have e13_ := PLx0.out; have e14_ := Ew9.out; have e15_ := Ew10.out; have e16_ := Ew11.out; have e17_ := PGvg.out; have e18_ := PLvg.out; have e19_ := Ew12.out; have e20_ := Ew14.out; have e21_ := Ew15.out; have e22_ := Ew16.out; have e23_ := Ew17.out; omega))
  replace BKp0 := Aside0.mk ((hkp.2 _ (blk_lt BKp0.out) (fun hk => by have a1_ := hk.1; have a2_ := hk.2; have e0_ := Ew1.out; have e1_ := PGp0.out; have e2_ := PLp0.out; have e3_ := Ew2.out; have e4_ := Ew3.out; have e5_ := Ew4.out; have e6_ := Ew5.out; have e7_ := Ew6.out; have e8_ := PGvw.out; have e9_ := PLvw.out; have e10_ := Ew7.out; have e11_ := Ew8.out; have e12_ := PGx0.out; have e13_ := PLx0.out; have e14_ := Ew9.out; have e15_ := Ew10.out; have e16_ := Ew11.out; have e17_ := PGvg.out; have e18_ := PLvg.out; have e19_ := Ew12.out; have e20_ := Ew14.out; have e21_ := Ew15.out; have e22_ := Ew16.out; have e23_ := Ew17.out; omega)).trans BKp0.out)
  replace BKvw := Aside0.mk ((hkp.2 _ (blk_lt BKvw.out) (fun hk => by have a1_ := hk.1; have a2_ := hk.2; have e0_ := Ew1.out; have e1_ := PGp0.out; have e2_ := PLp0.out; have e3_ := Ew2.out; have e4_ := Ew3.out; have e5_ := Ew4.out; have e6_ := Ew5.out; have e7_ := Ew6.out; have e8_ := PGvw.out; have e9_ := PLvw.out; have e10_ := Ew7.out; have e11_ := Ew8.out; have e12_ := PGx0.out; have e13_ := PLx0.out; have e14_ := Ew9.out; have e15_ := Ew10.out; have e16_ := Ew11.out; have e17_ := PGvg.out; have e18_ := PLvg.out; have e19_ := Ew12.out; have e20_ := Ew14.out; have e21_ := Ew15.out; have e22_ := Ew16.out; have e23_ := Ew17.out; omega)).trans BKvw.out)
  replace BKx0 := Aside0.mk ((hkp.2 _ (blk_lt BKx0.out) (fun hk => by have a1_ := hk.1; have a2_ := hk.2; have e0_ := Ew1.out; have e1_ := PGp0.out; have e2_ := PLp0.out; have e3_ := Ew2.out; have e4_ := Ew3.out; have e5_ := Ew4.out; have e6_ := Ew5.out; have e7_ := Ew6.out; have e8_ := PGvw.out; have e9_ := PLvw.out; have e10_ := Ew7.out; have e11_ := Ew8.out; have e12_ := PGx0.out; have e13_ := PLx0.out; have e14_ := Ew9.out; have e15_ := Ew10.out; have e16_ := Ew11.out; have e17_ := PGvg.out; have e18_ := PLvg.out; have e19_ := Ew12.out; have e20_ := Ew14.out; have e21_ := Ew15.out; have e22_ := Ew16.out; have e23_ := Ew17.out; omega)).trans BKx0.out)
  replace BKvg := Aside0.mk ((hkp.2 _ (blk_lt BKvg.out) (fun hk => by have a1_ := hk.1; have a2_ := hk.2; have e0_ := Ew1.out; have e1_ := PGp0.out; have e2_ := PLp0.out; have e3_ := Ew2.out; have e4_ := Ew3.out; have e5_ := Ew4.out; have e6_ := Ew5.out; have e7_ := Ew6.out; have e8_ := PGvw.out; have e9_ := PLvw.out; have e10_ := Ew7.out; have e11_ := Ew8.out; have e12_ := PGx0.out; have e13_ := PLx0.out; have e14_ := Ew9.out; have e15_ := Ew10.out; have e16_ := Ew11.out; have e17_ := PGvg.out; have e18_ := PLvg.out; have e19_ := Ew12.out; have e20_ := Ew14.out; have e21_ := Ew15.out; have e22_ := Ew16.out; have e23_ := Ew17.out; omega)).trans BKvg.out)
  have N_ := Aside0.mk hm
  clear hm hb hkp X0
  clear N_
  obtain ⟨⟨hcgp00, hfgp00⟩, ⟨hcgp01, hfgp01⟩⟩ := cells2 BKp0.out
  obtain ⟨⟨hcgvw0, hfgvw0⟩, ⟨hcgvw1, hfgvw1⟩⟩ := cells2 BKvw.out
  obtain ⟨⟨hcgx00, hfgx00⟩, ⟨hcgx01, hfgx01⟩⟩ := cells2 BKx0.out
  obtain ⟨⟨hcgvg0, hfgvg0⟩, ⟨hcgvg1, hfgvg1⟩⟩ := cells2 BKvg.out
  go_wp2_with fail
  go_at_call 14
  refine (HelpB.mark_calls x1 (tX1) _ (1 + (HelpSta.cntSta x0 : Int)) w6 _ GGw17.out X1.out (by omega) (by omega) B1.out).mono ?_
  rintro e w18 ⟨rfl, hm, hb, hkp⟩
  clear hcgp00 hfgp00 hcgp01 hfgp01 hcgvw0 hfgvw0 hcgvw1 hfgvw1 hcgx00 hfgx00 hcgx01 hfgx01 hcgvg0 hfgvg0 hcgvg1 hfgvg1
  have GGw18 := Aside0.mk (show Grew w6 w18 from hb)
  have Gw18 := Aside0.mk (show Grew w w18 from grew_trans Gw6.out hb)
  have Ew18 := Aside0.mk hkp.1
  replace Y := Aside0.mk (Ty.M_kept Y.out hkp (fun k hk hs => by have a1_ := hk.1; have a2_ := hk.2; have a3_ := hs.1; have a4_ := hs.2; have e0_ := Ew1.out; have e1_ := PGp0.out; have e2_ := PLp0.out; have e3_ := Ew2.out; have e4_ := Ew3.out; have e5_ := Ew4.out; have e6_ := Ew5.out; have e7_ := Ew6.out; have e8_ := PGvw.out; have e9_ := PLvw.out; have e10_ := Ew7.out; have e11_ := Ew8.out; have e12_ := PGx0.out; have e13_ := PLx0.out; have e14_ := Ew9.out; have e15_ := Ew10.out; have e16_ := Ew11.out; have e17_ := PGvg.out; have e18_ := PLvg.out; have e19_ := Ew12.out; have e20_ := Ew14.out; have e21_ := Ew15.out; have e22_ := Ew16.out; have e23_ := Ew17.out; have e24_ := Ew18.out; omega))
  replace BKp0 := Aside0.mk ((hkp.2 _ (blk_lt BKp0.out) (fun hk => by have a1_ := hk.1; have a2_ := hk.2; have e0_ := Ew1.out; have e1_ := PGp0.out; have e2_ := PLp0.out; have e3_ := Ew2.out; have e4_ := Ew3.out; have e5_ := Ew4.out; have e6_ := Ew5.out; have e7_ := Ew6.out; have e8_ := PGvw.out; have e9_ := PLvw.out; have e10_ := Ew7.out; have e11_ := Ew8.out; have e12_ := PGx0.out; have e13_ := PLx0.out; have e14_ := Ew9.out; have e15_ := Ew10.out; have e16_ := Ew11.out; have e17_ := PGvg.out; have e18_ := PLvg.out; have e19_ := Ew12.out; have e20_ := Ew14.out; have e21_ := Ew15.out; have e22_ := Ew16.out; have e23_ := Ew17.out; have e24_ := Ew18.out; omega)).trans BKp0.out)
  replace BKvw := Aside0.mk ((hkp.2 _ (blk_lt BKvw.out) (fun hk => by have a1_ := hk.1; have a2_ := hk.2; have e0_ := Ew1.out; have e1_ := PGp0.out; have e2_ := PLp0.out; have e3_ := Ew2.out; have e4_ := Ew3.out; have e5_ := Ew4.out; have e6_ := Ew5.out; have e7_ := Ew6.out; have e8_ := PGvw.out; have e9_ := PLvw.out; have e10_ := Ew7.out; have e11_ := Ew8.out; have e12_ := PGx0.out; have e13_ := PLx0.out; have e14_ := Ew9.out; have e15_ := Ew10.out; have e16_ := Ew11.out; have e17_ := PGvg.out; have e18_ := PLvg.out; have e19_ := Ew12.out; have e20_ := Ew14.out; have e21_ := Ew15.out; have e22_ := Ew16.out; have e23_ := Ew17.out; have e24_ := Ew18.out; omega)).trans BKvw.out)
  replace BKx0 := Aside0.mk ((hkp.2 _ (blk_lt BKx0.out) (fun hk => by have a1_ := hk.1; have a2_ := hk.2; have e0_ := Ew1.out; have e1_ := PGp0.out; have e2_ := PLp0.out; have e3_ := Ew2.out; have e4_ := Ew3.out; have e5_ := Ew4.out; have e6_ := Ew5.out; have e7_ := Ew6.out; have e8_ := PGvw.out; have e9_ := PLvw.out; have e10_ := Ew7.out; have e11_ := Ew8.out; have e12_ := PGx0.out; have e13_ := PLx0.out; have e14_ := Ew9.out; have e15_ := Ew10.out; have e16_ := Ew11.out; have e17_ := PGvg.out; have e18_ := PLvg.out; have e19_ := Ew12.out; have e20_ := Ew14.out; have e21_ := Ew15.out; have e22_ := Ew16.out; have e23_ := Ew17.out; have e24_ := Ew18.out; omega)).trans BKx0.out)
  replace BKvg := Aside0.mk ((hkp.2 _ (blk_lt BKvg.out) (fun hk => by have a1_ := hk.1; have a2_ := hk.2; have e0_ := Ew1.out; have e1_ := PGp0.out; have e2_ := PLp0.out; have e3_ := Ew2.out; have e4_ := Ew3.out; have e5_ := Ew4.out; have e6_ := Ew5.out; have e7_ := Ew6.out; have e8_ := PGvw.out; have e9_ := PLvw.out; have e10_ := Ew7.out; have e11_ := Ew8.out; have e12_ := PGx0.out; have e13_ := PLx0.out; have e14_ := Ew9.out; have e15_ := Ew10.out; have e16_ := Ew11.out; have e17_ := PGvg.out; have e18_ := PLvg.out; have e19_ := Ew12.out; have e20_ := Ew14.out; have e21_ := Ew15.out; have e22_ := Ew16.out; have e23_ := Ew17.out; have e24_ := Ew18.out; omega)).trans BKvg.out)
  have N_ := Aside0.mk hm
  clear hm hb hkp X1
  clear N_
  obtain ⟨⟨hcgp00, hfgp00⟩, ⟨hcgp01, hfgp01⟩⟩ := cells2 BKp0.out
  obtain ⟨⟨hcgvw0, hfgvw0⟩, ⟨hcgvw1, hfgvw1⟩⟩ := cells2 BKvw.out
  obtain ⟨⟨hcgx00, hfgx00⟩, ⟨hcgx01, hfgx01⟩⟩ := cells2 BKx0.out
  obtain ⟨⟨hcgvg0, hfgvg0⟩, ⟨hcgvg1, hfgvg1⟩⟩ := cells2 BKvg.out
  go_wp2_with fail
  go_at_call 11
  refine (HelpSta.eq_calls R (.agg #[.slice A0vg (R.1).length c0vg, .slice A1vg (R.2).length c1vg]) (.agg #[.slice A0vw (R.1).length c0vw, .slice A1vw (R.2).length c1vw]) _ (HelpSta.tSta.K_of_M Y.out) (HelpSta.tSta.K_below GGw18.out W.out) RB.out.1).mono ?_
  rintro e w19 ⟨rfl, gg⟩
  clear hcgp00 hfgp00 hcgp01 hfgp01 hcgvw0 hfgvw0 hcgvw1 hfgvw1 hcgx00 hfgx00 hcgx01 hfgx01 hcgvg0 hfgvg0 hcgvg1 hfgvg1
  have Gw19 := Aside0.mk (show Grew w w19 from grew_trans (Gw18.out) gg)
  have Ew19 := Aside0.mk gg.size
  have GGw19 := Aside0.mk (show Grew w6 w19 from grew_trans GGw18.out gg)
  replace Y := Aside0.mk (Ty.M_below Y.out gg)
  replace BKp0 := Aside0.mk (blk_below BKp0.out gg)
  replace BKvw := Aside0.mk (blk_below BKvw.out gg)
  replace BKx0 := Aside0.mk (blk_below BKx0.out gg)
  replace BKvg := Aside0.mk (blk_below BKvg.out gg)
  clear gg
  obtain ⟨⟨hcgp00, hfgp00⟩, ⟨hcgp01, hfgp01⟩⟩ := cells2 BKp0.out
  obtain ⟨⟨hcgvw0, hfgvw0⟩, ⟨hcgvw1, hfgvw1⟩⟩ := cells2 BKvw.out
  obtain ⟨⟨hcgx00, hfgx00⟩, ⟨hcgx01, hfgx01⟩⟩ := cells2 BKx0.out
  obtain ⟨⟨hcgvg0, hfgvg0⟩, ⟨hcgvg1, hfgvg1⟩⟩ := cells2 BKvg.out
  go_wp2_with fail
  go_at_call 13
  refine (HelpSta.mark_calls R (.agg #[.slice A0vg (R.1).length c0vg, .slice A1vg (R.2).length c1vg]) _ (1) w6 _ GGw19.out Y.out (by omega) (by omega) RB.out.1).mono ?_
  rintro e w20 ⟨rfl, hm, hb, hkp⟩
  clear hcgp00 hfgp00 hcgp01 hfgp01 hcgvw0 hfgvw0 hcgvw1 hfgvw1 hcgx00 hfgx00 hcgx01 hfgx01 hcgvg0 hfgvg0 hcgvg1 hfgvg1
  have GGw20 := Aside0.mk (show Grew w6 w20 from hb)
  have Gw20 := Aside0.mk (show Grew w w20 from grew_trans Gw6.out hb)
  have Ew20 := Aside0.mk hkp.1
  replace BKp0 := Aside0.mk ((hkp.2 _ (blk_lt BKp0.out) (fun hk => by have a1_ := hk.1; have a2_ := hk.2; have e0_ := Ew1.out; have e1_ := PGp0.out; have e2_ := PLp0.out; have e3_ := Ew2.out; have e4_ := Ew3.out; have e5_ := Ew4.out; have e6_ := Ew5.out; have e7_ := Ew6.out; have e8_ := PGvw.out; have e9_ := PLvw.out; have e10_ := Ew7.out; have e11_ := Ew8.out; have e12_ := PGx0.out; have e13_ := PLx0.out; have e14_ := Ew9.out; have e15_ := Ew10.out; have e16_ := Ew11.out; have e17_ := PGvg.out; have e18_ := PLvg.out; have e19_ := Ew12.out; have e20_ := Ew14.out; have e21_ := Ew15.out; have e22_ := Ew16.out; have e23_ := Ew17.out; have e24_ := Ew18.out; have e25_ := Ew19.out; have e26_ := Ew20.out; omega)).trans BKp0.out)
  replace BKvw := Aside0.mk ((hkp.2 _ (blk_lt BKvw.out) (fun hk => by have a1_ := hk.1; have a2_ := hk.2; have e0_ := Ew1.out; have e1_ := PGp0.out; have e2_ := PLp0.out; have e3_ := Ew2.out; have e4_ := Ew3.out; have e5_ := Ew4.out; have e6_ := Ew5.out; have e7_ := Ew6.out; have e8_ := PGvw.out; have e9_ := PLvw.out; have e10_ := Ew7.out; have e11_ := Ew8.out; have e12_ := PGx0.out; have e13_ := PLx0.out; have e14_ := Ew9.out; have e15_ := Ew10.out; have e16_ := Ew11.out; have e17_ := PGvg.out; have e18_ := PLvg.out; have e19_ := Ew12.out; have e20_ := Ew14.out; have e21_ := Ew15.out; have e22_ := Ew16.out; have e23_ := Ew17.out; have e24_ := Ew18.out; have e25_ := Ew19.out; have e26_ := Ew20.out; omega)).trans BKvw.out)
  replace BKx0 := Aside0.mk ((hkp.2 _ (blk_lt BKx0.out) (fun hk => by have a1_ := hk.1; have a2_ := hk.2; have e0_ := Ew1.out; have e1_ := PGp0.out; have e2_ := PLp0.out; have e3_ := Ew2.out; have e4_ := Ew3.out; have e5_ := Ew4.out; have e6_ := Ew5.out; have e7_ := Ew6.out; have e8_ := PGvw.out; have e9_ := PLvw.out; have e10_ := Ew7.out; have e11_ := Ew8.out; have e12_ := PGx0.out; have e13_ := PLx0.out; have e14_ := Ew9.out; have e15_ := Ew10.out; have e16_ := Ew11.out; have e17_ := PGvg.out; have e18_ := PLvg.out; have e19_ := Ew12.out; have e20_ := Ew14.out; have e21_ := Ew15.out; have e22_ := Ew16.out; have e23_ := Ew17.out; have e24_ := Ew18.out; have e25_ := Ew19.out; have e26_ := Ew20.out; omega)).trans BKx0.out)
  replace BKvg := Aside0.mk ((hkp.2 _ (blk_lt BKvg.out) (fun hk => by have a1_ := hk.1; have a2_ := hk.2; have e0_ := Ew1.out; have e1_ := PGp0.out; have e2_ := PLp0.out; have e3_ := Ew2.out; have e4_ := Ew3.out; have e5_ := Ew4.out; have e6_ := Ew5.out; have e7_ := Ew6.out; have e8_ := PGvw.out; have e9_ := PLvw.out; have e10_ := Ew7.out; have e11_ := Ew8.out; have e12_ := PGx0.out; have e13_ := PLx0.out; have e14_ := Ew9.out; have e15_ := Ew10.out; have e16_ := Ew11.out; have e17_ := PGvg.out; have e18_ := PLvg.out; have e19_ := Ew12.out; have e20_ := Ew14.out; have e21_ := Ew15.out; have e22_ := Ew16.out; have e23_ := Ew17.out; have e24_ := Ew18.out; have e25_ := Ew19.out; have e26_ := Ew20.out; omega)).trans BKvg.out)
  have N_ := Aside0.mk hm
  clear hm hb hkp Y
  have Y := N_
  clear N_
  obtain ⟨⟨hcgp00, hfgp00⟩, ⟨hcgp01, hfgp01⟩⟩ := cells2 BKp0.out
  obtain ⟨⟨hcgvw0, hfgvw0⟩, ⟨hcgvw1, hfgvw1⟩⟩ := cells2 BKvw.out
  obtain ⟨⟨hcgx00, hfgx00⟩, ⟨hcgx01, hfgx01⟩⟩ := cells2 BKx0.out
  obtain ⟨⟨hcgvg0, hfgvg0⟩, ⟨hcgvg1, hfgvg1⟩⟩ := cells2 BKvg.out
  go_wp2_with fail
  go_at_call 15
  refine (HelpSta.held_calls R (.agg #[.slice A0vg (R.1).length c0vg, .slice A1vg (R.2).length c1vg]) 1 _ (HelpSta.tSta.K_of_M Y.out) (by omega) (by omega) RB.out.1).mono ?_
  rintro e w21 ⟨rfl, gg⟩
  clear hcgp00 hfgp00 hcgp01 hfgp01 hcgvw0 hfgvw0 hcgvw1 hfgvw1 hcgx00 hfgx00 hcgx01 hfgx01 hcgvg0 hfgvg0 hcgvg1 hfgvg1
  have Gw21 := Aside0.mk (show Grew w w21 from grew_trans (Gw20.out) gg)
  have Ew21 := Aside0.mk gg.size
  have GGw21 := Aside0.mk (show Grew w6 w21 from grew_trans GGw20.out gg)
  replace Y := Aside0.mk (Ty.M_below Y.out gg)
  replace BKp0 := Aside0.mk (blk_below BKp0.out gg)
  replace BKvw := Aside0.mk (blk_below BKvw.out gg)
  replace BKx0 := Aside0.mk (blk_below BKx0.out gg)
  replace BKvg := Aside0.mk (blk_below BKvg.out gg)
  clear gg
  obtain ⟨⟨hcgp00, hfgp00⟩, ⟨hcgp01, hfgp01⟩⟩ := cells2 BKp0.out
  obtain ⟨⟨hcgvw0, hfgvw0⟩, ⟨hcgvw1, hfgvw1⟩⟩ := cells2 BKvw.out
  obtain ⟨⟨hcgx00, hfgx00⟩, ⟨hcgx01, hfgx01⟩⟩ := cells2 BKx0.out
  obtain ⟨⟨hcgvg0, hfgvg0⟩, ⟨hcgvg1, hfgvg1⟩⟩ := cells2 BKvg.out
  go_wp2_with fail
  go_at_call 8
  refine (HelpSta.to_calls x0 (.agg #[.slice A0p0 (x0.1).length c0p0, .slice A1p0 (x0.2).length c1p0]) _ (HelpSta.tSta.K_below (Gw21.out) K0.out) B0.out).mono ?_
  rintro e w22 ⟨y0, rfl, hy_, gg⟩
  clear hcgp00 hfgp00 hcgp01 hfgp01 hcgvw0 hfgvw0 hcgvw1 hfgvw1 hcgx00 hfgx00 hcgx01 hfgx01 hcgvg0 hfgvg0 hcgvg1 hfgvg1
  have Gw22 := Aside0.mk (show Grew w w22 from grew_trans (Gw21.out) gg)
  have Ew22 := Aside0.mk gg.size
  have GGw22 := Aside0.mk (show Grew w6 w22 from grew_trans GGw21.out gg)
  replace Y := Aside0.mk (Ty.M_below Y.out gg)
  replace BKp0 := Aside0.mk (blk_below BKp0.out gg)
  replace BKvw := Aside0.mk (blk_below BKvw.out gg)
  replace BKx0 := Aside0.mk (blk_below BKx0.out gg)
  replace BKvg := Aside0.mk (blk_below BKvg.out gg)
  have D0 := Aside0.mk hy_
  clear hy_
  clear gg
  obtain ⟨⟨hcgp00, hfgp00⟩, ⟨hcgp01, hfgp01⟩⟩ := cells2 BKp0.out
  obtain ⟨⟨hcgvw0, hfgvw0⟩, ⟨hcgvw1, hfgvw1⟩⟩ := cells2 BKvw.out
  obtain ⟨⟨hcgx00, hfgx00⟩, ⟨hcgx01, hfgx01⟩⟩ := cells2 BKx0.out
  obtain ⟨⟨hcgvg0, hfgvg0⟩, ⟨hcgvg1, hfgvg1⟩⟩ := cells2 BKvg.out
  go_wp2_with fail
  go_at_call 9
  refine (HelpB.to_calls x1 (.slice A1 x1.length c1) _ (HelpB.tB.K_below (Gw22.out) K1.out) B1.out).mono ?_
  rintro e w23 ⟨y1, rfl, hy_, gg⟩
  clear hcgp00 hfgp00 hcgp01 hfgp01 hcgvw0 hfgvw0 hcgvw1 hfgvw1 hcgx00 hfgx00 hcgx01 hfgx01 hcgvg0 hfgvg0 hcgvg1 hfgvg1
  have Gw23 := Aside0.mk (show Grew w w23 from grew_trans (Gw22.out) gg)
  have Ew23 := Aside0.mk gg.size
  have GGw23 := Aside0.mk (show Grew w6 w23 from grew_trans GGw22.out gg)
  replace Y := Aside0.mk (Ty.M_below Y.out gg)
  replace D0 := Aside0.mk (Ty.M_below D0.out gg)
  replace BKp0 := Aside0.mk (blk_below BKp0.out gg)
  replace BKvw := Aside0.mk (blk_below BKvw.out gg)
  replace BKx0 := Aside0.mk (blk_below BKx0.out gg)
  replace BKvg := Aside0.mk (blk_below BKvg.out gg)
  have D1 := Aside0.mk hy_
  clear hy_
  clear gg
  obtain ⟨⟨hcgp00, hfgp00⟩, ⟨hcgp01, hfgp01⟩⟩ := cells2 BKp0.out
  obtain ⟨⟨hcgvw0, hfgvw0⟩, ⟨hcgvw1, hfgvw1⟩⟩ := cells2 BKvw.out
  obtain ⟨⟨hcgx00, hfgx00⟩, ⟨hcgx01, hfgx01⟩⟩ := cells2 BKx0.out
  obtain ⟨⟨hcgvg0, hfgvg0⟩, ⟨hcgvg1, hfgvg1⟩⟩ := cells2 BKvg.out
  go_wp2_with fail
  go_at_call 10
  refine (implC x0 x1 y0 y1 _ (HelpSta.tSta.K_of_M D0.out) (HelpB.tB.K_of_M D1.out) S0.out S1.out Ay0.out Ay1.out Ay2.out).mono ?_
  rintro e w24 ⟨h, rfl, hm, gg⟩
  clear hcgp00 hfgp00 hcgp01 hfgp01 hcgvw0 hfgvw0 hcgvw1 hfgvw1 hcgx00 hfgx00 hcgx01 hfgx01 hcgvg0 hfgvg0 hcgvg1 hfgvg1
  have Gw24 := Aside0.mk (show Grew w w24 from grew_trans (Gw23.out) gg)
  have Ew24 := Aside0.mk gg.size
  have GGw24 := Aside0.mk (show Grew w6 w24 from grew_trans GGw23.out gg)
  replace Y := Aside0.mk (Ty.M_below Y.out gg)
  replace D0 := Aside0.mk (Ty.M_below D0.out gg)
  replace D1 := Aside0.mk (Ty.M_below D1.out gg)
  replace BKp0 := Aside0.mk (blk_below BKp0.out gg)
  replace BKvw := Aside0.mk (blk_below BKvw.out gg)
  replace BKx0 := Aside0.mk (blk_below BKx0.out gg)
  replace BKvg := Aside0.mk (blk_below BKvg.out gg)
  rw [HCO.out]
  rw [HR.out] at hm
  have H := Aside0.mk hm
  clear hm
  clear gg
  clear D0
  clear D1
  obtain ⟨A0vh, c0vh, A1vh, c1vh, es_⟩ := HelpSta.form (HelpSta.tSta.K_of_M H.out)
  subst es_
  obtain ⟨⟨hcgp00, hfgp00⟩, ⟨hcgp01, hfgp01⟩⟩ := cells2 BKp0.out
  obtain ⟨⟨hcgvw0, hfgvw0⟩, ⟨hcgvw1, hfgvw1⟩⟩ := cells2 BKvw.out
  obtain ⟨⟨hcgx00, hfgx00⟩, ⟨hcgx01, hfgx01⟩⟩ := cells2 BKx0.out
  obtain ⟨⟨hcgvg0, hfgvg0⟩, ⟨hcgvg1, hfgvg1⟩⟩ := cells2 BKvg.out
  obtain ⟨⟨hdgp00, hegp00⟩, ⟨hdgp01, hegp01⟩⟩ := cells2 (blk_alloc BKp0.out (.cells #[.slice A0vh (R.1).length c0vh, .slice A1vh (R.2).length c1vh] 27 (0, 0)))
  obtain ⟨⟨hdgvw0, hegvw0⟩, ⟨hdgvw1, hegvw1⟩⟩ := cells2 (blk_alloc BKvw.out (.cells #[.slice A0vh (R.1).length c0vh, .slice A1vh (R.2).length c1vh] 27 (0, 0)))
  obtain ⟨⟨hdgx00, hegx00⟩, ⟨hdgx01, hegx01⟩⟩ := cells2 (blk_alloc BKx0.out (.cells #[.slice A0vh (R.1).length c0vh, .slice A1vh (R.2).length c1vh] 27 (0, 0)))
  obtain ⟨⟨hdgvg0, hegvg0⟩, ⟨hdgvg1, hegvg1⟩⟩ := cells2 (blk_alloc BKvg.out (.cells #[.slice A0vh (R.1).length c0vh, .slice A1vh (R.2).length c1vh] 27 (0, 0)))
  go_wp2_with fail
  obtain ⟨gvh, hgb⟩ : ∃ g_, g_ = w24.heap.size := ⟨_, rfl⟩
  obtain ⟨w25, hW_⟩ : ∃ w_, w_ = w24.alloc (.cells #[.slice A0vh (R.1).length c0vh, .slice A1vh (R.2).length c1vh] 27 (0, 0)) := ⟨_, rfl⟩
  rw [← hW_, ← hgb]
  have BKvh := Aside0.mk (show w25.heap[gvh]? = some (.cells #[.slice A0vh (R.1).length c0vh, .slice A1vh (R.2).length c1vh] 27 (0, 0)) from by rw [hW_, hgb]; exact blk_new w24 _)
  have gg : Grew w24 w25 := by rw [hW_]; exact below_alloc (Below.refl _ _) _
  have PGvh := Aside0.mk (show w24.heap.size ≤ gvh from Nat.le_of_eq hgb.symm)
  have PLvh := Aside0.mk (blk_lt BKvh.out)
  clear hW_ hgb
  clear hcgp00 hfgp00 hcgp01 hfgp01 hcgvw0 hfgvw0 hcgvw1 hfgvw1 hcgx00 hfgx00 hcgx01 hfgx01 hcgvg0 hfgvg0 hcgvg1 hfgvg1 hdgp00 hegp00 hdgp01 hegp01 hdgvw0 hegvw0 hdgvw1 hegvw1 hdgx00 hegx00 hdgx01 hegx01 hdgvg0 hegvg0 hdgvg1 hegvg1
  have Gw25 := Aside0.mk (show Grew w w25 from grew_trans (Gw24.out) gg)
  have Ew25 := Aside0.mk gg.size
  have GGw25 := Aside0.mk (show Grew w6 w25 from grew_trans GGw24.out gg)
  replace Y := Aside0.mk (Ty.M_below Y.out gg)
  replace H := Aside0.mk (Ty.M_below H.out gg)
  replace BKp0 := Aside0.mk (blk_below BKp0.out gg)
  replace BKvw := Aside0.mk (blk_below BKvw.out gg)
  replace BKx0 := Aside0.mk (blk_below BKx0.out gg)
  replace BKvg := Aside0.mk (blk_below BKvg.out gg)
  clear gg
  go_at_call 11
  refine (HelpSta.eq_calls R (.agg #[.slice A0vh (R.1).length c0vh, .slice A1vh (R.2).length c1vh]) (.agg #[.slice A0vw (R.1).length c0vw, .slice A1vw (R.2).length c1vw]) _ (HelpSta.tSta.K_of_M H.out) (HelpSta.tSta.K_below GGw25.out W.out) RB.out.1).mono ?_
  rintro e w26 ⟨rfl, gg⟩
  have Gw26 := Aside0.mk (show Grew w w26 from grew_trans (Gw25.out) gg)
  have Ew26 := Aside0.mk gg.size
  have GGw26 := Aside0.mk (show Grew w6 w26 from grew_trans GGw25.out gg)
  replace Y := Aside0.mk (Ty.M_below Y.out gg)
  replace H := Aside0.mk (Ty.M_below H.out gg)
  replace BKp0 := Aside0.mk (blk_below BKp0.out gg)
  replace BKvw := Aside0.mk (blk_below BKvw.out gg)
  replace BKx0 := Aside0.mk (blk_below BKx0.out gg)
  replace BKvg := Aside0.mk (blk_below BKvg.out gg)
  replace BKvh := Aside0.mk (blk_below BKvh.out gg)
  clear gg
  obtain ⟨⟨hcgp00, hfgp00⟩, ⟨hcgp01, hfgp01⟩⟩ := cells2 BKp0.out
  obtain ⟨⟨hcgvw0, hfgvw0⟩, ⟨hcgvw1, hfgvw1⟩⟩ := cells2 BKvw.out
  obtain ⟨⟨hcgx00, hfgx00⟩, ⟨hcgx01, hfgx01⟩⟩ := cells2 BKx0.out
  obtain ⟨⟨hcgvg0, hfgvg0⟩, ⟨hcgvg1, hfgvg1⟩⟩ := cells2 BKvg.out
  obtain ⟨⟨hcgvh0, hfgvh0⟩, ⟨hcgvh1, hfgvh1⟩⟩ := cells2 BKvh.out
  go_wp2_with fail
  go_at_call 15
  refine (HelpSta.held_calls R (.agg #[.slice A0vg (R.1).length c0vg, .slice A1vg (R.2).length c1vg]) 1 _ (HelpSta.tSta.K_of_M Y.out) (by omega) (by omega) RB.out.1).mono ?_
  rintro e w27 ⟨rfl, gg⟩
  clear hcgp00 hfgp00 hcgp01 hfgp01 hcgvw0 hfgvw0 hcgvw1 hfgvw1 hcgx00 hfgx00 hcgx01 hfgx01 hcgvg0 hfgvg0 hcgvg1 hfgvg1 hcgvh0 hfgvh0 hcgvh1 hfgvh1
  have Gw27 := Aside0.mk (show Grew w w27 from grew_trans (Gw26.out) gg)
  have Ew27 := Aside0.mk gg.size
  have GGw27 := Aside0.mk (show Grew w6 w27 from grew_trans GGw26.out gg)
  replace Y := Aside0.mk (Ty.M_below Y.out gg)
  replace H := Aside0.mk (Ty.M_below H.out gg)
  replace BKp0 := Aside0.mk (blk_below BKp0.out gg)
  replace BKvw := Aside0.mk (blk_below BKvw.out gg)
  replace BKx0 := Aside0.mk (blk_below BKx0.out gg)
  replace BKvg := Aside0.mk (blk_below BKvg.out gg)
  replace BKvh := Aside0.mk (blk_below BKvh.out gg)
  clear gg
  obtain ⟨⟨hcgp00, hfgp00⟩, ⟨hcgp01, hfgp01⟩⟩ := cells2 BKp0.out
  obtain ⟨⟨hcgvw0, hfgvw0⟩, ⟨hcgvw1, hfgvw1⟩⟩ := cells2 BKvw.out
  obtain ⟨⟨hcgx00, hfgx00⟩, ⟨hcgx01, hfgx01⟩⟩ := cells2 BKx0.out
  obtain ⟨⟨hcgvg0, hfgvg0⟩, ⟨hcgvg1, hfgvg1⟩⟩ := cells2 BKvg.out
  obtain ⟨⟨hcgvh0, hfgvh0⟩, ⟨hcgvh1, hfgvh1⟩⟩ := cells2 BKvh.out
  go_wp2
  go_ret
  exact ⟨rfl, Gw27.out⟩
end Go.Proofs.YtmgmdnmfalepkaaGreat.LawIng
