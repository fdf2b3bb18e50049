/- Parts of the proof (see the row's own text): SegS, StoC, Seal, SealS. -/
import Derived.Test.YtmgmdnmfalepkaaG15
import Derived.Test.YtmgmdnmfalepkaaG17
import Derived.Deep.RegionHeld3
import Derived.Test.YtmgmdnmfalepkaaG8
import Derived.Deep.DeepCutAuto
namespace Go.Proofs.Ytmgmdnmfalepkaa.SegS
open Go.RowKit Go.Proofs.YtmgmdnmfalepkaaW.PrintWords Go.Proofs.YtmgmdnmfalepkaaW.PrintMore Go.Proofs.Ytmgmdnmfalepkaa.Kit Go.Proofs.Ytmgmdnmfalepkaa.PKit Go.Proofs.Ytmgmdnmfalepkaa.Ty Go.Proofs.Ytmgmdnmfalepkaa.PSeg Go.Proofs.Ytmgmdnmfalepkaa.PEnc Go.Proofs.Ytmgmdnmfalepkaa.PDec Go.Proofs.Ytmgmdnmfalepkaa.PSta Go.Proofs.Ytmgmdnmfalepkaa.HelpBB Go.Proofs.Ytmgmdnmfalepkaa.HelpSeg
open Go.Proofs.Ytmgmdnmfalepkaa.Build hiding code ans
open Go.Proofs.Ytmgmdnmfalepkaa.Sto Go.Proofs.Ytmgmdnmfalepkaa.Far
set_option linter.unusedVariables false
set_option linter.unusedSimpArgs false
theorem flat_snoc (ss : List SegT) (i : Nat) (hi : i < ss.length) : flatS (ss.take (i + 1)) = flatS (ss.take i) ++ (ss.getD i zS).2.1 := by
  rw [seg_snoc ss i hi]
  simp [flatS]
set_option maxRecDepth 100000 in
set_option maxHeartbeats 4000000 in
theorem flat_calls (Av : Option Addr) (cv n : Nat) (ss : List SegT) (hn : n = ss.length) (w : World) (hs : Kd.C kSeg w Av ss.length ss) (hl : nlin ss ≤ 1048576) :
    Calls Try.prog 112 #[.slice Av n cv] w fun e w' => ∃ (A9 : Option Addr) (c9 : Nat), e = .returned (.slice A9 (nlin ss) c9) ∧ (far kB w).R 33 w' w.heap.size (fun _ => True) (.slice A9 (nlin ss) c9) (flatS ss) ∧ Grew w w' := by
  subst hn
  have hL := hs.2.1
  have HS := Aside0.mk hs
  clear hs
  go_enter Try.func112, Try.ntmps112
  go_wp2
  go_loopg [3, 4] ss.length (fun gg s3 s4 wr => ∃ (i : Nat) (A9 : Option Addr) (c9 : Nat), i ≤ ss.length ∧ ss.length - i ≤ gg ∧ s4 = .int .i64 (i : Int) ∧ s3 = .slice A9 (nlin (ss.take i)) c9 ∧ Aside0 ((far kB w).R 33 wr w.heap.size (fun _ => True) (.slice A9 (nlin (ss.take i)) c9) (flatS (ss.take i))) ∧ Aside0 (Below w.heap.size w wr))
  case atStart => exact ⟨0, none, 0, by omega, by omega, rfl, rfl, ⟨Kd.R_nil _ _ _ _ _⟩, ⟨Below.refl _ _⟩⟩
  case round =>
    obtain ⟨i, A9, c9, hi, hg, rfl, rfl, HR, HB⟩ := hrel
    by_cases hlt : i < ss.length
    · have hltz : (i : Int) < (ss.length : Int) := by omega
      obtain ⟨ad, A1, c1, A2, c2, A3, c3, rfl, hcc, hT⟩ := at_seg HS.out i hlt
      obtain ⟨hc0, hc1, hc2, hc3⟩ := cells_later HB.out hcc
      obtain ⟨⟨B1, d1, e1, l1, k1⟩, _, _⟩ := Decode.seg_parts (b := (ss.getD i zS).1) (ls := (ss.getD i zS).2.1) (K := (ss.getD i zS).2.2.1) (Ps := (ss.getD i zS).2.2.2) hT
      obtain ⟨rfl, rfl⟩ : A1 = B1 ∧ c1 = d1 := by injection e1 with x1 x2 x3; exact ⟨x1, x3⟩
      have HK1 := Aside0.mk k1
      have hsn := nlin_append (ss.take i) [ss.getD i zS]
      rw [← seg_snoc ss i hlt, nlin_one] at hsn
      have hlt2 := nlin_take ss (i + 1)
      have HSN := Aside0.mk hsn
      have HFS := Aside0.mk (flat_snoc ss i hlt)
      have HFL := Aside0.mk (flat_len (ss.take i))
      have hb1 : nlin (ss.take i) ≤ 1048576 := by omega
      have hb2 : nlin (ss.take i) + (ss.getD i zS).2.1.length ≤ 1048576 := by omega
      clear hcc hT hsn hlt2 e1 l1 k1
      generalize ss.getD i zS = s at hc0 hc1 hc2 hc3 HSN hb2 HK1 HFS
      go_wp2_with (at_builtin; refine Kd.R_append_rows (far kB w) (Rr := kB.K w) (w0 := w) w.heap.size rfl (.tmp 11) (.tmp 16) 41 33 (.slice none 0 0) 24 rfl Try.underlying41 infoBB rfl Nat.zero_lt_one (by omega) (.slice A9 (nlin (ss.take i)) c9) (flatS (ss.take i)) s.2.1 A1 s.2.1.length c1 (fun _ => True) (fun _ => False) rfl rfl HR.out (far_reads HK1.out HB.out) (fun _ _ h => h) (fun _ h => h.elim) (fun _ _ => trivial) HB.out HB.out.size (by rw [HFL.out]; omega) ?_; intro v1 w1 hR1 hB1 hg1 hat1; obtain ⟨E9, f9, e9⟩ := Kd.R_slice hR1; rw [List.length_append, HFL.out, ← HSN.out] at e9; subst e9; have HR1 := Aside0.mk hR1; have HB1 := Aside0.mk hB1; clear hR1 hB1 hg1 hat1)
      go_roundg (ss.length - (i + 1))
      case measure => omega
      case rel => exact ⟨i + 1, E9, f9, by omega, by omega, by go_num, rfl, ⟨by rw [HFS.out]; exact HR1.out⟩, HB1⟩
    · have hltz : ¬ (i : Int) < (ss.length : Int) := by omega
      obtain rfl : i = ss.length := by omega
      rw [List.take_length] at HR ⊢
      go_wp2
      go_ret
      exact ⟨A9, c9, rfl, HR.out, HB.out⟩
theorem copy_spec (A : Option Addr) (n c : Nat) (ls : List (List Int)) (hn : n = ls.length) (w : World) (hr : Kd.C kB w A ls.length ls) (hc : ls.length ≤ c) (hs : smallBB ls) :
    Calls Try.prog 134 #[.slice A n c] w fun e w' => ∃ (E : Option Addr) (f : Nat), e = .returned (.slice E n f) ∧ Kd.S kB 33 w' w.heap.size (fun _ => True) (.slice E n f) ls ∧ Below w.heap.size w w' := by
  subst hn
  obtain ⟨k, hk⟩ := (copy_ev ls hs).rounds
  refine (L.spec_l4copy.calls k A c ls _ w hr hc hk).mono ?_
  rintro e w' ⟨v, rfl, hS, hb⟩
  obtain ⟨E, f, rfl⟩ := Kd.S_slice hS
  exact ⟨E, f, rfl, hS, hb⟩
set_option maxRecDepth 100000 in
set_option maxHeartbeats 4000000 in
theorem copy2_calls (x : StaT) (A0 A1 : Option Addr) (c0 c1 : Nat) (w : World) (h0 : Kd.C kB w A0 x.1.length x.1) (l0 : x.1.length ≤ c0) (h1 : Kd.C kB w A1 x.2.length x.2) (l1 : x.2.length ≤ c1) (s0 : smallBB x.1) (s1 : smallBB x.2) :
    Calls Try.prog 111 #[.agg #[.slice A0 x.1.length c0, .slice A1 x.2.length c1]] w fun e w' => ∃ (E0 : Option Addr) (e0 : Nat) (E1 : Option Addr) (e1 N : Nat), e = .returned (.agg #[.slice E0 x.1.length e0, .slice E1 x.2.length e1]) ∧ Kd.S kB 33 w' w.heap.size (fun k => k < N) (.slice E0 x.1.length e0) x.1 ∧ Kd.S kB 33 w' w.heap.size (fun k => N ≤ k) (.slice E1 x.2.length e1) x.2 ∧ w.heap.size ≤ N ∧ N ≤ w'.heap.size ∧ Grew w w' := by
  have huT := Try.underlying73
  have HC0 := Aside0.mk (fun (W : World) (hW : Below w.heap.size w W) => copy_spec A0 x.1.length c0 x.1 rfl W (Kd.C_below h0 hW) l0 s0)
  have HC1 := Aside0.mk (fun (W : World) (hW : Below w.heap.size w W) => copy_spec A1 x.2.length c1 x.2 rfl W (Kd.C_below h1 hW) l1 s1)
  have m1 := h0.2.1
  have m2 := h1.2.1
  clear h0 h1 s0 s1
  go_enter Try.func111, Try.ntmps111
  go_wp2_with (first | ((with_reducible refine gate_dst (N := 1) rfl ?_); refine box_event ?hg (N := 1) ?hd (cs := #[.slice A0 x.1.length c0, .slice A1 x.2.length c1]) (t := 73) ?hr ?_; (case hd => rfl); (case hg => rfl); (case hr => first | (go_simp; done) | (go_simp; rfl)); intro gx hg_ w1 hbx hbb; have BKgx := Aside0.mk hbx; have GEgx := Aside0.mk (show w.heap.size ≤ gx from Nat.le_of_eq hg_.symm); have GLgx := Aside0.mk (blk_lt hbx); have HBw1 := Aside0.mk hbb; clear hg_ hbb; obtain ⟨⟨hgxc0, hgxf0⟩, ⟨hgxc1, hgxf1⟩⟩ := cells2 hbx; clear hbx) | ((with_reducible refine gate_dst (N := 2) rfl ?_); refine box_event ?hg (N := 2) ?hd (cs := #[.slice none 0 0, .slice none 0 0]) (t := 73) ?hr ?_; (case hd => rfl); (case hg => rfl); (case hr => first | (go_simp; done) | (go_simp; rfl)); intro gr hg_ w2 hbx hbb; have BKgr := Aside0.mk hbx; have GEgr := Aside0.mk (show w1.heap.size ≤ gr from Nat.le_of_eq hg_.symm); have GLgr := Aside0.mk (blk_lt hbx); have HBw2 := Aside0.mk hbb; clear hg_ hbb; obtain ⟨⟨hgrc0, hgrf0⟩, ⟨hgrc1, hgrf1⟩⟩ := cells2 hbx; clear hbx; have BKp_ := Aside0.mk (blk_below BKgx.out HBw2.out); clear BKgx hgxc0 hgxf0 hgxc1 hgxf1; have BKgx := BKp_; clear BKp_; obtain ⟨⟨pc0, pf0⟩, ⟨pc1, pf1⟩⟩ := cells2 BKgx.out))
  have HB2 := Aside0.mk (show Below w.heap.size w w2 from grew_trans HBw1.out HBw2.out)
  have GER := Aside0.mk (show w.heap.size ≤ gr from Nat.le_trans HBw1.out.size GEgr.out)
  have HKP := Aside0.mk (show ∀ W : World, W.heap[gx]? = some (.cells #[.slice A0 x.1.length c0, .slice A1 x.2.length c1] 73 (0, 0)) → (W.cell? ⟨gx, 0, none⟩ = some (.slice A0 x.1.length c0) ∧ W.cell? ⟨gx, 1, none⟩ = some (.slice A1 x.2.length c1)) from fun W hW => ⟨(blk_cell hW 0).trans rfl, (blk_cell hW 1).trans rfl⟩)
  have NEX := Aside0.mk (show gx ≠ gr from fun e => by have h1 := GLgx.out; have h2 := GEgr.out; omega)
  have GLR := Aside0.mk (blk_lt BKgr.out)
  go_region_held3 (fun W_ => W_.cell? ⟨gx, 0, none⟩ = some (.slice A0 x.1.length c0) ∧ W_.cell? ⟨gx, 1, none⟩ = some (.slice A1 x.2.length c1)) ((refine HKP.out _ ?_; repeat (with_reducible first | exact BX4.out | exact BX3.out | exact BKgx.out | refine blk_alloc ?_ _ | refine blk_drew ?_ | refine blk_drewN ?_ _ | refine blk_far ?_ NEX.out _))) (first | (go_at_call 134; (with_reducible refine (HC0.out _ ?h).mono ?_); (case h => exact grew_trans HB2.out (by repeat (first | exact Below.refl _ _ | apply below_alloc | apply below_drew1 | apply pw_below_drewN))); rintro e w3 ⟨E0, e0, rfl, hS3, hb_⟩; have HB3 := Aside0.mk (show Below w2.heap.size w2 w3 from grew_trans (by repeat (first | exact Below.refl _ _ | apply below_alloc | apply below_drew1 | apply pw_below_drewN)) hb_); have HS3 := Aside0.mk (show Kd.S kB 33 w3 w2.heap.size (fun _ => True) (.slice E0 x.1.length e0) x.1 from Kd.S_lower hS3 (below_size (by repeat (first | exact Below.refl _ _ | apply below_alloc | apply below_drew1 | apply pw_below_drewN)))); have BX3 := Aside0.mk (blk_below BKgx.out HB3.out); clear hb_ hS3) | (go_at_call 134; (with_reducible refine (HC1.out _ ?h).mono ?_); (case h => exact grew_trans HB2.out (grew_trans HB3.out (by repeat (first | exact Below.refl _ _ | apply below_alloc | apply below_drew1 | apply pw_below_drewN)))); rintro e w4 ⟨E1, e1, rfl, hS4, hb_⟩; have HB34 := Aside0.mk (show Below w3.heap.size w3 w4 from grew_trans (by repeat (first | exact Below.refl _ _ | apply below_alloc | apply below_drew1 | apply pw_below_drewN)) hb_); have HB4 := Aside0.mk (show Below w2.heap.size w2 w4 from grew_trans HB3.out HB34.out); have HS4 := Aside0.mk (show Kd.S kB 33 w4 w3.heap.size (fun _ => True) (.slice E1 x.2.length e1) x.2 from Kd.S_lower hS4 (below_size (by repeat (first | exact Below.refl _ _ | apply below_alloc | apply below_drew1 | apply pw_below_drewN)))); have BK4 := Aside0.mk (blk_below BKgr.out HB4.out); have BX4 := Aside0.mk (blk_below BKgx.out HB4.out); obtain ⟨⟨t0, tf0⟩, ⟨t1, tf1⟩⟩ := cells2 BK4.out; clear hb_ hS4))
  go_wp2
  refine bodyPost_ret (results_cell_row rfl _ _ gr 73 #[.slice E0 x.1.length e0, .slice E1 x.2.length e1] (0, 0) _ rfl (by (with_reducible repeat (first | refine blk_drewN ?_ _ | refine blk_drew ?_ | refine blk_alloc ?_ _)); refine blk_put (cs := #[.slice E0 x.1.length e0, .slice none 0 0]) ?_ 1 _ rfl; (with_reducible repeat (first | refine blk_drewN ?_ _ | refine blk_drew ?_ | refine blk_alloc ?_ _)); refine blk_put (cs := #[.slice none 0 0, .slice none 0 0]) ?_ 0 _ rfl; (with_reducible repeat (first | refine blk_drewN ?_ _ | refine blk_drew ?_ | refine blk_alloc ?_ _)); exact BK4.out) Try.underlying73 rfl (by kernel_rfl)) rfl ?_
  refine ⟨E0, e0, E1, e1, w3.heap.size, rfl, ?_, ?_, ?_, ?_, below_set (below_set ((grew_trans HB2.out HB4.out)) GER.out) GER.out⟩
  · exact HelpBB.tBB.M_mono (fun k hk => hk.2.2) (HelpBB.tBB.M_lower HB2.out.size ((Ty.M_set (T := HelpBB.tBB) (Ty.M_set (T := HelpBB.tBB) (Ty.M_below (T := HelpBB.tBB) (HelpBB.tBB.M_bound HS3.out) HB34.out) (fun k hk e => by have h1 := hk.2.1; have h2 := GLR.out; omega) _) (fun k hk e => by have h1 := hk.2.1; have h2 := GLR.out; omega) _)))
  · exact HelpBB.tBB.M_mono (fun k hk => hk.2.1) (HelpBB.tBB.M_lower (Nat.le_trans HB2.out.size HB3.out.size) ((Ty.M_set (T := HelpBB.tBB) (Ty.M_set (T := HelpBB.tBB) (HelpBB.tBB.M_bound HS4.out) (fun k hk e => by have h1 := hk.2.1; have h2 := GLR.out; have h3 := HB3.out.size; omega) _) (fun k hk e => by have h1 := hk.2.1; have h2 := GLR.out; have h3 := HB3.out.size; omega) _)))
  · exact Nat.le_trans HB2.out.size HB3.out.size
  · have h1 := HB34.out.size
    simp [World.setCell]
    omega
theorem bytes_spec (A : Option Addr) (n c : Nat) (ls : List (List Int)) (hn : n = ls.length) (w : World) (hr : Kd.C kB w A ls.length ls) (hc : ls.length ≤ c) (hs : smallBB ls) :
    Calls Try.prog 107 #[.slice A n c] w fun e w' => e = .returned (.int .i64 (totalB ls : Int)) ∧ Below w.heap.size w w' := by
  subst hn
  obtain ⟨k, hk⟩ := (bytes_ev ls hs).rounds
  refine (L.spec_l4bytes.calls k A c ls _ w hr hc hk).mono ?_
  rintro e w' ⟨rfl, hd⟩
  exact ⟨rfl, below_of_drawn hd⟩
theorem plain_spec (A : Option Addr) (n c : Nat) (ls : List (List Int)) (hn : n = ls.length) (w : World) (hr : Kd.C kB w A ls.length ls) (hc : ls.length ≤ c) (hs : smallBB ls) :
    Calls Try.prog 133 #[.slice A n c] w fun e w' => e = .returned (.bool (plain ls)) ∧ Below w.heap.size w w' := by
  subst hn
  obtain ⟨k, hk⟩ := (plain_ev ls hs).rounds
  refine (L.spec_l4plain.calls k A c ls _ w hr hc hk).mono ?_
  rintro e w' ⟨rfl, hd⟩
  exact ⟨rfl, below_of_drawn hd⟩
def GotS (w' : World) (st : StaT) (e : Ending) : Prop := match segsOf st with
  | none => e = .returned (.tuple #[.slice none 0 0, .bool false])
  | some ss => ∃ (Av : Option Addr) (cv : Nat), e = .returned (.tuple #[.slice Av ss.length cv, .bool true]) ∧ Kd.C kSeg w' Av ss.length ss
theorem gotS_none {w' : World} {st : StaT} {e : Ending} (h : segsOf st = none) (he : e = .returned (.tuple #[.slice none 0 0, .bool false])) : GotS w' st e := by
  unfold GotS; rw [h]; exact he
set_option maxRecDepth 100000 in
set_option maxHeartbeats 8000000 in
theorem segs_calls (st : StaT) (A0 A1 : Option Addr) (c0 c1 : Nat) (w : World) (h0 : Kd.C kB w A0 st.1.length st.1) (l0 : st.1.length ≤ c0) (h1 : Kd.C kB w A1 st.2.length st.2) (l1 : st.2.length ≤ c1) (hb0 : Bytes st.1) (s0 : smallBB st.1) (s1 : smallBB st.2) :
    Calls Try.prog 110 #[.agg #[.slice A0 st.1.length c0, .slice A1 st.2.length c1]] w fun e w' => GotS w' st e ∧ Grew w w' := by
  have huI := Try.underlying50
  have huT := Try.underlying73
  have q0 : st.1.length + totalB st.1 ≤ 1048576 := s0
  have q1 : st.2.length + totalB st.2 ≤ 1048576 := s1
  have H0 := Aside0.mk h0
  have HY0 := Aside0.mk hb0
  have HTT := Aside0.mk (fun (W : World) (hW : Below w.heap.size w W) => bytes_spec A1 st.2.length c1 st.2 rfl W (Kd.C_below h1 hW) l1 s1)
  have HPL := Aside0.mk (fun (W : World) (hW : Below w.heap.size w W) => plain_spec A1 st.2.length c1 st.2 rfl W (Kd.C_below h1 hW) l1 s1)
  have m1 := h1.2.1
  clear h0 h1 hb0 s0 s1
  go_enter Try.func110, Try.ntmps110
  go_wp2_with (((with_reducible refine gate_dst (N := 1) rfl ?_); refine box_event ?hg (N := 1) ?hd (cs := #[.slice A0 st.1.length c0, .slice A1 st.2.length c1]) (t := 73) ?hr ?_; (case hd => rfl); (case hg => rfl); (case hr => first | (go_simp; done) | (go_simp; rfl)); intro gp hg_ w1 hbx hbb; have BKgp := Aside0.mk hbx; have GEgp := Aside0.mk (show w.heap.size ≤ gp from Nat.le_of_eq hg_.symm); have GLgp := Aside0.mk (blk_lt hbx); have HBw1 := Aside0.mk hbb; clear hg_ hbb; obtain ⟨⟨hgpc0, hgpf0⟩, ⟨hgpc1, hgpf1⟩⟩ := cells2 hbx; clear hbx))
  go_at_call 107
  refine (HTT.out _ HBw1.out).mono ?_
  rintro e w2 ⟨rfl, hb2⟩
  have HB2 := Aside0.mk hb2
  clear hb2 hgpc0 hgpf0 hgpc1 hgpf1
  go_wp2_with fail
  go_loopg [4, 5, 6, 7] st.1.length (fun gg s4 s5 s6 s7 wr => ∃ (i : Nat) (acc : List SegT) (Ap : Option Addr) (cp : Nat), i ≤ st.1.length ∧ st.1.length - i ≤ gg ∧ s7 = .int .i64 (i : Int) ∧ s5 = .int .i64 ((nlin acc : Nat) : Int) ∧ s6 = .int .i64 (((tots acc : Nat) : Int) + (totalB st.2 : Int)) ∧ s4 = .slice Ap i cp ∧ Aside0 (Chain 0 acc (st.1.take i)) ∧ Aside0 (Kd.R kSeg 50 wr w1.heap.size (fun _ => True) (.slice Ap i cp) acc) ∧ Aside0 (Below w1.heap.size w1 wr))
  case atStart => exact ⟨0, [], none, 0, by omega, by omega, rfl, rfl, by simp [tots], rfl, ⟨.nil 0⟩, ⟨Kd.R_nil _ _ _ _ _⟩, HB2⟩
  case round =>
    obtain ⟨i, acc, Ap, cp, hi, hgg, rfl, rfl, rfl, rfl, HC, HR, HB⟩ := hrel
    obtain ⟨n1, n2, n3⟩ := chain_len0 HC.out
    have n4 : acc.length = i := by have h := chain_len HC.out; rw [List.length_take] at h; omega
    have HN4 := Aside0.mk n4
    have BP := Aside0.mk (blk_below BKgp.out HB.out)
    obtain ⟨⟨p0, p0f⟩, ⟨p1, p1f⟩⟩ := cells2 BP.out
    have HWR := Aside0.mk (show Below w.heap.size w wr from grew_trans HBw1.out HB.out)
    clear n4
    by_cases hlt : i < st.1.length
    · have hltz : (i : Int) < (st.1.length : Int) := by omega
      obtain ⟨ad, u, rfl, hcell0, hK⟩ := get_one (d := kB) rfl H0.out [] i hlt
      obtain ⟨A', c', e', hc', hr'⟩ := hK
      obtain rfl : u = .slice A' (st.1.getD i []).length c' := by injection e'
      have hcell : wr.cell? (ad.add i) = some (.slice A' (st.1.getD i []).length c') := (HWR.out.cell (World.block_lt_of_cell? w _ hcell0)).trans hcell0
      have hgl := getD_len st.1 i
      have HBY := Aside0.mk (getD_bytes HY0.out i)
      have HDE := Aside0.mk (fun (W : World) (hW : Below w.heap.size w W) => decS_calls A' c' (st.1.getD i []) W (Kd.C_below hr' hW) hc' HBY.out (by omega))
      have HST := Aside0.mk (fun h => segs_stop (st := st) HC.out hlt h)
      have HNX := Aside0.mk (fun h0 h1 => segs_next (st := st) HC.out hlt h0 h1)
      clear e' hr' hcell0 hgl
      generalize st.1.getD i [] = b at hcell hc' HDE HST HNX HBY
      go_wp2_with fail
      go_at_call 44
      refine (HDE.out _ HWR.out).mono ?_
      rintro e w5 ⟨B1, d1, B2, d2, B3, d3, rfl, hM5, hb5⟩
      have HFS := Aside0.mk (fun h => (dec_at (b := b) h).2.1)
      have HM5 := Aside0.mk hM5
      have HB5 := Aside0.mk hb5
      clear hM5 hb5
      generalize (dec b).1 = s at HM5 HST HNX HFS
      generalize (dec b).2 = cd at HST HNX HFS
      obtain ⟨⟨x0, x0f⟩, ⟨x1, x1f⟩, ⟨x2, x2f⟩, ⟨x3, x3f⟩⟩ := cells4 (blk_new w5 (.cells #[.int .i64 s.1, .slice B1 s.2.1.length d1, .slice B2 s.2.2.1.length d2, .slice B3 s.2.2.2.length d3] 50 (0, 0)))
      by_cases hgood : cd = 0 ∧ s.1 = ((nlin acc : Nat) : Int)
      case neg =>
        have HNO := Aside0.mk (HST.out hgood)
        by_cases hcd : cd = 0
        · subst hcd
          have hne : (s.1 != ((nlin acc : Nat) : Int)) = true := by simp; intro e; exact hgood ⟨rfl, e⟩
          clear hgood
          go_wp2
          go_ret2
          exact ⟨gotS_none HNO.out rfl, by have h1 := HWR.out; have h2 := HB5.out; refine grew_trans (grew_trans h1 h2) ?_; repeat (first | exact Below.refl _ _ | apply below_alloc | apply below_drew1 | apply pw_below_drewN)⟩
        · have hne : (cd != 0) = true := by simpa using hcd
          clear hgood hcd
          go_wp2
          go_ret2
          exact ⟨gotS_none HNO.out rfl, by have h1 := HWR.out; have h2 := HB5.out; refine grew_trans (grew_trans h1 h2) ?_; repeat (first | exact Below.refl _ _ | apply below_alloc | apply below_drew1 | apply pw_below_drewN)⟩
      case pos =>
        obtain ⟨hcd, hs1⟩ := hgood
        subst hcd
        have HCN := Aside0.mk (HNX.out rfl hs1)
        obtain ⟨f1, f2, f3, f4, f5, f6⟩ := fits_parts (HFS.out rfl)
        have hne : (s.1 != ((nlin acc : Nat) : Int)) = false := by simp [hs1]
        have f7 : s.2.1.length ≤ 1000 := by omega
        clear HST HNX HFS hs1 f1 f2 f3 f4 f5
        go_wp2_with fail
        obtain ⟨gq, hgq⟩ : ∃ g_, g_ = w5.heap.size := ⟨_, rfl⟩
        obtain ⟨w6, hw6⟩ : ∃ w_, w_ = w5.alloc (.cells #[.int .i64 s.1, .slice B1 s.2.1.length d1, .slice B2 s.2.2.1.length d2, .slice B3 s.2.2.2.length d3] 50 (0, 0)) := ⟨_, rfl⟩
        rw [← hw6, ← hgq] at x0 x0f x1 x1f x2 x2f x3 x3f
        rw [← hw6]
        (try rw [← hgq])
        have BKgq := Aside0.mk (show w6.heap[gq]? = some (.cells #[.int .i64 s.1, .slice B1 s.2.1.length d1, .slice B2 s.2.2.1.length d2, .slice B3 s.2.2.2.length d3] 50 (0, 0)) from by rw [hw6, hgq]; exact blk_new w5 _)
        have hb6 : Below w5.heap.size w5 w6 := by rw [hw6]; exact below_alloc (Below.refl _ _) _
        have HB6 := Aside0.mk (show Below wr.heap.size wr w6 from grew_trans HB5.out hb6)
        have HM6 := Aside0.mk (show kSeg.M w6 wr.heap.size (fun k => wr.heap.size ≤ k) s [.int .i64 s.1, .slice B1 s.2.1.length d1, .slice B2 s.2.2.1.length d2, .slice B3 s.2.2.2.length d3] from kSeg.M_mono (fun k hk => hk.2.1) (kSeg.M_bound (Kd.M_below HM5.out hb6)))
        have hk6 := kSeg_open (kSeg.K_of_M HM6.out)
        have hct : Kd.C kB w6 B1 s.2.1.length s.2.1 ∧ s.2.1.length ≤ d1 := by
          obtain ⟨E1, e1, E2, e2, E3, e3, ee, hT⟩ := hk6
          simp only [List.cons.injEq, and_true, Value.slice.injEq, true_and] at ee
          obtain ⟨⟨rfl, rfl⟩, ⟨rfl, rfl⟩, rfl, rfl⟩ := ee
          obtain ⟨⟨F1, e1, ee, hl, hr⟩, _, _⟩ := Decode.seg_parts hT
          obtain ⟨rfl, rfl⟩ : B1 = F1 ∧ d1 = e1 := by injection ee with x1 x2 x3; exact ⟨x1, x3⟩
          exact ⟨hr, hl⟩
        have htt := bytes_spec B1 s.2.1.length d1 s.2.1 rfl w6 hct.1 hct.2 (by show _ ≤ _; omega)
        clear hgq hw6 hb6 hk6 hct
        go_at_call 107
        refine htt.mono ?_
        rintro e w7 ⟨rfl, hb7⟩
        have HB7 := Aside0.mk (show Below wr.heap.size wr w7 from grew_trans HB6.out hb7)
        have HM7 := Aside0.mk (show kSeg.M w7 wr.heap.size (fun k => wr.heap.size ≤ k) s [.int .i64 s.1, .slice B1 s.2.1.length d1, .slice B2 s.2.2.1.length d2, .slice B3 s.2.2.2.length d3] from Kd.M_below HM6.out hb7)
        have HOL := Aside0.mk (fun k (h : (Value.slice Ap i cp).ownBlock = some k) => Kd.R_lt HR.out k h)
        have BQ7 := Aside0.mk (blk_below BKgq.out hb7)
        clear htt hb7 x0 x0f x1 x1f x2 x2f x3 x3f
        obtain ⟨⟨x0, x0f⟩, ⟨x1, x1f⟩, ⟨x2, x2f⟩, ⟨x3, x3f⟩⟩ := cells4 BQ7.out
        go_wp2_with (at_builtin; refine Kd.R_append kSeg (w0 := w1) w1.heap.size rfl (.tmp 47) (.tmp 49) 123 50 (.agg #[.int .i64 0, .slice none 0 0, .slice none 0 0, .slice none 0 0]) 80 rfl Try.underlying123 infoSeg rfl (by decide) (by omega) (.slice Ap i cp) acc s [.int .i64 s.1, .slice B1 s.2.1.length d1, .slice B2 s.2.2.1.length d2, .slice B3 s.2.2.2.length d3] (fun _ => True) (fun k => wr.heap.size ≤ k) rfl rfl ?aP ?aK (fun _ _ => trivial) ?aO ?aB ?aS ?aL ?_; (case aP => exact kSeg.M_lower HB.out.size HM7.out); (case aK => exact fun k hk => ⟨trivial, fun e => by have h2 : wr.heap.size ≤ k := hk; have h3 := HOL.out k e.symm; omega⟩); (case aO => exact Kd.R_below HR.out HB7.out); (case aB => exact grew_trans HB.out HB7.out); (case aS => exact (grew_trans HB.out HB7.out).size); (case aL => omega); intro v8 w8 hO8 hB8 hg8 hat8; obtain ⟨A8, c8, e8⟩ := Kd.R_slice hO8; rw [show (acc ++ [s]).length = i + 1 from by have h4 := HN4.out; rw [List.length_append, List.length_singleton]; omega] at e8; subst e8; have HO8 := Aside0.mk hO8; have HB8 := Aside0.mk hB8; clear hO8 hB8 hg8 hat8)
        go_roundg (st.1.length - (i + 1))
        case measure => omega
        case rel =>
          refine ⟨i + 1, acc ++ [s], A8, c8, by omega, by omega, by go_num, ?_, ?_, rfl, ⟨HCN.out⟩, HO8, HB8⟩
          · rw [nlin_append, nlin_one]; go_num
          · rw [tots_append, tots_one]
            congr 1
            omega
    · have hltz : ¬ (i : Int) < (st.1.length : Int) := by omega
      obtain rfl : i = st.1.length := by omega
      have hC := HC.out
      rw [List.take_length] at hC
      have HSA := Aside0.mk (segs_all (st := st) hC)
      have hct := HPL.out wr HWR.out
      clear hC HC
      cases hp : plain st.2 with
      | false =>
        rw [hp] at hct
        have HNO := Aside0.mk (show segsOf st = none from by rw [HSA.out, if_neg (fun h => by rw [hp] at h; exact Bool.noConfusion h.1)])
        clear hp
        go_wp2_with (go_at_call 133; refine hct.mono ?_; rintro e w8 ⟨rfl, hb8⟩)
        go_ret2
        exact ⟨gotS_none HNO.out rfl, grew_trans HWR.out hb8⟩
      | true =>
        rw [hp] at hct
        have HP := Aside0.mk hp
        clear hp
        by_cases hlen : nlin acc + st.2.length ≤ 1000
        case neg =>
          have hlz : ¬ (((nlin acc : Nat) : Int) + (st.2.length : Int) ≤ 1000) := by omega
          have HNO := Aside0.mk (show segsOf st = none from by rw [HSA.out, if_neg (fun h => hlen h.2.1)])
          go_wp2_with (go_at_call 133; refine hct.mono ?_; rintro e w8 ⟨rfl, hb8⟩; have HB8 := Aside0.mk hb8; obtain ⟨⟨t0, t0f⟩, ⟨t1, t1f⟩⟩ := cells2 (blk_below BP.out hb8); clear hb8)
          go_ret2
          exact ⟨gotS_none HNO.out rfl, grew_trans HWR.out HB8.out⟩
        case pos =>
          have hlz : ((nlin acc : Nat) : Int) + (st.2.length : Int) ≤ 1000 := by omega
          by_cases htot : tots acc + totalB st.2 ≤ 20000
          case neg =>
            have htz : ¬ (((tots acc : Nat) : Int) + (totalB st.2 : Int) ≤ 20000) := by omega
            have HNO := Aside0.mk (show segsOf st = none from by rw [HSA.out, if_neg (fun h => htot h.2.2)])
            go_wp2_with (go_at_call 133; refine hct.mono ?_; rintro e w8 ⟨rfl, hb8⟩; have HB8 := Aside0.mk hb8; obtain ⟨⟨t0, t0f⟩, ⟨t1, t1f⟩⟩ := cells2 (blk_below BP.out hb8); clear hb8)
            go_ret2
            exact ⟨gotS_none HNO.out rfl, grew_trans HWR.out HB8.out⟩
          case pos =>
            have htz : ((tots acc : Nat) : Int) + (totalB st.2 : Int) ≤ 20000 := by omega
            have HYES := Aside0.mk (show segsOf st = some acc from by rw [HSA.out, if_pos ⟨HP.out, hlen, htot⟩])
            go_wp2_with (go_at_call 133; refine hct.mono ?_; rintro e w8 ⟨rfl, hb8⟩; have HB8 := Aside0.mk hb8; obtain ⟨⟨t0, t0f⟩, ⟨t1, t1f⟩⟩ := cells2 (blk_below BP.out hb8); clear hb8)
            go_ret2
            refine ⟨?_, grew_trans HWR.out HB8.out⟩
            unfold GotS
            rw [HYES.out]
            show ∃ (Av : Option Addr) (cv : Nat), _ = Ending.returned (.tuple #[.slice Av acc.length cv, .bool true]) ∧ Kd.C kSeg w8 Av acc.length acc
            rw [HN4.out]
            refine ⟨Ap, cp, rfl, ?_⟩
            have h := (Kd.R_reads' (Kd.R_below HR.out HB8.out)).2.2
            rw [HN4.out] at h
            exact h
end Go.Proofs.Ytmgmdnmfalepkaa.SegS

namespace Go.Proofs.Ytmgmdnmfalepkaa.Sto
open Go.RowKit Go.Proofs.YtmgmdnmfalepkaaW.PrintWords Go.Proofs.YtmgmdnmfalepkaaW.PrintMore Go.Proofs.Ytmgmdnmfalepkaa.Kit Go.Proofs.Ytmgmdnmfalepkaa.PKit Go.Proofs.Ytmgmdnmfalepkaa.Ty Go.Proofs.Ytmgmdnmfalepkaa.PSeg Go.Proofs.Ytmgmdnmfalepkaa.PEnc Go.Proofs.Ytmgmdnmfalepkaa.PDec Go.Proofs.Ytmgmdnmfalepkaa.PSta Go.Proofs.Ytmgmdnmfalepkaa.HelpBB Go.Proofs.Ytmgmdnmfalepkaa.HelpSeg
open Go.Proofs.Ytmgmdnmfalepkaa.Build hiding code ans
set_option linter.unusedVariables false
set_option linter.unusedSimpArgs false
abbrev StepT := List SegT → (List SegT × List (List Int)) × Int
def chg (x : StaT) (f : StepT) : StaT × Int := match segsOf x with
  | none => (([], []), 4)
  | some ss => (((f ss).1.1.map code, (f ss).1.2), (f ss).2)
def StepOk (g : Nat) (cap : Array Value) (x : StaT) (f : StepT) (w0 : World) : Prop :=
  ∀ (W : World) (gs N : Nat) (Av Ao : Option Addr) (cv co : Nat) (ss : List SegT), segsOf x = some ss → (∀ s ∈ ss, Good s) → Below w0.heap.size w0 W → w0.heap.size ≤ gs → gs < N → N ≤ W.heap.size →
    W.heap[gs]? = some (.cells #[.slice Av ss.length cv, .slice Ao x.2.length co] 166 (0, 0)) → Kd.R kSeg 50 W w0.heap.size (fun k => gs < k ∧ k < N) (.slice Av ss.length cv) ss → Kd.S kB 33 W w0.heap.size (fun k => N ≤ k) (.slice Ao x.2.length co) x.2 →
    Calls Try.prog g (#[.pointer (some ⟨gs, 0, none⟩)] ++ cap) W fun e w' => ∃ (Bv : Option Addr) (dv : Nat) (Bo : Option Addr) (do_ : Nat), e = .returned (.int .i64 (f ss).2) ∧ w'.heap[gs]? = some (.cells #[.slice Bv (f ss).1.1.length dv, .slice Bo (f ss).1.2.length do_] 166 (0, 0)) ∧ Kd.C kSeg w' Bv (f ss).1.1.length (f ss).1.1 ∧ Kd.C kB w' Bo (f ss).1.2.length (f ss).1.2 ∧ (f ss).1.2.length ≤ do_ ∧ Below w0.heap.size w0 w'
theorem two_M (w : World) (base : Nat) : HelpSta.tSta.M w base (fun _ => True) ([], []) (.agg #[.slice none 0 0, .slice none 0 0]) :=
  HelpSta.tSta.M_mono (fun _ _ => trivial) ⟨[_, _], rfl, Tys.cons_apart (ok1 := fun _ => False) (ok2 := fun _ => True) (Kd.S_nil _ _ _ _ _) (Tys.M_one (Kd.S_nil _ _ _ _ _)) (fun _ _ h => h)⟩
set_option maxRecDepth 100000 in
set_option maxHeartbeats 8000000 in
theorem changed_calls (g : Nat) (cap : Array Value) (eg : ∀ args w, (callFunc g args).run Try.prog w = .ok (.enter g args) w) (x : StaT) (f : StepT) (A0 A1 : Option Addr) (c0 c1 : Nat) (w : World) (h0 : Kd.C kB w A0 x.1.length x.1) (l0 : x.1.length ≤ c0) (h1 : Kd.C kB w A1 x.2.length x.2) (l1 : x.2.length ≤ c1) (hb0 : Bytes x.1) (hb1 : Bytes x.2) (s0 : smallBB x.1) (s1 : smallBB x.2)
    (hst : ∀ w0, Below w.heap.size w w0 → StepOk g cap x f w0) (hgd : ∀ ss, segsOf x = some ss → (∀ s ∈ (f ss).1.1, Good s) ∧ (f ss).1.1.length ≤ 1048576 ∧ smallBB (f ss).1.2) :
    Calls Try.prog 113 #[.agg #[.slice A0 x.1.length c0, .slice A1 x.2.length c1], .func (.func g) #[] cap] w fun e w' => ∃ v', e = .returned (.tuple #[v', .int .i64 (chg x f).2]) ∧ HelpSta.tSta.M w' w.heap.size (fun _ => True) (chg x f).1 v' ∧ Grew w w' := by
  have huT := Try.underlying73
  have H0 := Aside0.mk h0
  have H1 := Aside0.mk h1
  have HSO := Aside0.mk (fun (W : World) (hW : Below w.heap.size w W) => storeOf_calls x A0 A1 c0 c1 W (Kd.C_below h0 hW) l0 (Kd.C_below h1 hW) l1 hb0 hb1 s0 s1)
  have HB0 := Aside0.mk hb0
  have HST := Aside0.mk hst
  have HGD := Aside0.mk hgd
  clear h0 h1 hb0 hb1 hst hgd s0 s1
  go_enter Try.func113, Try.ntmps113
  go_wp2_with (first | ((with_reducible refine gate_dst (N := 2) rfl ?_); refine box_event ?hg (N := 2) ?hd (cs := #[.slice A0 x.1.length c0, .slice A1 x.2.length c1]) (t := 73) ?hr ?_; (case hd => rfl); (case hg => rfl); (case hr => first | (go_simp; done) | (go_simp; rfl)); intro gx hg_ w1 hbx hbb; have BKgx := Aside0.mk hbx; have GEgx := Aside0.mk (show w.heap.size ≤ gx from Nat.le_of_eq hg_.symm); have GLgx := Aside0.mk (blk_lt hbx); have HBw1 := Aside0.mk hbb; clear hg_ hbb; obtain ⟨⟨hgxc0, hgxf0⟩, ⟨hgxc1, hgxf1⟩⟩ := cells2 hbx; clear hbx) | ((with_reducible refine gate_dst (N := 4) rfl ?_); refine box_event ?hg (N := 4) ?hd (cs := #[.slice none 0 0, .slice none 0 0]) (t := 73) ?hr ?_; (case hd => rfl); (case hg => rfl); (case hr => first | (go_simp; done) | (go_simp; rfl)); intro gr hg_ w2 hbx hbb; have BKgr := Aside0.mk hbx; have GEgr := Aside0.mk (show w1.heap.size ≤ gr from Nat.le_of_eq hg_.symm); have GLgr := Aside0.mk (blk_lt hbx); have HBw2 := Aside0.mk hbb; clear hg_ hbb; obtain ⟨⟨hgrc0, hgrf0⟩, ⟨hgrc1, hgrf1⟩⟩ := cells2 hbx; clear hbx; have BKp_ := Aside0.mk (blk_below BKgx.out HBw2.out); clear BKgx hgxc0 hgxf0 hgxc1 hgxf1; have BKgx := BKp_; clear BKp_; obtain ⟨⟨pc0, pf0⟩, ⟨pc1, pf1⟩⟩ := cells2 BKgx.out))
  have HB2 := Aside0.mk (show Below w.heap.size w w2 from grew_trans HBw1.out HBw2.out)
  have GER := Aside0.mk (show w.heap.size ≤ gr from Nat.le_trans HBw1.out.size GEgr.out)
  clear hgrc0 hgrf0 hgrc1 hgrf1 pc0 pf0 pc1 pf1
  go_at_call 151
  refine (HSO.out _ HB2.out).mono ?_
  rintro e w3 ⟨hG3, hb3⟩
  have BK3 := Aside0.mk (blk_below BKgr.out hb3)
  have HB3 := Aside0.mk (show Below w.heap.size w w3 from grew_trans HB2.out hb3)
  have HB23 := Aside0.mk hb3
  have GLR := Aside0.mk (blk_lt BKgr.out)
  obtain ⟨⟨r0, rf0⟩, ⟨r1, rf1⟩⟩ := cells2 BK3.out
  clear hb3
  cases hs : segsOf x with
  | none =>
    unfold Got at hG3
    rw [hs] at hG3
    obtain rfl := hG3
    have HS := Aside0.mk hs
    clear hs
    go_wp2
    refine bodyPost_ret (results_ct rfl _ _ gr 73 #[.slice none 0 0, .slice none 0 0] (0, 0) _ rfl (by (with_reducible repeat (first | refine blk_drewN ?_ _ | refine blk_drew ?_ | refine blk_alloc ?_ _)); refine blk_put (cs := #[.slice none 0 0, .slice none 0 0]) ?_ 1 _ rfl; (with_reducible repeat (first | refine blk_drewN ?_ _ | refine blk_drew ?_ | refine blk_alloc ?_ _)); refine blk_put (cs := #[.slice none 0 0, .slice none 0 0]) ?_ 0 _ rfl; (with_reducible repeat (first | refine blk_drewN ?_ _ | refine blk_drew ?_ | refine blk_alloc ?_ _)); exact BK3.out) Try.underlying73 rfl (by kernel_rfl)) rfl ?_
    rw [show chg x f = (([], []), 4) from by unfold chg; rw [HS.out]]
    exact ⟨_, rfl, two_M _ _, below_set (below_set (HB3.out) GER.out) GER.out⟩
  | some ss =>
    unfold Got at hG3
    rw [hs] at hG3
    obtain ⟨gs, Av, cv, Ao, co, N, rfl, hk3, g1, g2, g3, hR3, hS3⟩ := hG3
    have HS := Aside0.mk hs
    have HC := Aside0.mk (show chg x f = (((f ss).1.1.map code, (f ss).1.2), (f ss).2) from by unfold chg; rw [hs])
    have HF := Aside0.mk (HGD.out ss hs)
    have hstep := HST.out w2 HB2.out w3 gs N Av Ao cv co ss hs (chain_good (segsOf_some hs).1 HB0.out) HB23.out g1 g2 g3 hk3 hR3 hS3
    have GSR := Aside0.mk (show gr < gs from by have := GLR.out; omega)
    clear hs hk3 g2 g3 hR3 hS3 g1
    generalize f ss = q at hstep HC HF
    go_wp2_with fail
    go_at_fn g
    refine hstep.mono ?_
    rintro e w4 ⟨Bv, dv, Bo, do_, rfl, hk4, hC4, hO4, hl4, hb4⟩
    have HB24 := Aside0.mk hb4
    have HB4 := Aside0.mk (show Below w.heap.size w w4 from grew_trans HB2.out hb4)
    have BK4 := Aside0.mk (blk_below BKgr.out hb4)
    have HSC := Aside0.mk (state_calls gs Bv Bo dv do_ q.1.1.length q.1.2.length q.1.1 q.1.2 rfl rfl w4 hk4 hC4 hO4 hl4 HF.out.2.2 HF.out.1 HF.out.2.1)
    clear hk4 hC4 hO4 hl4 hb4 hstep r0 rf0 r1 rf1
    obtain ⟨⟨r0, rf0⟩, ⟨r1, rf1⟩⟩ := cells2 BK4.out
    go_wp2_with fail
    go_at_call 152
    refine HSC.out.mono ?_
    rintro e w5 ⟨v5, rfl, hM5, hb5⟩
    obtain ⟨E0, e0, E1, e1, ev⟩ := HelpSta.form (HelpSta.tSta.K_of_M hM5)
    have ev : v5 = .agg #[.slice E0 (q.1.1.map code).length e0, .slice E1 q.1.2.length e1] := ev
    rw [List.length_map] at ev
    subst ev
    have HM5 := Aside0.mk hM5
    have HB45 := Aside0.mk hb5
    have HB5 := Aside0.mk (show Below w.heap.size w w5 from grew_trans HB4.out hb5)
    have BK5 := Aside0.mk (blk_below BK4.out hb5)
    clear hM5 hb5 r0 rf0 r1 rf1
    obtain ⟨⟨r0, rf0⟩, ⟨r1, rf1⟩⟩ := cells2 BK5.out
    go_wp2
    refine bodyPost_ret (results_ct rfl _ _ gr 73 #[.slice E0 q.1.1.length e0, .slice E1 q.1.2.length e1] (0, 0) _ rfl (by (with_reducible repeat (first | refine blk_drewN ?_ _ | refine blk_drew ?_ | refine blk_alloc ?_ _)); refine blk_put (cs := #[.slice E0 q.1.1.length e0, .slice none 0 0]) ?_ 1 _ rfl; (with_reducible repeat (first | refine blk_drewN ?_ _ | refine blk_drew ?_ | refine blk_alloc ?_ _)); refine blk_put (cs := #[.slice none 0 0, .slice none 0 0]) ?_ 0 _ rfl; (with_reducible repeat (first | refine blk_drewN ?_ _ | refine blk_drew ?_ | refine blk_alloc ?_ _)); exact BK5.out) Try.underlying73 rfl (by kernel_rfl)) rfl ?_
    rw [HC.out]
    refine ⟨_, rfl, ?_, below_set (below_set (HB5.out) GER.out) GER.out⟩
    exact HelpSta.tSta.M_mono (fun _ _ => trivial) ((Ty.M_set (T := HelpSta.tSta) (Ty.M_set (T := HelpSta.tSta) (HelpSta.tSta.M_lower HB4.out.size (HelpSta.tSta.M_bound HM5.out)) (fun k hk e => by have h1 := hk.2.1; have h2 := GLR.out; have h3 := HB24.out.size; omega) _) (fun k hk e => by have h1 := hk.2.1; have h2 := GLR.out; have h3 := HB24.out.size; omega) _))
end Go.Proofs.Ytmgmdnmfalepkaa.Sto

namespace Go.Proofs.Ytmgmdnmfalepkaa.Seal
open Go.RowKit Go.Proofs.YtmgmdnmfalepkaaW.PrintWords Go.Proofs.YtmgmdnmfalepkaaW.PrintMore Go.Proofs.Ytmgmdnmfalepkaa.Kit Go.Proofs.Ytmgmdnmfalepkaa.PKit Go.Proofs.Ytmgmdnmfalepkaa.Ty Go.Proofs.Ytmgmdnmfalepkaa.PSeg Go.Proofs.Ytmgmdnmfalepkaa.PEnc Go.Proofs.Ytmgmdnmfalepkaa.PDec Go.Proofs.Ytmgmdnmfalepkaa.PSta Go.Proofs.Ytmgmdnmfalepkaa.HelpBB Go.Proofs.Ytmgmdnmfalepkaa.HelpSeg
open Go.Proofs.Ytmgmdnmfalepkaa.Build hiding code ans
set_option linter.unusedVariables false
set_option linter.unusedSimpArgs false
open Go.Proofs.Ytmgmdnmfalepkaa.Sto
theorem gen_world (P : World → Prop) (w : World) (h : ∀ W, W = w → P W) : P w := h w rfl
def sealF (op : List (List Int)) : StepT := fun ss => (if op = [] then (ss, []) else (ss ++ [seg ((nlin ss : Nat) : Int) op], []), 0)
theorem seal_chg (x : StaT) : seal_ x = chg x (sealF x.2) := by
  unfold seal_ chg
  cases h : segsOf x with
  | none => rfl
  | some ss =>
    have hc := chain_codes (segsOf_some h).1
    show ((if x.2 = [] then x.1 else x.1 ++ [code (seg ((nlin ss : Nat) : Int) x.2)], []), (0 : Int)) = (((sealF x.2 ss).1.1.map code, (sealF x.2 ss).1.2), (sealF x.2 ss).2)
    unfold sealF
    by_cases he : x.2 = []
    · rw [if_pos he, if_pos he]; simp only; rw [hc]
    · rw [if_neg he, if_neg he]; simp only [List.map_append, List.map_cons, List.map_nil]; rw [hc]
theorem build_good' (b : Int) (A : Option Addr) (n c : Nat) (ls : List (List Int)) (hn : n = ls.length) (w : World) (hr : Kd.C kB w A ls.length ls) (hc : ls.length ≤ c) (hb : Bytes ls) (hs : smallBB ls) (hf : fits b ls = true) :
    Calls Try.prog 40 #[.int .i64 b, .slice A n c] w fun e w' => ∃ (A1 : Option Addr) (c1 : Nat) (A2 : Option Addr) (c2 : Nat) (A3 : Option Addr) (c3 : Nat), e = .returned (.tuple #[.agg #[.int .i64 b, .slice A1 n c1, .slice A2 (keys ls).length c2, .slice A3 (keys ls).length c3], .int .i64 0]) ∧ kSeg.M w' w.heap.size (fun _ => True) (seg b ls) [.int .i64 b, .slice A1 n c1, .slice A2 (keys ls).length c2, .slice A3 (keys ls).length c3] ∧ Grew w w' := by
  subst hn
  have e0 : build b ls = (seg b ls, 0) := by unfold build; rw [hf]; rfl
  have h := build_calls b A c ls w hr hc hb hs
  rw [e0] at h
  refine h.mono ?_
  rintro e w' ⟨v, rfl, hM, hg⟩
  obtain ⟨A1, c1, A2, c2, A3, c3, ev, hk⟩ := kSeg_mk hM
  have e3 : (seg b ls).2.2.2.length = (keys ls).length := List.length_map ..
  rw [e3] at ev hk
  subst ev
  exact ⟨A1, c1, A2, c2, A3, c3, rfl, hk, hg⟩
set_option maxRecDepth 100000 in
set_option maxHeartbeats 8000000 in
theorem seal_step (x : StaT) (hb1 : Bytes x.2) (s1 : smallBB x.2) (w0 : World) : StepOk 114 #[] x (sealF x.2) w0 := by
  intro W gs N Av Ao cv co ss hss hgood hB hg0 hgN hNW hk hR hS
  obtain ⟨n1, n2, n3⟩ := chain_len0 (segsOf_some hss).1
  have HFT := Aside0.mk (fun h => seal_fits hss h)
  have huS := Try.underlying166
  have huI := Try.underlying50
  have HB := Aside0.mk hB
  have BK := Aside0.mk hk
  have HR := Aside0.mk hR
  have HS := Aside0.mk hS
  have HY := Aside0.mk hb1
  have HS1 := Aside0.mk s1
  obtain ⟨hn', hco, hC⟩ := Kd.S_reads' hS
  have HC := Aside0.mk hC
  have hRC := (Kd.R_reads' hR).2.2
  have HRC := Aside0.mk hRC
  have GSN := Aside0.mk (show gs < W.heap.size from by omega)
  have HOL := Aside0.mk (fun k (h : (Value.slice Av ss.length cv).ownBlock = some k) => Kd.R_lt hR k h)
  clear hss hgood hB hk hR hS hb1 s1 hn' hC hRC hNW
  obtain ⟨xs, op⟩ := x
  obtain ⟨⟨p0, q0⟩, ⟨p1, q1⟩⟩ := cells2 BK.out
  show Calls Try.prog 114 #[.pointer (some ⟨gs, 0, none⟩)] W _
  by_cases hop : op = []
  · subst hop
    go_enter Try.func114, Try.ntmps114
    go_wp2
    go_ret
    have e : sealF [] ss = ((ss, []), 0) := by unfold sealF; rw [if_pos rfl]
    rw [e]
    exact ⟨rfl, Av, cv, Ao, co, BK.out, HRC.out, HC.out, hco, HB.out⟩
  · have hl1 : 0 < op.length := List.length_pos_iff.2 hop
    have hlz : (op.length : Int) > 0 := by omega
    have HFF := Aside0.mk (HFT.out hop)
    have HSE := Aside0.mk (fun (w' : World) (hW : Below W.heap.size W w') => sealed_calls gs Av cv ss.length ss rfl (.slice Ao op.length co) w' (blk_below BK.out hW) (Kd.C_below HRC.out hW) n1 (by omega))
    have HBU := Aside0.mk (fun (w' : World) (hW : Below W.heap.size W w') => build_good' ((nlin ss : Nat) : Int) Ao op.length co op rfl w' (Kd.C_below HC.out hW) hco HY.out HS1.out HFF.out)
    have HKP := Aside0.mk (show ∀ w' : World, Below W.heap.size W w' → (w'.cell? ⟨gs, 0, none⟩ = some (.slice Av ss.length cv) ∧ w'.cell? ⟨gs, 1, none⟩ = some (.slice Ao op.length co)) from fun w' hW => ⟨(blk_cell (blk_below BK.out hW) 0).trans rfl, (blk_cell (blk_below BK.out hW) 1).trans rfl⟩)
    have HEF := Aside0.mk (show sealF op ss = ((ss ++ [seg ((nlin ss : Nat) : Int) op], []), 0) from by unfold sealF; rw [if_neg hop])
    clear hop
    go_enter Try.func114, Try.ntmps114
    go_upto_region 2 with fail
    go_cut [3] (fun sv_ wx => ∃ (gq : Nat) (B1 : Option Addr) (d1 : Nat) (B2 : Option Addr) (d2 : Nat) (B3 : Option Addr) (d3 : Nat), sv_ = .pointer (some ⟨gq, 0, none⟩) ∧ Aside0 (wx.heap[gq]? = some (.cells #[.int .i64 ((nlin ss : Nat) : Int), .slice B1 op.length d1, .slice B2 (keys op).length d2, .slice B3 (keys op).length d3] 50 (0, 0))) ∧ Aside0 (kSeg.M wx W.heap.size (fun k => W.heap.size ≤ k) (seg ((nlin ss : Nat) : Int) op) [.int .i64 ((nlin ss : Nat) : Int), .slice B1 op.length d1, .slice B2 (keys op).length d2, .slice B3 (keys op).length d3]) ∧ Aside0 (Below W.heap.size W wx) ∧ Aside0 (W.heap.size ≤ gq))
    case first =>
      go_region_held3 (fun W_ => W_.cell? ⟨gs, 0, none⟩ = some (.slice Av ss.length cv) ∧ W_.cell? ⟨gs, 1, none⟩ = some (.slice Ao op.length co)) ((refine HKP.out _ ?_; repeat (with_reducible first | exact HB6.out | exact HB5.out | exact Below.refl _ _ | refine below_alloc ?_ _ | refine below_drew1 ?_ | refine pw_below_drewN ?_ _ | refine below_set ?_ (by first | exact Nat.le_refl _ | exact HB5.out.size | exact HB6.out.size)))) (first | (go_at_call 153; (with_reducible refine (HSE.out _ ?h).mono ?_); (case h => exact (by repeat (first | exact Below.refl _ _ | apply below_alloc | apply below_drew1 | apply pw_below_drewN))); rintro e w5 ⟨rfl, hb_⟩; (try have BKz0 := Aside0.mk (show w5.heap[W.heap.size]? = some (.cells #[.int .i64 0, .slice none 0 0, .slice none 0 0, .slice none 0 0] 50 (0, 0)) from blk_below (by (with_reducible repeat (first | refine blk_drewN ?_ _ | refine blk_drew ?_)); exact heap_alloc_new _ _) hb_)); have HB5 := Aside0.mk (show Below W.heap.size W w5 from grew_trans (by repeat (first | exact Below.refl _ _ | apply below_alloc | apply below_drew1 | apply pw_below_drewN)) hb_); clear hb_) | (go_at_call 40; (with_reducible refine (HBU.out _ ?h).mono ?_); (case h => exact (by repeat (first | exact Below.refl _ _ | exact HB5.out | apply below_alloc | apply below_drew1 | apply pw_below_drewN))); rintro e w6 ⟨B1, d1, B2, d2, B3, d3, rfl, hM_, hb_⟩; (first | (have BKz1 := Aside0.mk (show w6.heap[W.heap.size]? = some (.cells #[.int .i64 0, .slice none 0 0, .slice none 0 0, .slice none 0 0] 50 (0, 0)) from blk_below (by (with_reducible repeat (first | refine blk_drewN ?_ _ | refine blk_drew ?_)); exact BKz0.out) hb_); obtain ⟨⟨zc0, zf0⟩, ⟨zc1, zf1⟩, ⟨zc2, zf2⟩, ⟨zc3, zf3⟩⟩ := cells4 BKz1.out; have HMz := Aside0.mk (show kSeg.M w6 W.heap.size (fun k => W.heap.size < k) (seg ((nlin ss : Nat) : Int) op) [.int .i64 ((nlin ss : Nat) : Int), .slice B1 op.length d1, .slice B2 (keys op).length d2, .slice B3 (keys op).length d3] from kSeg.M_mono (fun k hk => Nat.lt_of_lt_of_le (blk_lt (by (with_reducible repeat (first | refine blk_drewN ?_ _ | refine blk_drew ?_)); exact BKz0.out)) hk.2.1) (kSeg.M_lower (below_size (by repeat (first | exact Below.refl _ _ | exact HB5.out | apply below_alloc | apply below_drew1 | apply pw_below_drewN))) (kSeg.M_bound hM_)))) | (have BKy := Aside0.mk (show w6.heap[w5.heap.size]? = some (.cells #[.int .i64 0, .slice none 0 0, .slice none 0 0, .slice none 0 0] 50 (0, 0)) from blk_below (by (with_reducible repeat (first | refine blk_drewN ?_ _ | refine blk_drew ?_)); exact heap_alloc_new _ _) hb_); obtain ⟨⟨zc0, zf0⟩, ⟨zc1, zf1⟩, ⟨zc2, zf2⟩, ⟨zc3, zf3⟩⟩ := cells4 BKy.out; have HMz := Aside0.mk (show kSeg.M w6 W.heap.size (fun k => w5.heap.size < k) (seg ((nlin ss : Nat) : Int) op) [.int .i64 ((nlin ss : Nat) : Int), .slice B1 op.length d1, .slice B2 (keys op).length d2, .slice B3 (keys op).length d3] from kSeg.M_mono (fun k hk => Nat.lt_of_lt_of_le (blk_lt (by (with_reducible repeat (first | refine blk_drewN ?_ _ | refine blk_drew ?_)); exact heap_alloc_new _ (.cells #[.int .i64 0, .slice none 0 0, .slice none 0 0, .slice none 0 0] 50 (0, 0)))) hk.2.1) (kSeg.M_lower (below_size (by repeat (first | exact Below.refl _ _ | exact HB5.out | apply below_alloc | apply below_drew1 | apply pw_below_drewN))) (kSeg.M_bound hM_)))) | (have HMz := Aside0.mk (show kSeg.M w6 W.heap.size (fun k => W.heap.size ≤ k) (seg ((nlin ss : Nat) : Int) op) [.int .i64 ((nlin ss : Nat) : Int), .slice B1 op.length d1, .slice B2 (keys op).length d2, .slice B3 (keys op).length d3] from kSeg.M_mono (fun k hk => Nat.le_trans (below_size (by repeat (first | exact Below.refl _ _ | exact HB5.out | apply below_alloc | apply below_drew1 | apply pw_below_drewN))) hk.2.1) (kSeg.M_lower (below_size (by repeat (first | exact Below.refl _ _ | exact HB5.out | apply below_alloc | apply below_drew1 | apply pw_below_drewN))) (kSeg.M_bound hM_))))); have HB6 := Aside0.mk (show Below W.heap.size W w6 from grew_trans (by repeat (first | exact Below.refl _ _ | exact HB5.out | apply below_alloc | apply below_drew1 | apply pw_below_drewN)) hb_); clear hb_ hM_))
      all_goals
        refine gen_world _ _ ?_
        intro wz hW_
        have gg := Aside0.mk (show Below W.heap.size W wz from by rw [hW_]; repeat (first | exact HB6.out | apply below_alloc | apply below_drew1 | apply pw_below_drewN | refine below_set ?_ (by first | exact Nat.le_refl _ | exact HB5.out.size)))
        first | (have FA := Aside0.mk (show wz.heap[W.heap.size]? = some (.cells #[.int .i64 ((nlin ss : Nat) : Int), .slice B1 op.length d1, .slice B2 (keys op).length d2, .slice B3 (keys op).length d3] 50 (0, 0)) from by rw [hW_]; (with_reducible repeat (first | refine blk_drewN ?_ _ | refine blk_drew ?_)); refine blk_put (cs := #[.int .i64 ((nlin ss : Nat) : Int), .slice B1 op.length d1, .slice B2 (keys op).length d2, .slice none 0 0]) ?_ 3 _ rfl; (with_reducible repeat (first | refine blk_drewN ?_ _ | refine blk_drew ?_)); refine blk_put (cs := #[.int .i64 ((nlin ss : Nat) : Int), .slice B1 op.length d1, .slice none 0 0, .slice none 0 0]) ?_ 2 _ rfl; (with_reducible repeat (first | refine blk_drewN ?_ _ | refine blk_drew ?_)); refine blk_put (cs := #[.int .i64 ((nlin ss : Nat) : Int), .slice none 0 0, .slice none 0 0, .slice none 0 0]) ?_ 1 _ rfl; (with_reducible repeat (first | refine blk_drewN ?_ _ | refine blk_drew ?_)); refine blk_put (cs := #[.int .i64 0, .slice none 0 0, .slice none 0 0, .slice none 0 0]) ?_ 0 _ rfl; (with_reducible repeat (first | refine blk_drewN ?_ _ | refine blk_drew ?_)); exact BKz1.out); have FM := Aside0.mk (show kSeg.M wz W.heap.size (fun k => W.heap.size ≤ k) (seg ((nlin ss : Nat) : Int) op) [.int .i64 ((nlin ss : Nat) : Int), .slice B1 op.length d1, .slice B2 (keys op).length d2, .slice B3 (keys op).length d3] from by rw [hW_]; exact kSeg.M_mono (fun k hk => Nat.le_of_lt hk) (Kd.M_far (d := kSeg) (Kd.M_far (d := kSeg) (Kd.M_far (d := kSeg) (Kd.M_far (d := kSeg) HMz.out (p := ⟨_, 0, none⟩) (fun k hk => Nat.ne_of_gt hk) _) (p := ⟨_, 1, none⟩) (fun k hk => Nat.ne_of_gt hk) _) (p := ⟨_, 2, none⟩) (fun k hk => Nat.ne_of_gt hk) _) (p := ⟨_, 3, none⟩) (fun k hk => Nat.ne_of_gt hk) _)); have FG := Aside0.mk (show W.heap.size ≤ W.heap.size from Nat.le_refl _)) | (have FA := Aside0.mk (show wz.heap[w5.heap.size]? = some (.cells #[.int .i64 ((nlin ss : Nat) : Int), .slice B1 op.length d1, .slice B2 (keys op).length d2, .slice B3 (keys op).length d3] 50 (0, 0)) from by rw [hW_]; (with_reducible repeat (first | refine blk_drewN ?_ _ | refine blk_drew ?_)); refine blk_put (cs := #[.int .i64 ((nlin ss : Nat) : Int), .slice B1 op.length d1, .slice B2 (keys op).length d2, .slice none 0 0]) ?_ 3 _ rfl; (with_reducible repeat (first | refine blk_drewN ?_ _ | refine blk_drew ?_)); refine blk_put (cs := #[.int .i64 ((nlin ss : Nat) : Int), .slice B1 op.length d1, .slice none 0 0, .slice none 0 0]) ?_ 2 _ rfl; (with_reducible repeat (first | refine blk_drewN ?_ _ | refine blk_drew ?_)); refine blk_put (cs := #[.int .i64 ((nlin ss : Nat) : Int), .slice none 0 0, .slice none 0 0, .slice none 0 0]) ?_ 1 _ rfl; (with_reducible repeat (first | refine blk_drewN ?_ _ | refine blk_drew ?_)); refine blk_put (cs := #[.int .i64 0, .slice none 0 0, .slice none 0 0, .slice none 0 0]) ?_ 0 _ rfl; (with_reducible repeat (first | refine blk_drewN ?_ _ | refine blk_drew ?_)); exact BKy.out); have FM := Aside0.mk (show kSeg.M wz W.heap.size (fun k => W.heap.size ≤ k) (seg ((nlin ss : Nat) : Int) op) [.int .i64 ((nlin ss : Nat) : Int), .slice B1 op.length d1, .slice B2 (keys op).length d2, .slice B3 (keys op).length d3] from by rw [hW_]; exact kSeg.M_mono (fun k hk => Nat.le_trans HB5.out.size (Nat.le_of_lt hk)) (Kd.M_far (d := kSeg) (Kd.M_far (d := kSeg) (Kd.M_far (d := kSeg) (Kd.M_far (d := kSeg) HMz.out (p := ⟨_, 0, none⟩) (fun k hk => Nat.ne_of_gt hk) _) (p := ⟨_, 1, none⟩) (fun k hk => Nat.ne_of_gt hk) _) (p := ⟨_, 2, none⟩) (fun k hk => Nat.ne_of_gt hk) _) (p := ⟨_, 3, none⟩) (fun k hk => Nat.ne_of_gt hk) _)); have FG := Aside0.mk (show W.heap.size ≤ w5.heap.size from HB5.out.size)) | (have FA := Aside0.mk (show wz.heap[w6.heap.size]? = some (.cells #[.int .i64 ((nlin ss : Nat) : Int), .slice B1 op.length d1, .slice B2 (keys op).length d2, .slice B3 (keys op).length d3] 50 (0, 0)) from by rw [hW_]; (with_reducible repeat (first | refine blk_drewN ?_ _ | refine blk_drew ?_)); exact blk_new w6 _); have FM := Aside0.mk (show kSeg.M wz W.heap.size (fun k => W.heap.size ≤ k) (seg ((nlin ss : Nat) : Int) op) [.int .i64 ((nlin ss : Nat) : Int), .slice B1 op.length d1, .slice B2 (keys op).length d2, .slice B3 (keys op).length d3] from by rw [hW_]; exact Kd.M_below (d := kSeg) HMz.out (by repeat (first | exact Below.refl _ _ | apply below_alloc | apply below_drew1 | apply pw_below_drewN))); have FG := Aside0.mk HB6.out.size)
        clear hW_
        go_wp2_with fail
        go_meet
        exact ⟨_, B1, d1, B2, d2, B3, d3, rfl, FA, FM, gg, FG⟩
    case rest =>
      obtain ⟨gq, B1, d1, B2, d2, B3, d3, rfl, BKgq, HM6, HB6, GQ⟩ := hcut
      rename World => w6
      have BK6 := Aside0.mk (blk_below BK.out HB6.out)
      have HZ6 := Aside0.mk HB6.out.size
      obtain ⟨⟨y0, y0f⟩, ⟨y1, y1f⟩⟩ := cells2 BK6.out
      obtain ⟨⟨z0, z0f⟩, ⟨z1, z1f⟩⟩ := cells2 (blk_alloc BK6.out (.cells #[.int .i64 ((nlin ss : Nat) : Int), .slice B1 op.length d1, .slice B2 (keys op).length d2, .slice B3 (keys op).length d3] 50 (0, 0)))
      obtain ⟨⟨x0, x0f⟩, ⟨x1, x1f⟩, ⟨x2, x2f⟩, ⟨x3, x3f⟩⟩ := cells4 BKgq.out
      clear p0 q0 p1 q1
      go_wp2_with fail
      go_region_law (rw [← World.alloc_drew]; refine Kd.R_append_step kSeg (w0 := w0) w0.heap.size (by first | rfl | simp [Region.wanted]) (.tmp 25) (.tmp 27) 123 50 (.agg #[.int .i64 0, .slice none 0 0, .slice none 0 0, .slice none 0 0]) 80 (by rfl) Try.underlying123 infoSeg rfl (by decide) (by omega) (.slice Av ss.length cv) ss (seg ((nlin ss : Nat) : Int) op) [.int .i64 ((nlin ss : Nat) : Int), .slice B1 op.length d1, .slice B2 (keys op).length d2, .slice B3 (keys op).length d3] (fun k => gs < k) (fun k => W.heap.size ≤ k) (by first | rfl | (simp; done) | (simp; rfl)) (by first | rfl | (simp; done) | (simp; rfl)) ?aP ?aK ?aF ?aO ?aB ?aS ?aL ?_; (case aP => exact kSeg.M_lower HB.out.size (Kd.M_below HM6.out (by repeat (first | exact Below.refl _ _ | apply below_alloc | apply below_drew1 | apply pw_below_drewN)))); (case aK => exact fun k hk => ⟨by have h1 := GSN.out; have h2 : W.heap.size ≤ k := hk; omega, fun e => by have h2 : W.heap.size ≤ k := hk; have h3 := HOL.out k e.symm; omega⟩); (case aF => exact fun k hk => by have h1 := GSN.out; have h2 := HZ6.out; have h4 : w6.heap.size ≤ k := Nat.le_trans (below_size (by repeat (first | exact Below.refl _ _ | apply below_alloc | apply below_drew1 | apply pw_below_drewN))) hk; show gs < k; omega); (case aO => exact Kd.R_below (Kd.R_below (Kd.R_mono HR.out (fun k hk => hk.1)) HB6.out) (by repeat (first | exact Below.refl _ _ | apply below_alloc | apply below_drew1 | apply pw_below_drewN))); (case aB => exact grew_trans (grew_trans HB.out HB6.out) (by repeat (first | exact Below.refl _ _ | apply below_alloc | apply below_drew1 | apply pw_below_drewN))); (case aS => exact (grew_trans (grew_trans HB.out HB6.out) (by repeat (first | exact Below.refl _ _ | apply below_alloc | apply below_drew1 | apply pw_below_drewN))).size); (case aL => omega); intro v7 w7 hO7 hB7 hg7 hat7; obtain ⟨A7, c7, e7⟩ := Kd.R_slice hO7; rw [show (ss ++ [seg ((nlin ss : Nat) : Int) op]).length = ss.length + 1 from by rw [List.length_append, List.length_singleton]] at e7; subst e7; have HG7 := Aside0.mk (show w6.drew.grownBy w7 (Value.slice Av ss.length cv).ownBlock from hg7); have BK7 := Aside0.mk (blk_grown (g := gs) (blk_drew BK6.out) HG7.out (fun e => by have h1 := (HR.out.1 _ e.symm).1; omega)); obtain ⟨⟨rc0, rf0⟩, ⟨rc1, rf1⟩⟩ := cells2 BK7.out; have HO7 := Aside0.mk hO7; have HB7 := Aside0.mk hB7; clear hO7 hB7 hg7 hat7)
      all_goals
        obtain ⟨⟨t0, t0f⟩, ⟨t1, t1f⟩⟩ := cells2 (show (w7.setCell ⟨gs, 0, none⟩ (.slice A7 (ss.length + 1) c7)).heap[gs]? = some (.cells #[.slice A7 (ss.length + 1) c7, .slice Ao op.length co] 166 (0, 0)) from blk_put (cs := #[.slice Av ss.length cv, .slice Ao op.length co]) BK7.out 0 _ rfl)
        go_wp2
        go_ret
        rw [HEF.out]
        refine ⟨A7, c7, none, 0, rfl, ?_, ?_, (Kd.R_reads' (Kd.R_nil kB 33 _ 0 (fun _ => True))).2.2, Nat.le_refl _, below_set (below_set HB7.out hg0) hg0⟩
        · rw [show (ss ++ [seg ((nlin ss : Nat) : Int) op]).length = ss.length + 1 from by rw [List.length_append, List.length_singleton]]
          exact blk_put (cs := #[.slice A7 (ss.length + 1) c7, .slice Ao op.length co]) (blk_put (cs := #[.slice Av ss.length cv, .slice Ao op.length co]) BK7.out 0 _ rfl) 1 _ rfl
        · exact (Kd.R_reads' (Kd.R_far (Kd.R_far HO7.out (fun k hk => by show k ≠ gs; have h1 : gs < k := hk; omega) _) (fun k hk => by show k ≠ gs; have h1 : gs < k := hk; omega) _)).2.2
end Go.Proofs.Ytmgmdnmfalepkaa.Seal

namespace Go.Proofs.Ytmgmdnmfalepkaa.Seal
open Go.RowKit Go.Proofs.YtmgmdnmfalepkaaW.PrintWords Go.Proofs.YtmgmdnmfalepkaaW.PrintMore Go.Proofs.Ytmgmdnmfalepkaa.Kit Go.Proofs.Ytmgmdnmfalepkaa.PKit Go.Proofs.Ytmgmdnmfalepkaa.Ty Go.Proofs.Ytmgmdnmfalepkaa.PSeg Go.Proofs.Ytmgmdnmfalepkaa.PEnc Go.Proofs.Ytmgmdnmfalepkaa.PDec Go.Proofs.Ytmgmdnmfalepkaa.PSta Go.Proofs.Ytmgmdnmfalepkaa.HelpBB Go.Proofs.Ytmgmdnmfalepkaa.HelpSeg
open Go.Proofs.Ytmgmdnmfalepkaa.Build hiding code ans
open Go.Proofs.Ytmgmdnmfalepkaa.Sto Go.Proofs.Ytmgmdnmfalepkaa.Far Go.Proofs.Ytmgmdnmfalepkaa.SegS
set_option linter.unusedVariables false
set_option linter.unusedSimpArgs false
set_option maxRecDepth 100000 in
set_option maxHeartbeats 8000000 in
theorem specC (x0 : StaT) (v0 : Value) (w : World) (h0 : HelpSta.tSta.K w x0 v0) (s0 : HelpSta.smallSta x0) (y0 : Bytes x0.1) (y1 : Bytes x0.2) :
    Calls Try.prog 52 #[v0] w fun e w' => ∃ v', e = .returned (.tuple #[v', .int .i64 (seal_ x0).2]) ∧ HelpSta.tSta.K w' (seal_ x0).1 v' ∧ Grew w w' := by
  have huT := Try.underlying73
  have huI := Try.underlying50
  obtain ⟨q0, q1⟩ := HelpSta.small_parts s0
  obtain ⟨l, rfl, u0, r0, rfl, ⟨A0, c0, rfl, l0, k0⟩, u1, rfl, ⟨A1, c1, rfl, l1, k1⟩⟩ := h0
  have HSG := Aside0.mk (fun (W : World) (hW : Below w.heap.size w W) => segs_calls x0 A0 A1 c0 c1 W (Kd.C_below k0 hW) l0 (Kd.C_below k1 hW) l1 y0 q0 q1)
  have HCP := Aside0.mk (fun (W : World) (hW : Below w.heap.size w W) => copy2_calls x0 A0 A1 c0 c1 W (Kd.C_below k0 hW) l0 (Kd.C_below k1 hW) l1 q0 q1)
  have m1 := k0.2.1
  have m2 := k1.2.1
  have qb : x0.1.length ≤ 1048576 := by have h : x0.1.length + totalB x0.1 ≤ 1048576 := q0; omega
  have K1 := Aside0.mk k1
  have Y1 := Aside0.mk y1
  have Q1 := Aside0.mk q1
  clear k0 k1 y0 y1 s0 q0 q1
  show Calls Try.prog 52 #[.agg #[.slice A0 x0.1.length c0, .slice A1 x0.2.length c1]] w _
  go_enter Try.func52, Try.ntmps52
  go_wp2_with (first | ((with_reducible refine gate_dst (N := 1) rfl ?_); refine box_event ?hg (N := 1) ?hd (cs := #[.slice A0 x0.1.length c0, .slice A1 x0.2.length c1]) (t := 73) ?hr ?_; (case hd => rfl); (case hg => rfl); (case hr => first | (go_simp; done) | (go_simp; rfl)); intro gx hg_ w1 hbx hbb; have BKgx := Aside0.mk hbx; have GEgx := Aside0.mk (show w.heap.size ≤ gx from Nat.le_of_eq hg_.symm); have GLgx := Aside0.mk (blk_lt hbx); have HBw1 := Aside0.mk hbb; clear hg_ hbb; obtain ⟨⟨hgxc0, hgxf0⟩, ⟨hgxc1, hgxf1⟩⟩ := cells2 hbx; clear hbx) | ((with_reducible refine gate_dst (N := 2) rfl ?_); refine box_event ?hg (N := 2) ?hd (cs := #[.slice none 0 0, .slice none 0 0]) (t := 73) ?hr ?_; (case hd => rfl); (case hg => rfl); (case hr => first | (go_simp; done) | (go_simp; rfl)); intro gr hg_ w2 hbx hbb; have BKgr := Aside0.mk hbx; have GEgr := Aside0.mk (show w1.heap.size ≤ gr from Nat.le_of_eq hg_.symm); have GLgr := Aside0.mk (blk_lt hbx); have HBw2 := Aside0.mk hbb; clear hg_ hbb; obtain ⟨⟨hgrc0, hgrf0⟩, ⟨hgrc1, hgrf1⟩⟩ := cells2 hbx; clear hbx; have BKp_ := Aside0.mk (blk_below BKgx.out HBw2.out); clear BKgx hgxc0 hgxf0 hgxc1 hgxf1; have BKgx := BKp_; clear BKp_; obtain ⟨⟨pc0, pf0⟩, ⟨pc1, pf1⟩⟩ := cells2 BKgx.out))
  have HB2 := Aside0.mk (show Below w.heap.size w w2 from grew_trans HBw1.out HBw2.out)
  have GER := Aside0.mk (show w.heap.size ≤ gr from Nat.le_trans HBw1.out.size GEgr.out)
  have GLR := Aside0.mk (blk_lt BKgr.out)
  clear hgrc0 hgrf0 hgrc1 hgrf1 pc0 pf0 pc1 pf1
  go_at_call 110
  refine (HSG.out _ HB2.out).mono ?_
  rintro e w3 ⟨hG3, hb3⟩
  have BK3 := Aside0.mk (blk_below BKgx.out hb3)
  have BR3 := Aside0.mk (blk_below BKgr.out hb3)
  have HB3 := Aside0.mk (show Below w.heap.size w w3 from grew_trans HB2.out hb3)
  have HB23 := Aside0.mk hb3
  obtain ⟨⟨p0, pf0⟩, ⟨p1, pf1⟩⟩ := cells2 BK3.out
  clear hb3
  unfold GotS at hG3
  cases hs : segsOf x0 with
  | none =>
    rw [hs] at hG3
    obtain rfl := hG3
    have HS := Aside0.mk hs
    clear hs
    obtain ⟨⟨r0, rf0⟩, ⟨r1, rf1⟩⟩ := cells2 BR3.out
    go_wp2
    refine bodyPost_ret (results_ct rfl _ _ gr 73 #[.slice none 0 0, .slice none 0 0] (0, 0) _ rfl (by (with_reducible repeat (first | refine blk_drewN ?_ _ | refine blk_drew ?_ | refine blk_alloc ?_ _)); refine blk_put (cs := #[.slice none 0 0, .slice none 0 0]) ?_ 1 _ rfl; (with_reducible repeat (first | refine blk_drewN ?_ _ | refine blk_drew ?_ | refine blk_alloc ?_ _)); refine blk_put (cs := #[.slice none 0 0, .slice none 0 0]) ?_ 0 _ rfl; (with_reducible repeat (first | refine blk_drewN ?_ _ | refine blk_drew ?_ | refine blk_alloc ?_ _)); exact BR3.out) Try.underlying73 rfl (by kernel_rfl)) rfl ?_
    rw [show seal_ x0 = (([], []), 4) from by unfold seal_; rw [HS.out]]
    exact ⟨_, rfl, HelpSta.tSta.K_of_M (two_M _ 0), below_set (below_set (HB3.out) GER.out) GER.out⟩
  | some ss =>
    rw [hs] at hG3
    obtain ⟨Av, cv, rfl, hC⟩ := hG3
    have HC := Aside0.mk hC
    have HFT := Aside0.mk (fun h => seal_fits hs h)
    obtain ⟨n1, n2, n3⟩ := chain_len0 (segsOf_some hs).1
    have HSV := Aside0.mk (show seal_ x0 = ((if x0.2 = [] then x0.1 else x0.1 ++ [code (seg ((nlin ss : Nat) : Int) x0.2)], []), 0) from by unfold seal_; rw [hs])
    clear hs hC
    by_cases hop : x0.2 = []
    case pos =>
      have hz : x0.2.length = 0 := by rw [hop]; rfl
      have hlz : ¬ (x0.2.length : Int) > 0 := by omega
      have HOP := Aside0.mk hop
      have HZ := Aside0.mk hz
      clear hop hz
      go_wp2_with (go_at_call 111; refine (HCP.out _ HB3.out).mono ?_; rintro e wc ⟨E0, e0, E1, e1, N, rfl, hS0, hS1, hN1, hN2, hb4⟩; have HB34 := Aside0.mk hb4; have HBC := Aside0.mk (show Below w.heap.size w wc from grew_trans HB3.out hb4); have HN1 := Aside0.mk hN1; have HN2 := Aside0.mk hN2; have HS0 := Aside0.mk hS0; have HS1 := Aside0.mk hS1; have BKX := Aside0.mk (blk_below BK3.out hb4); have BKR := Aside0.mk (blk_below BR3.out hb4); obtain ⟨⟨v0, vf0⟩, ⟨v1, vf1⟩⟩ := cells2 (blk_alloc BKX.out (.cells #[.slice E0 x0.1.length e0, .slice E1 x0.2.length e1] 73 (0, 0))); obtain ⟨⟨o0, of0⟩, ⟨o1, of1⟩⟩ := cells2 (blk_new wc (.cells #[.slice E0 x0.1.length e0, .slice E1 x0.2.length e1] 73 (0, 0))); obtain ⟨⟨n0, nf0⟩, ⟨n1, nf1⟩⟩ := cells2 (blk_alloc BKR.out (.cells #[.slice E0 x0.1.length e0, .slice E1 x0.2.length e1] 73 (0, 0))); clear hS0 hS1 hN1 hN2 hb4)
      refine bodyPost_ret (results_ct rfl _ _ gr 73 #[.slice E0 x0.1.length e0, .slice E1 x0.2.length e1] (0, 0) _ rfl (by (with_reducible repeat (first | refine blk_drewN ?_ _ | refine blk_drew ?_ | refine blk_alloc ?_ _)); refine blk_put (cs := #[.slice E0 x0.1.length e0, .slice none 0 0]) ?_ 1 _ rfl; (with_reducible repeat (first | refine blk_drewN ?_ _ | refine blk_drew ?_ | refine blk_alloc ?_ _)); refine blk_put (cs := #[.slice none 0 0, .slice none 0 0]) ?_ 0 _ rfl; (with_reducible repeat (first | refine blk_drewN ?_ _ | refine blk_drew ?_ | refine blk_alloc ?_ _)); exact BKR.out) Try.underlying73 rfl (by kernel_rfl)) rfl ?_
      rw [HSV.out, if_pos HOP.out]
      refine ⟨_, rfl, ⟨[_, _], rfl, _, _, rfl, ?_, _, rfl, ?_⟩, below_set (below_set ((below_alloc HBC.out _)) GER.out) GER.out⟩
      · exact HelpBB.tBB.K_of_M ((Ty.M_set (T := HelpBB.tBB) (Ty.M_set (T := HelpBB.tBB) (Ty.M_below (T := HelpBB.tBB) (HelpBB.tBB.M_bound HS0.out) (below_alloc (Below.refl _ _) _)) (fun k hk e => by have h1 := hk.2.1; have h2 := GLR.out; have h3 := HB23.out.size; omega) _) (fun k hk e => by have h1 := hk.2.1; have h2 := GLR.out; have h3 := HB23.out.size; omega) _))
      · show HelpBB.tBB.K _ [] _
        rw [← HOP.out]
        exact HelpBB.tBB.K_of_M ((Ty.M_set (T := HelpBB.tBB) (Ty.M_set (T := HelpBB.tBB) (Ty.M_below (T := HelpBB.tBB) (HelpBB.tBB.M_bound HS1.out) (below_alloc (Below.refl _ _) _)) (fun k hk e => by have h1 := hk.2.1; have h2 := GLR.out; have h3 := HB23.out.size; omega) _) (fun k hk e => by have h1 := hk.2.1; have h2 := GLR.out; have h3 := HB23.out.size; omega) _))
    case neg =>
      have hl1 : 0 < x0.2.length := List.length_pos_iff.2 hop
      have hlz : (x0.2.length : Int) > 0 := by omega
      have HFF := Aside0.mk (HFT.out hop)
      have HOP := Aside0.mk hop
      clear hop
      go_upto_region 6 with (go_at_call 111; refine (HCP.out _ HB3.out).mono ?_; rintro e wc ⟨E0, e0, E1, e1, N, rfl, hS0, hS1, hN1, hN2, hb4⟩; have HB34 := Aside0.mk hb4; have HBC := Aside0.mk (show Below w.heap.size w wc from grew_trans HB3.out hb4); have HN1 := Aside0.mk hN1; have HN2 := Aside0.mk hN2; have HS0 := Aside0.mk hS0; have HS1 := Aside0.mk hS1; have BKX := Aside0.mk (blk_below BK3.out hb4); have BKR := Aside0.mk (blk_below BR3.out hb4); obtain ⟨⟨v0, vf0⟩, ⟨v1, vf1⟩⟩ := cells2 (blk_alloc BKX.out (.cells #[.slice E0 x0.1.length e0, .slice E1 x0.2.length e1] 73 (0, 0))); obtain ⟨⟨o0, of0⟩, ⟨o1, of1⟩⟩ := cells2 (blk_new wc (.cells #[.slice E0 x0.1.length e0, .slice E1 x0.2.length e1] 73 (0, 0))); obtain ⟨⟨n0, nf0⟩, ⟨n1, nf1⟩⟩ := cells2 (blk_alloc BKR.out (.cells #[.slice E0 x0.1.length e0, .slice E1 x0.2.length e1] 73 (0, 0))); clear hS0 hS1 hN1 hN2 hb4)
      obtain ⟨go, hgo⟩ : ∃ g_, g_ = wc.heap.size := ⟨_, rfl⟩
      obtain ⟨wd, hwd⟩ : ∃ w_, w_ = wc.alloc (.cells #[.slice E0 x0.1.length e0, .slice E1 x0.2.length e1] 73 (0, 0)) := ⟨_, rfl⟩
      rw [← hwd, ← hgo]
      have BO := Aside0.mk (show wd.heap[go]? = some (.cells #[.slice E0 x0.1.length e0, .slice E1 x0.2.length e1] 73 (0, 0)) from by rw [hwd, hgo]; exact blk_new wc _)
      have hbd : Below wc.heap.size wc wd := by rw [hwd]; exact below_alloc (Below.refl _ _) _
      have GOE := Aside0.mk (show wc.heap.size ≤ go from Nat.le_of_eq hgo.symm)
      have GOL := Aside0.mk (show go < wd.heap.size from blk_lt BO.out)
      have HBD := Aside0.mk (show Below w.heap.size w wd from grew_trans HBC.out hbd)
      have BXD := Aside0.mk (blk_below BKX.out hbd)
      have BRD := Aside0.mk (blk_below BKR.out hbd)
      have HE0 := Aside0.mk (show HelpBB.tBB.M wd w.heap.size (fun k => gr < k ∧ k < go ∧ k < N) x0.1 (.slice E0 x0.1.length e0) from HelpBB.tBB.M_mono (fun k hk => ⟨by have h1 := hk.2.1; have h2 := GLR.out; have h3 := HB23.out.size; omega, by have h1 := hk.2.2; have h2 := GOE.out; omega, hk.1⟩) (Ty.M_below (T := HelpBB.tBB) (HelpBB.tBB.M_lower HB3.out.size (HelpBB.tBB.M_bound HS0.out)) hbd))
      have HFL := Aside0.mk (fun (W : World) (hW : Below w3.heap.size w3 W) => flat_calls Av cv ss.length ss rfl W (Kd.C_below HC.out hW) (by omega))
      have HW3 := Aside0.mk (show Below w3.heap.size w3 wd from grew_trans HB34.out hbd)
      have HBU := Aside0.mk (fun (W : World) (hW : Below w.heap.size w W) => bld_good ((nlin ss : Nat) : Int) A1 x0.2.length c1 x0.2 rfl W (Kd.C_below K1.out hW) l1 Y1.out Q1.out HFF.out)
      have HGOOD := Aside0.mk (show Sto.Good (seg ((nlin ss : Nat) : Int) x0.2) from ⟨rfl, HFF.out, Y1.out⟩)
      have HKP := Aside0.mk (show ∀ W : World, Below wd.heap.size wd W → (W.cell? ⟨gx, 0, none⟩ = some (.slice A0 x0.1.length c0) ∧ W.cell? ⟨gx, 1, none⟩ = some (.slice A1 x0.2.length c1)) from fun W hW => ⟨(blk_cell (blk_below BXD.out hW) 0).trans rfl, (blk_cell (blk_below BXD.out hW) 1).trans rfl⟩)
      clear hgo hwd hbd v0 vf0 v1 vf1 o0 of0 o1 of1 n0 nf0 n1 nf1 p0 pf0 p1 pf1
      go_cut [7] (fun sv_ wx => ∃ (gq : Nat) (B1 : Option Addr) (d1 : Nat) (B2 : Option Addr) (d2 : Nat) (B3 : Option Addr) (d3 : Nat), sv_ = .pointer (some ⟨gq, 0, none⟩) ∧ Aside0 (wx.heap[gq]? = some (.cells #[.int .i64 ((nlin ss : Nat) : Int), .slice B1 x0.2.length d1, .slice B2 (keys x0.2).length d2, .slice B3 (keys x0.2).length d3] 50 (0, 0))) ∧ Aside0 (kSeg.M wx wd.heap.size (fun k => wd.heap.size ≤ k) (seg ((nlin ss : Nat) : Int) x0.2) [.int .i64 ((nlin ss : Nat) : Int), .slice B1 x0.2.length d1, .slice B2 (keys x0.2).length d2, .slice B3 (keys x0.2).length d3]) ∧ Aside0 (Below wd.heap.size wd wx) ∧ Aside0 (wd.heap.size ≤ gq))
      case first =>
        go_region_held3 (fun W_ => W_.cell? ⟨gx, 0, none⟩ = some (.slice A0 x0.1.length c0) ∧ W_.cell? ⟨gx, 1, none⟩ = some (.slice A1 x0.2.length c1)) ((refine HKP.out _ ?_; repeat (with_reducible first | exact HB6.out | exact HB5.out | exact Below.refl _ _ | refine below_alloc ?_ _ | refine below_drew1 ?_ | refine pw_below_drewN ?_ _ | refine below_set ?_ (by first | exact Nat.le_refl _ | exact HB5.out.size | exact HB6.out.size)))) (first | (go_at_call 112; (with_reducible refine (HFL.out _ (grew_trans HW3.out ?h)).mono ?_); (case h => exact (by repeat (first | exact Below.refl _ _ | apply below_alloc | apply below_drew1 | apply pw_below_drewN))); rintro e w5 ⟨A9, c9, rfl, hR9, hb_⟩; (try have BKz0 := Aside0.mk (show w5.heap[wd.heap.size]? = some (.cells #[.int .i64 0, .slice none 0 0, .slice none 0 0, .slice none 0 0] 50 (0, 0)) from blk_below (by (with_reducible repeat (first | refine blk_drewN ?_ _ | refine blk_drew ?_)); exact heap_alloc_new _ _) hb_)); have HB5 := Aside0.mk (show Below wd.heap.size wd w5 from grew_trans (by repeat (first | exact Below.refl _ _ | apply below_alloc | apply below_drew1 | apply pw_below_drewN)) hb_); clear hb_) | (go_at_call 92; (with_reducible refine (HBU.out _ (grew_trans HBD.out ?h)).mono ?_); (case h => exact (by repeat (first | exact Below.refl _ _ | exact HB5.out | apply below_alloc | apply below_drew1 | apply pw_below_drewN))); rintro e w6 ⟨B1, d1, B2, d2, B3, d3, rfl, hM_, hb_⟩; (first | (have BKz1 := Aside0.mk (show w6.heap[wd.heap.size]? = some (.cells #[.int .i64 0, .slice none 0 0, .slice none 0 0, .slice none 0 0] 50 (0, 0)) from blk_below (by (with_reducible repeat (first | refine blk_drewN ?_ _ | refine blk_drew ?_)); exact BKz0.out) hb_); obtain ⟨⟨zc0, zf0⟩, ⟨zc1, zf1⟩, ⟨zc2, zf2⟩, ⟨zc3, zf3⟩⟩ := cells4 BKz1.out; have HMz := Aside0.mk (show kSeg.M w6 wd.heap.size (fun k => wd.heap.size < k) (seg ((nlin ss : Nat) : Int) x0.2) [.int .i64 ((nlin ss : Nat) : Int), .slice B1 x0.2.length d1, .slice B2 (keys x0.2).length d2, .slice B3 (keys x0.2).length d3] from kSeg.M_mono (fun k hk => Nat.lt_of_lt_of_le (blk_lt (by (with_reducible repeat (first | refine blk_drewN ?_ _ | refine blk_drew ?_)); exact BKz0.out)) hk.2.1) (kSeg.M_lower (below_size (by repeat (first | exact Below.refl _ _ | exact HB5.out | apply below_alloc | apply below_drew1 | apply pw_below_drewN))) (kSeg.M_bound hM_)))) | (have BKy := Aside0.mk (show w6.heap[w5.heap.size]? = some (.cells #[.int .i64 0, .slice none 0 0, .slice none 0 0, .slice none 0 0] 50 (0, 0)) from blk_below (by (with_reducible repeat (first | refine blk_drewN ?_ _ | refine blk_drew ?_)); exact heap_alloc_new _ _) hb_); obtain ⟨⟨zc0, zf0⟩, ⟨zc1, zf1⟩, ⟨zc2, zf2⟩, ⟨zc3, zf3⟩⟩ := cells4 BKy.out; have HMz := Aside0.mk (show kSeg.M w6 wd.heap.size (fun k => w5.heap.size < k) (seg ((nlin ss : Nat) : Int) x0.2) [.int .i64 ((nlin ss : Nat) : Int), .slice B1 x0.2.length d1, .slice B2 (keys x0.2).length d2, .slice B3 (keys x0.2).length d3] from kSeg.M_mono (fun k hk => Nat.lt_of_lt_of_le (blk_lt (by (with_reducible repeat (first | refine blk_drewN ?_ _ | refine blk_drew ?_)); exact heap_alloc_new _ (.cells #[.int .i64 0, .slice none 0 0, .slice none 0 0, .slice none 0 0] 50 (0, 0)))) hk.2.1) (kSeg.M_lower (below_size (by repeat (first | exact Below.refl _ _ | exact HB5.out | apply below_alloc | apply below_drew1 | apply pw_below_drewN))) (kSeg.M_bound hM_)))) | (have HMz := Aside0.mk (show kSeg.M w6 wd.heap.size (fun k => wd.heap.size ≤ k) (seg ((nlin ss : Nat) : Int) x0.2) [.int .i64 ((nlin ss : Nat) : Int), .slice B1 x0.2.length d1, .slice B2 (keys x0.2).length d2, .slice B3 (keys x0.2).length d3] from kSeg.M_mono (fun k hk => Nat.le_trans (below_size (by repeat (first | exact Below.refl _ _ | exact HB5.out | apply below_alloc | apply below_drew1 | apply pw_below_drewN))) hk.2.1) (kSeg.M_lower (below_size (by repeat (first | exact Below.refl _ _ | exact HB5.out | apply below_alloc | apply below_drew1 | apply pw_below_drewN))) (kSeg.M_bound hM_))))); have HB6 := Aside0.mk (show Below wd.heap.size wd w6 from grew_trans (by repeat (first | exact Below.refl _ _ | exact HB5.out | apply below_alloc | apply below_drew1 | apply pw_below_drewN)) hb_); clear hb_ hM_))
        all_goals
          refine gen_world _ _ ?_
          intro wz hW_
          have gg := Aside0.mk (show Below wd.heap.size wd wz from by rw [hW_]; repeat (first | exact HB6.out | apply below_alloc | apply below_drew1 | apply pw_below_drewN | refine below_set ?_ (by first | exact Nat.le_refl _ | exact HB5.out.size)))
          first | (have FA := Aside0.mk (show wz.heap[wd.heap.size]? = some (.cells #[.int .i64 ((nlin ss : Nat) : Int), .slice B1 x0.2.length d1, .slice B2 (keys x0.2).length d2, .slice B3 (keys x0.2).length d3] 50 (0, 0)) from by rw [hW_]; (with_reducible repeat (first | refine blk_drewN ?_ _ | refine blk_drew ?_)); refine blk_put (cs := #[.int .i64 ((nlin ss : Nat) : Int), .slice B1 x0.2.length d1, .slice B2 (keys x0.2).length d2, .slice none 0 0]) ?_ 3 _ rfl; (with_reducible repeat (first | refine blk_drewN ?_ _ | refine blk_drew ?_)); refine blk_put (cs := #[.int .i64 ((nlin ss : Nat) : Int), .slice B1 x0.2.length d1, .slice none 0 0, .slice none 0 0]) ?_ 2 _ rfl; (with_reducible repeat (first | refine blk_drewN ?_ _ | refine blk_drew ?_)); refine blk_put (cs := #[.int .i64 ((nlin ss : Nat) : Int), .slice none 0 0, .slice none 0 0, .slice none 0 0]) ?_ 1 _ rfl; (with_reducible repeat (first | refine blk_drewN ?_ _ | refine blk_drew ?_)); refine blk_put (cs := #[.int .i64 0, .slice none 0 0, .slice none 0 0, .slice none 0 0]) ?_ 0 _ rfl; (with_reducible repeat (first | refine blk_drewN ?_ _ | refine blk_drew ?_)); exact BKz1.out); have FM := Aside0.mk (show kSeg.M wz wd.heap.size (fun k => wd.heap.size ≤ k) (seg ((nlin ss : Nat) : Int) x0.2) [.int .i64 ((nlin ss : Nat) : Int), .slice B1 x0.2.length d1, .slice B2 (keys x0.2).length d2, .slice B3 (keys x0.2).length d3] from by rw [hW_]; exact kSeg.M_mono (fun k hk => Nat.le_of_lt hk) (Kd.M_far (d := kSeg) (Kd.M_far (d := kSeg) (Kd.M_far (d := kSeg) (Kd.M_far (d := kSeg) HMz.out (p := ⟨_, 0, none⟩) (fun k hk => Nat.ne_of_gt hk) _) (p := ⟨_, 1, none⟩) (fun k hk => Nat.ne_of_gt hk) _) (p := ⟨_, 2, none⟩) (fun k hk => Nat.ne_of_gt hk) _) (p := ⟨_, 3, none⟩) (fun k hk => Nat.ne_of_gt hk) _)); have FG := Aside0.mk (show wd.heap.size ≤ wd.heap.size from Nat.le_refl _)) | (have FA := Aside0.mk (show wz.heap[w5.heap.size]? = some (.cells #[.int .i64 ((nlin ss : Nat) : Int), .slice B1 x0.2.length d1, .slice B2 (keys x0.2).length d2, .slice B3 (keys x0.2).length d3] 50 (0, 0)) from by rw [hW_]; (with_reducible repeat (first | refine blk_drewN ?_ _ | refine blk_drew ?_)); refine blk_put (cs := #[.int .i64 ((nlin ss : Nat) : Int), .slice B1 x0.2.length d1, .slice B2 (keys x0.2).length d2, .slice none 0 0]) ?_ 3 _ rfl; (with_reducible repeat (first | refine blk_drewN ?_ _ | refine blk_drew ?_)); refine blk_put (cs := #[.int .i64 ((nlin ss : Nat) : Int), .slice B1 x0.2.length d1, .slice none 0 0, .slice none 0 0]) ?_ 2 _ rfl; (with_reducible repeat (first | refine blk_drewN ?_ _ | refine blk_drew ?_)); refine blk_put (cs := #[.int .i64 ((nlin ss : Nat) : Int), .slice none 0 0, .slice none 0 0, .slice none 0 0]) ?_ 1 _ rfl; (with_reducible repeat (first | refine blk_drewN ?_ _ | refine blk_drew ?_)); refine blk_put (cs := #[.int .i64 0, .slice none 0 0, .slice none 0 0, .slice none 0 0]) ?_ 0 _ rfl; (with_reducible repeat (first | refine blk_drewN ?_ _ | refine blk_drew ?_)); exact BKy.out); have FM := Aside0.mk (show kSeg.M wz wd.heap.size (fun k => wd.heap.size ≤ k) (seg ((nlin ss : Nat) : Int) x0.2) [.int .i64 ((nlin ss : Nat) : Int), .slice B1 x0.2.length d1, .slice B2 (keys x0.2).length d2, .slice B3 (keys x0.2).length d3] from by rw [hW_]; exact kSeg.M_mono (fun k hk => Nat.le_trans HB5.out.size (Nat.le_of_lt hk)) (Kd.M_far (d := kSeg) (Kd.M_far (d := kSeg) (Kd.M_far (d := kSeg) (Kd.M_far (d := kSeg) HMz.out (p := ⟨_, 0, none⟩) (fun k hk => Nat.ne_of_gt hk) _) (p := ⟨_, 1, none⟩) (fun k hk => Nat.ne_of_gt hk) _) (p := ⟨_, 2, none⟩) (fun k hk => Nat.ne_of_gt hk) _) (p := ⟨_, 3, none⟩) (fun k hk => Nat.ne_of_gt hk) _)); have FG := Aside0.mk (show wd.heap.size ≤ w5.heap.size from HB5.out.size)) | (have FA := Aside0.mk (show wz.heap[w6.heap.size]? = some (.cells #[.int .i64 ((nlin ss : Nat) : Int), .slice B1 x0.2.length d1, .slice B2 (keys x0.2).length d2, .slice B3 (keys x0.2).length d3] 50 (0, 0)) from by rw [hW_]; (with_reducible repeat (first | refine blk_drewN ?_ _ | refine blk_drew ?_)); exact blk_new w6 _); have FM := Aside0.mk (show kSeg.M wz wd.heap.size (fun k => wd.heap.size ≤ k) (seg ((nlin ss : Nat) : Int) x0.2) [.int .i64 ((nlin ss : Nat) : Int), .slice B1 x0.2.length d1, .slice B2 (keys x0.2).length d2, .slice B3 (keys x0.2).length d3] from by rw [hW_]; exact Kd.M_below (d := kSeg) HMz.out (by repeat (first | exact Below.refl _ _ | apply below_alloc | apply below_drew1 | apply pw_below_drewN))); have FG := Aside0.mk HB6.out.size)
          clear hW_
          go_wp2_with fail
          go_meet
          exact ⟨_, B1, d1, B2, d2, B3, d3, rfl, FA, FM, gg, FG⟩
      case rest =>
        obtain ⟨gq, B1, d1, B2, d2, B3, d3, rfl, BKgq, HM6, HB6, GQ⟩ := hcut
        rename World => w6
        have BO6 := Aside0.mk (blk_below BO.out HB6.out)
        have HE6 := Aside0.mk (Ty.M_below (T := HelpBB.tBB) HE0.out HB6.out)
        have HOL := Aside0.mk (fun k (h : (Value.slice E0 x0.1.length e0).ownBlock = some k) => (Kd.S_R HE0.out).1 k h)
        have BQ6 := Aside0.mk BKgq.out
        have HEN := Aside0.mk (fun (W : World) (hW : Below w6.heap.size w6 W) => show Calls Try.prog 102 #[.agg #[.int .i64 ((nlin ss : Nat) : Int), .slice B1 x0.2.length d1, .slice B2 (keys x0.2).length d2, .slice B3 (keys x0.2).length d3]] W (fun e w' => ∃ v', e = .returned v' ∧ Kd.R (Kd.int .u8) 5 w' W.heap.size (fun _ => True) v' (code (seg ((nlin ss : Nat) : Int) x0.2)) ∧ Grew W w') from encS_calls (seg ((nlin ss : Nat) : Int) x0.2) B1 B2 B3 d1 d2 d3 x0.2.length (keys x0.2).length (keys x0.2).length rfl rfl (List.length_map ..).symm W (kSeg.K_below hW (kSeg.K_of_M HM6.out)) HGOOD.out)
        generalize seg ((nlin ss : Nat) : Int) x0.2 = sg at HEN HM6 HSV
        obtain ⟨⟨x0_, x0f⟩, ⟨x1, x1f⟩, ⟨x2, x2f⟩, ⟨x3, x3f⟩⟩ := cells4 BKgq.out
        obtain ⟨⟨y0, y0f⟩, ⟨y1, y1f⟩⟩ := cells2 BO6.out
        have HBX := Aside0.mk (show Below w.heap.size w w6 from grew_trans HBD.out HB6.out)
        go_wp2_with fail
        go_region_law (first | (go_simp; go_at_call 102; (with_reducible refine (HEN.out _ (by repeat (first | exact Below.refl _ _ | apply below_alloc | apply below_drew1 | apply pw_below_drewN))).mono ?_); rintro e w7 ⟨v7, rfl, hM7, hb7⟩; obtain ⟨A7, c7, rfl⟩ := Kd.R_slice hM7; have HB7 := Aside0.mk (show Below w6.heap.size w6 w7 from grew_trans (by repeat (first | exact Below.refl _ _ | apply below_alloc | apply below_drew1 | apply pw_below_drewN)) hb7); have HM7 := Aside0.mk (show Kd.R (Kd.int .u8) 5 w7 w6.heap.size (fun _ => True) (.slice A7 (code sg).length c7) (code sg) from Kd.R_lower hM7 (below_size (by repeat (first | exact Below.refl _ _ | apply below_alloc | apply below_drew1 | apply pw_below_drewN)))); have BO7 := Aside0.mk (blk_below BO6.out HB7.out); obtain ⟨⟨zc0, zf0⟩, ⟨zc1, zf1⟩⟩ := cells2 BO7.out; obtain ⟨⟨rc0, rf0⟩, ⟨rc1, rf1⟩⟩ := cells2 (blk_alloc BO7.out (.cells #[.slice A7 (code sg).length c7] 33 (0, 0))); clear hM7 hb7) | (refine Kd.S_append_step kB (w0 := w) w.heap.size (by first | rfl | simp [Region.wanted]) (.tmp 29) (.tmp 32) 41 33 (.slice none 0 0) 24 (by rfl) Try.underlying41 infoBB rfl (by decide) (by omega) (.slice E0 x0.1.length e0) x0.1 (code sg) [.slice A7 (code sg).length c7] (fun k => gr < k ∧ k ≠ go) (fun k_ => some k_ = (.slice A7 (code sg).length c7 : Value).ownBlock) (by first | rfl | (simp; done) | (simp; rfl)) (by first | rfl | (simp; done) | (simp; rfl)) ?aP ?aK ?aF ?aO ?aB ?aS ?aL ?_; (case aP => exact Kd.M_row (Kd.R_lower (Kd.R_below (Kd.R_tight rfl HM7.out) (by repeat (first | exact Below.refl _ _ | apply below_alloc | apply below_drew1 | apply pw_below_drewN))) HBX.out.size)); (case aK => exact fun k hk => ⟨by have h1 := Kd.R_base HM7.out k hk.symm; have h2 := HB6.out.size; have h3 := GOL.out; have h4 := GLR.out; have h5 := HB23.out.size; have h6 := HW3.out.size; exact ⟨by omega, by omega⟩, fun e => by have h1 := Kd.R_base HM7.out k hk.symm; have h2 := HOL.out k e.symm; have h3 := HB6.out.size; have h4 := GOL.out; omega⟩); (case aF => exact fun k hk => by have h2 := HB6.out.size; have h3 := HB7.out.size; have h4 : w7.heap.size ≤ k := Nat.le_trans (below_size (by repeat (first | exact Below.refl _ _ | apply below_alloc | apply below_drew1 | apply pw_below_drewN))) hk; have h5 := GOL.out; have h6 := GLR.out; have h7 := HB23.out.size; have h8 := HW3.out.size; exact ⟨by omega, by omega⟩); (case aO => exact HelpBB.tBB.M_mono (fun k hk => ⟨⟨hk.1, by have h1 := hk.2.1; omega⟩, fun e => by have h1 := Kd.R_base HM7.out k e.symm; have h2 := hk.2.1; have h3 := HB6.out.size; have h4 := GOL.out; omega⟩) (Ty.M_below (T := HelpBB.tBB) (Ty.M_below (T := HelpBB.tBB) HE6.out HB7.out) (by repeat (first | exact Below.refl _ _ | apply below_alloc | apply below_drew1 | apply pw_below_drewN)))); (case aB => exact grew_trans (grew_trans HBX.out HB7.out) (by repeat (first | exact Below.refl _ _ | apply below_alloc | apply below_drew1 | apply pw_below_drewN))); (case aS => exact (grew_trans (grew_trans HBX.out HB7.out) (by repeat (first | exact Below.refl _ _ | apply below_alloc | apply below_drew1 | apply pw_below_drewN))).size); (case aL => omega); intro v8 w8 hO8 hB8 hg8 hat8; obtain ⟨A8, c8, e8⟩ := Kd.S_slice hO8; rw [show (x0.1 ++ [code sg]).length = x0.1.length + 1 from by rw [List.length_append, List.length_singleton]] at e8; subst e8; have BO8 := Aside0.mk (blk_grown (g := go) (blk_below BO7.out (by repeat (first | exact Below.refl _ _ | apply below_alloc | apply below_drew1 | apply pw_below_drewN))) hg8 (fun e => by have h1 := HOL.out _ e.symm; omega)); have BR8 := Aside0.mk (blk_grown (g := gr) (blk_below (blk_below (blk_below BRD.out HB6.out) HB7.out) (by repeat (first | exact Below.refl _ _ | apply below_alloc | apply below_drew1 | apply pw_below_drewN))) hg8 (fun e => by have h1 := HOL.out _ e.symm; omega)); obtain ⟨⟨qc0, qf0⟩, ⟨qc1, qf1⟩⟩ := cells2 BO8.out; have HO8 := Aside0.mk hO8; have HB8 := Aside0.mk hB8; clear hO8 hB8 hg8 hat8))
        all_goals
          obtain ⟨⟨t0, t0f⟩, ⟨t1, t1f⟩⟩ := cells2 (show (w8.setCell ⟨go, 0, none⟩ (.slice A8 (x0.1.length + 1) c8)).heap[go]? = some (.cells #[.slice A8 (x0.1.length + 1) c8, .slice E1 x0.2.length e1] 73 (0, 0)) from blk_put (cs := #[.slice E0 x0.1.length e0, .slice E1 x0.2.length e1]) BO8.out 0 _ rfl)
          obtain ⟨⟨m0_, m0f⟩, ⟨m1_, m1f⟩⟩ := cells2 (show ((w8.setCell ⟨go, 0, none⟩ (.slice A8 (x0.1.length + 1) c8)).setCell ⟨go, 1, none⟩ (.slice none 0 0)).heap[go]? = some (.cells #[.slice A8 (x0.1.length + 1) c8, .slice none 0 0] 73 (0, 0)) from blk_put (cs := #[.slice A8 (x0.1.length + 1) c8, .slice E1 x0.2.length e1]) (blk_put (cs := #[.slice E0 x0.1.length e0, .slice E1 x0.2.length e1]) BO8.out 0 _ rfl) 1 _ rfl)
          have NRO := Aside0.mk (show gr ≠ go from fun e => by have h1 := GLR.out; have h2 := HB23.out.size; have h3 := HB34.out.size; have h4 := GOE.out; omega)
          have BR9 := Aside0.mk (show ((w8.setCell ⟨go, 0, none⟩ (.slice A8 (x0.1.length + 1) c8)).setCell ⟨go, 1, none⟩ (.slice none 0 0)).heap[gr]? = some (.cells #[.slice none 0 0, .slice none 0 0] 73 (0, 0)) from blk_far (blk_far BR8.out NRO.out _) NRO.out _)
          obtain ⟨⟨n0, n0f⟩, ⟨n1, n1f⟩⟩ := cells2 BR9.out
          go_wp2
          refine bodyPost_ret (results_ct rfl _ _ gr 73 #[.slice A8 (x0.1.length + 1) c8, .slice none 0 0] (0, 0) _ rfl (by (with_reducible repeat (first | refine blk_drewN ?_ _ | refine blk_drew ?_ | refine blk_alloc ?_ _)); refine blk_put (cs := #[.slice A8 (x0.1.length + 1) c8, .slice none 0 0]) ?_ 1 _ rfl; (with_reducible repeat (first | refine blk_drewN ?_ _ | refine blk_drew ?_ | refine blk_alloc ?_ _)); refine blk_put (cs := #[.slice none 0 0, .slice none 0 0]) ?_ 0 _ rfl; (with_reducible repeat (first | refine blk_drewN ?_ _ | refine blk_drew ?_ | refine blk_alloc ?_ _)); exact BR9.out) Try.underlying73 rfl (by kernel_rfl)) rfl ?_
          rw [HSV.out, if_neg HOP.out]
          refine ⟨_, rfl, ⟨[_, _], rfl, _, _, rfl, ?_, _, rfl, ?_⟩, below_set (below_set ((below_set (below_set HB8.out (Nat.le_trans HBC.out.size GOE.out)) (Nat.le_trans HBC.out.size GOE.out))) GER.out) GER.out⟩
          · show HelpBB.tBB.K _ (x0.1 ++ [code sg]) _
            exact HelpBB.tBB.K_of_M ((Ty.M_set (T := HelpBB.tBB) (Ty.M_set (T := HelpBB.tBB) (Ty.M_set (T := HelpBB.tBB) (Ty.M_set (T := HelpBB.tBB) HO8.out (fun k hk e => by exact hk.2 e) _) (fun k hk e => by exact hk.2 e) _) (fun k hk e => by have h1 := hk.1; omega) _) (fun k hk e => by have h1 := hk.1; omega) _))
          · exact HelpBB.tBB.K_of_M (base := 0) (ok := fun _ => True) (Kd.S_nil _ _ _ _ _)
end Go.Proofs.Ytmgmdnmfalepkaa.Seal
