/- Parts of the proof (see the row's own text): SegS, MerS, Mer. -/
import Derived.Test.YtmgmdnmfalepkaaGreatG00
import Derived.Test.YtmgmdnmfalepkaaGreatG18
import Derived.Test.YtmgmdnmfalepkaaGreatG15
import Derived.Test.YtmgmdnmfalepkaaGreatG16
import Derived.Deep.RegionHeld3
import Derived.Test.YtmgmdnmfalepkaaGreatG7
import Derived.Deep.DeepCutAuto
namespace Go.Proofs.YtmgmdnmfalepkaaGreat.SegS
open Go.RowKit Go.Proofs.YtmgmdnmfalepkaaGreatW.PrintWords Go.Proofs.YtmgmdnmfalepkaaGreatW.PrintMore Go.Proofs.YtmgmdnmfalepkaaGreat.Kit Go.Proofs.YtmgmdnmfalepkaaGreat.PKit Go.Proofs.YtmgmdnmfalepkaaGreat.Ty Go.Proofs.YtmgmdnmfalepkaaGreat.PSeg Go.Proofs.YtmgmdnmfalepkaaGreat.PEnc Go.Proofs.YtmgmdnmfalepkaaGreat.PDec Go.Proofs.YtmgmdnmfalepkaaGreat.PSta Go.Proofs.YtmgmdnmfalepkaaGreat.HelpBB Go.Proofs.YtmgmdnmfalepkaaGreat.HelpSeg
open Go.Proofs.YtmgmdnmfalepkaaGreat.Build hiding code ans
open Go.Proofs.YtmgmdnmfalepkaaGreat.Sto Go.Proofs.YtmgmdnmfalepkaaGreat.Far
set_option linter.unusedVariables false
set_option linter.unusedSimpArgs false
theorem flat_snoc (ss : List SegT) (i : Nat) (hi : i < ss.length) : flatS (ss.take (i + 1)) = flatS (ss.take i) ++ (ss.getD i zS).2.1 := by
 rw [seg_snoc ss i hi]
 simp [flatS]
set_option maxRecDepth 100000 in
set_option maxHeartbeats 4000000 in
theorem flat_calls (Av : Option Addr) (cv n : Nat) (ss : List SegT) (hn : n = ss.length) (w : World) (hs : Kd.C kSeg w Av ss.length ss) (hl : nlin ss ≤ 1048576) :
  Calls Tryz.prog 23 #[.slice Av n cv] w fun e w' => ∃ (A9 : Option Addr) (c9 : Nat), e = .returned (.slice A9 (nlin ss) c9) ∧ (far kB w).R 25 w' w.heap.size (fun _ => True) (.slice A9 (nlin ss) c9) (flatS ss) ∧ Grew w w' := by
 subst hn
 have hL := hs.2.1
 have HS := zA hs
 clear hs
 go_enter Tryz.func23, Tryz.ntmps23
 go_wp2
 go_loopg [3, 4] ss.length (fun gg s3 s4 wr => ∃ (i : Nat) (A9 : Option Addr) (c9 : Nat), i ≤ ss.length ∧ ss.length - i ≤ gg ∧ s4 = .int .i64 (i : Int) ∧ s3 = .slice A9 (nlin (ss.take i)) c9 ∧ Aside0 ((far kB w).R 25 wr w.heap.size (fun _ => True) (.slice A9 (nlin (ss.take i)) c9) (flatS (ss.take i))) ∧ Aside0 (Below w.heap.size w wr))
 case atStart => exact ⟨0, none, 0, zq1, zq1, rfl, rfl, ⟨Kd.R_nil _ _ _ _ _⟩, ⟨Below.refl _ _⟩⟩
 case round =>
  obtain ⟨i, A9, c9, hi, hg, rfl, rfl, HR, HB⟩ := hrel
  by_cases hlt : i < ss.length
  ·have hltz : (i : Int) < (ss.length : Int) := by omega
   obtain ⟨ad, A1, c1, A2, c2, A3, c3, rfl, hcc, hT⟩ := at_seg HS.out i hlt
   obtain ⟨hc0, hc1, hc2, hc3⟩ := cells_later HB.out hcc
   obtain ⟨⟨B1, d1, e1, l1, k1⟩, _, _⟩ := Decode.seg_parts (b := (ss.getD i zS).1) (ls := (ss.getD i zS).2.1) (K := (ss.getD i zS).2.2.1) (Ps := (ss.getD i zS).2.2.2) hT
   obtain ⟨rfl, rfl⟩ : A1 = B1 ∧ c1 = d1 := by injection e1 with x1 x2 x3; exact ⟨x1, x3⟩
   have HK1 := zA k1
   have hsn := nlin_append (ss.take i) [ss.getD i zS]
   rw [← seg_snoc ss i hlt, nlin_one] at hsn
   have hlt2 := nlin_take ss (i + 1)
   have HSN := zA hsn
   have HFS := zA (flat_snoc ss i hlt)
   have HFL := zA (flat_len (ss.take i))
   have hb1 : nlin (ss.take i) ≤ 1048576 := by omega
   have hb2 : nlin (ss.take i) + (ss.getD i zS).2.1.length ≤ 1048576 := by omega
   clear hcc hT hsn hlt2 e1 l1 k1
   generalize ss.getD i zS = s at hc0 hc1 hc2 hc3 HSN hb2 HK1 HFS
   go_wp2_with (at_builtin; refine Kd.R_append_rows (far kB w) (Rr := kB.K w) (w0 := w) w.heap.size rfl (.tmp 11) (.tmp 16) 22 25 (.slice none 0 0) 24 rfl Tryz.underlying22 infoBB rfl Nat.zero_lt_one zq1 (.slice A9 (nlin (ss.take i)) c9) (flatS (ss.take i)) s.2.1 A1 s.2.1.length c1 (fun _ => True) (fun _ => False) rfl rfl HR.out (far_reads HK1.out HB.out) (fun _ _ h => h) (fun _ h => h.elim) (fun _ _ => trivial) HB.out HB.out.size (by rw [HFL.out]; omega) ?_; intro v1 w1 hR1 hB1 hg1 hat1; obtain ⟨E9, f9, e9⟩ := Kd.R_slice hR1; rw [List.length_append, HFL.out, ← HSN.out] at e9; subst e9; have HR1 := zA hR1; have HB1 := zA hB1; clear hR1 hB1 hg1 hat1)
   go_roundg (ss.length - (i + 1))
   case measure => omega
   case rel => exact ⟨i + 1, E9, f9, zq1, zq1, by go_num, rfl, ⟨by rw [HFS.out]; exact HR1.out⟩, HB1⟩
  ·have hltz : ¬ (i : Int) < (ss.length : Int) := by omega
   obtain rfl : i = ss.length := by omega
   rw [List.take_length] at HR ⊢
   go_wp2
   go_ret
   exact ⟨A9, c9, rfl, HR.out, HB.out⟩
theorem copy_spec (A : Option Addr) (n c : Nat) (ls : List (List Int)) (hn : n = ls.length) (w : World) (hr : Kd.C kB w A ls.length ls) (hc : ls.length ≤ c) (hs : smallBB ls) :
  Calls Tryz.prog 33 #[.slice A n c] w fun e w' => ∃ (E : Option Addr) (f : Nat), e = .returned (.slice E n f) ∧ Kd.S kB 25 w' w.heap.size (fun _ => True) (.slice E n f) ls ∧ Below w.heap.size w w' := by
 subst hn
 obtain ⟨k, hk⟩ := (copy_ev ls hs).rounds
 refine (L.spec_l4copy.calls k A c ls _ w hr hc hk).mono ?_
 rintro e w' ⟨v, rfl, hS, hb⟩
 obtain ⟨E, f, rfl⟩ := Kd.S_slice hS
 exact ⟨E, f, rfl, hS, hb⟩
set_option maxRecDepth 100000 in
set_option maxHeartbeats 4000000 in
theorem copy2_calls (x : StaT) (A0 A1 : Option Addr) (c0 c1 : Nat) (w : World) (h0 : Kd.C kB w A0 x.1.length x.1) (l0 : x.1.length ≤ c0) (h1 : Kd.C kB w A1 x.2.length x.2) (l1 : x.2.length ≤ c1) (s0 : smallBB x.1) (s1 : smallBB x.2) :
  Calls Tryz.prog 25 #[.agg #[.slice A0 x.1.length c0, .slice A1 x.2.length c1]] w fun e w' => ∃ (E0 : Option Addr) (e0 : Nat) (E1 : Option Addr) (e1 N : Nat), e = .returned (.agg #[.slice E0 x.1.length e0, .slice E1 x.2.length e1]) ∧ Kd.S kB 25 w' w.heap.size (fun k => k < N) (.slice E0 x.1.length e0) x.1 ∧ Kd.S kB 25 w' w.heap.size (fun k => N ≤ k) (.slice E1 x.2.length e1) x.2 ∧ w.heap.size ≤ N ∧ N ≤ w'.heap.size ∧ Grew w w' := by
 have huT := Tryz.underlying27
 have HC0 := zA (fun (W : World) (hW : Below w.heap.size w W) => copy_spec A0 x.1.length c0 x.1 rfl W (Kd.C_below h0 hW) l0 s0)
 have HC1 := zA (fun (W : World) (hW : Below w.heap.size w W) => copy_spec A1 x.2.length c1 x.2 rfl W (Kd.C_below h1 hW) l1 s1)
 have m1 := h0.2.1
 have m2 := h1.2.1
 clear h0 h1 s0 s1
 go_enter Tryz.func25, Tryz.ntmps25
 go_wp2_with (first | ((with_reducible refine gate_dst (N := 1) rfl ?_); refine box_event ?hg (N := 1) ?hd (cs := #[.slice A0 x.1.length c0, .slice A1 x.2.length c1]) (t := 27) ?hr ?_; (case hd => rfl); (case hg => rfl); (case hr => first | (go_simp; done) | (go_simp; rfl)); intro gx hg_ w1 hbx hbb; have BKgx := zA hbx; have GEgx := zA (show w.heap.size ≤ gx from Nat.le_of_eq hg_.symm); have GLgx := zA (blk_lt hbx); have HBw1 := zA hbb; clear hg_ hbb; obtain ⟨⟨hgxc0, hgxf0⟩, ⟨hgxc1, hgxf1⟩⟩ := cells2 hbx; clear hbx) | ((with_reducible refine gate_dst (N := 2) rfl ?_); refine box_event ?hg (N := 2) ?hd (cs := #[.slice none 0 0, .slice none 0 0]) (t := 27) ?hr ?_; (case hd => rfl); (case hg => rfl); (case hr => first | (go_simp; done) | (go_simp; rfl)); intro gr hg_ w2 hbx hbb; have BKgr := zA hbx; have GEgr := zA (show w1.heap.size ≤ gr from Nat.le_of_eq hg_.symm); have GLgr := zA (blk_lt hbx); have HBw2 := zA hbb; clear hg_ hbb; obtain ⟨⟨hgrc0, hgrf0⟩, ⟨hgrc1, hgrf1⟩⟩ := cells2 hbx; clear hbx; have BKp_ := zA (blk_below BKgx.out HBw2.out); clear BKgx hgxc0 hgxf0 hgxc1 hgxf1; have BKgx := BKp_; clear BKp_; obtain ⟨⟨pc0, pf0⟩, ⟨pc1, pf1⟩⟩ := cells2 BKgx.out))
 have HB2 := zA (show Below w.heap.size w w2 from grew_trans HBw1.out HBw2.out)
 have GER := zA (show w.heap.size ≤ gr from Nat.le_trans HBw1.out.size GEgr.out)
 have HKP := zA (show ∀ W : World, W.heap[gx]? = some (.cells #[.slice A0 x.1.length c0, .slice A1 x.2.length c1] 27 (0, 0)) → (W.cell? ⟨gx, 0, none⟩ = some (.slice A0 x.1.length c0) ∧ W.cell? ⟨gx, 1, none⟩ = some (.slice A1 x.2.length c1)) from fun W hW => ⟨(blk_cell hW 0).trans rfl, (blk_cell hW 1).trans rfl⟩)
 have NEX := zA (show gx ≠ gr from fun e => by have h1 := GLgx.out; have h2 := GEgr.out; omega)
 have GLR := zA (blk_lt BKgr.out)
 go_region_held3 (fun W_ => W_.cell? ⟨gx, 0, none⟩ = some (.slice A0 x.1.length c0) ∧ W_.cell? ⟨gx, 1, none⟩ = some (.slice A1 x.2.length c1)) ((refine HKP.out _ ?_; repeat (with_reducible first | exact BX4.out | exact BX3.out | exact BKgx.out | refine blk_alloc ?_ _ | refine blk_drew ?_ | refine blk_drewN ?_ _ | refine blk_far ?_ NEX.out _))) (first | (go_at_call 33; (with_reducible refine (HC0.out _ ?h).mono ?_); (case h => exact grew_trans HB2.out zq3); rintro e w3 ⟨E0, e0, rfl, hS3, hb_⟩; have HB3 := zA (show Below w2.heap.size w2 w3 from grew_trans zq3 hb_); have HS3 := zA (show Kd.S kB 25 w3 w2.heap.size (fun _ => True) (.slice E0 x.1.length e0) x.1 from Kd.S_lower hS3 (below_size zq3)); have BX3 := zA (blk_below BKgx.out HB3.out); clear hb_ hS3) | (go_at_call 33; (with_reducible refine (HC1.out _ ?h).mono ?_); (case h => exact grew_trans HB2.out (grew_trans HB3.out zq3)); rintro e w4 ⟨E1, e1, rfl, hS4, hb_⟩; have HB34 := zA (show Below w3.heap.size w3 w4 from grew_trans zq3 hb_); have HB4 := zA (show Below w2.heap.size w2 w4 from grew_trans HB3.out HB34.out); have HS4 := zA (show Kd.S kB 25 w4 w3.heap.size (fun _ => True) (.slice E1 x.2.length e1) x.2 from Kd.S_lower hS4 (below_size zq3)); have BK4 := zA (blk_below BKgr.out HB4.out); have BX4 := zA (blk_below BKgx.out HB4.out); obtain ⟨⟨t0, tf0⟩, ⟨t1, tf1⟩⟩ := cells2 BK4.out; clear hb_ hS4))
 go_wp2
 refine bodyPost_ret (results_cell_row rfl _ _ gr 27 #[.slice E0 x.1.length e0, .slice E1 x.2.length e1] (0, 0) _ rfl (by (with_reducible repeat (first | refine blk_drewN ?_ _ | refine blk_drew ?_ | refine blk_alloc ?_ _)); refine blk_put (cs := #[.slice E0 x.1.length e0, .slice none 0 0]) ?_ 1 _ rfl; (with_reducible repeat (first | refine blk_drewN ?_ _ | refine blk_drew ?_ | refine blk_alloc ?_ _)); refine blk_put (cs := #[.slice none 0 0, .slice none 0 0]) ?_ 0 _ rfl; (with_reducible repeat (first | refine blk_drewN ?_ _ | refine blk_drew ?_ | refine blk_alloc ?_ _)); exact BK4.out) Tryz.underlying27 rfl zq5) rfl ?_
 refine ⟨E0, e0, E1, e1, w3.heap.size, rfl, ?_, ?_, ?_, ?_, below_set (below_set ((grew_trans HB2.out HB4.out)) GER.out) GER.out⟩
 ·exact HelpBB.tBB.M_mono (fun k hk => hk.2.2) (HelpBB.tBB.M_lower HB2.out.size ((Ty.M_set (T := HelpBB.tBB) (Ty.M_set (T := HelpBB.tBB) (Ty.M_below (T := HelpBB.tBB) (HelpBB.tBB.M_bound HS3.out) HB34.out) (fun k hk e => by have h1 := hk.2.1; have h2 := GLR.out; omega) _) (fun k hk e => by have h1 := hk.2.1; have h2 := GLR.out; omega) _)))
 ·exact HelpBB.tBB.M_mono (fun k hk => hk.2.1) (HelpBB.tBB.M_lower (Nat.le_trans HB2.out.size HB3.out.size) ((Ty.M_set (T := HelpBB.tBB) (Ty.M_set (T := HelpBB.tBB) (HelpBB.tBB.M_bound HS4.out) (fun k hk e => by have h1 := hk.2.1; have h2 := GLR.out; have h3 := HB3.out.size; omega) _) (fun k hk e => by have h1 := hk.2.1; have h2 := GLR.out; have h3 := HB3.out.size; omega) _)))
 ·exact Nat.le_trans HB2.out.size HB3.out.size
 ·have h1 := HB34.out.size
  simp [World.setCell]
  omega
theorem bytes_spec (A : Option Addr) (n c : Nat) (ls : List (List Int)) (hn : n = ls.length) (w : World) (hr : Kd.C kB w A ls.length ls) (hc : ls.length ≤ c) (hs : smallBB ls) :
  Calls Tryz.prog 24 #[.slice A n c] w fun e w' => e = .returned (.int .i64 (totalB ls : Int)) ∧ Below w.heap.size w w' := by
 subst hn
 obtain ⟨k, hk⟩ := (bytes_ev ls hs).rounds
 refine (L.spec_l4bytes.calls k A c ls _ w hr hc hk).mono ?_
 rintro e w' ⟨rfl, hd⟩
 exact ⟨rfl, below_of_drawn hd⟩
theorem plain_spec (A : Option Addr) (n c : Nat) (ls : List (List Int)) (hn : n = ls.length) (w : World) (hr : Kd.C kB w A ls.length ls) (hc : ls.length ≤ c) (hs : smallBB ls) :
  Calls Tryz.prog 48 #[.slice A n c] w fun e w' => e = .returned (.bool (plain ls)) ∧ Below w.heap.size w w' := by
 subst hn
 obtain ⟨k, hk⟩ := (plain_ev ls hs).rounds
 refine (L.spec_l4plain.calls k A c ls _ w hr hc hk).mono ?_
 rintro e w' ⟨rfl, hd⟩
 exact ⟨rfl, below_of_drawn hd⟩
def GotS (w' : World) (st : StaT) (e : Ending) : Prop := match segsOf st with
 | none => e = .returned (.tuple #[.slice none 0 0, .bool false])
 | some ss => ∃ (Av : Option Addr) (cv : Nat), e = .returned (.tuple #[.slice Av ss.length cv, .bool true]) ∧ Kd.C kSeg w' Av ss.length ss ∧ ss.length ≤ cv
theorem gotS_none {w' : World} {st : StaT} {e : Ending} (h : segsOf st = none) (he : e = .returned (.tuple #[.slice none 0 0, .bool false])) : GotS w' st e := by
 unfold GotS; rw [h]; exact he
set_option maxRecDepth 100000 in
set_option maxHeartbeats 8000000 in
theorem segs_calls (st : StaT) (A0 A1 : Option Addr) (c0 c1 : Nat) (w : World) (h0 : Kd.C kB w A0 st.1.length st.1) (l0 : st.1.length ≤ c0) (h1 : Kd.C kB w A1 st.2.length st.2) (l1 : st.2.length ≤ c1) (hb0 : Bytes st.1) (s0 : smallBB st.1) (s1 : smallBB st.2) :
  Calls Tryz.prog 22 #[.agg #[.slice A0 st.1.length c0, .slice A1 st.2.length c1]] w fun e w' => GotS w' st e ∧ Grew w w' := by
 have huI := Tryz.underlying59
 have huT := Tryz.underlying27
 have q0 : st.1.length + totalB st.1 ≤ 1048576 := s0
 have q1 : st.2.length + totalB st.2 ≤ 1048576 := s1
 have H0 := zA h0
 have HY0 := zA hb0
 have HTT := zA (fun (W : World) (hW : Below w.heap.size w W) => bytes_spec A1 st.2.length c1 st.2 rfl W (Kd.C_below h1 hW) l1 s1)
 have HPL := zA (fun (W : World) (hW : Below w.heap.size w W) => plain_spec A1 st.2.length c1 st.2 rfl W (Kd.C_below h1 hW) l1 s1)
 have m1 := h1.2.1
 clear h0 h1 hb0 s0 s1
 go_enter Tryz.func22, Tryz.ntmps22
 go_wp2_with (((with_reducible refine gate_dst (N := 1) rfl ?_); refine box_event ?hg (N := 1) ?hd (cs := #[.slice A0 st.1.length c0, .slice A1 st.2.length c1]) (t := 27) ?hr ?_; (case hd => rfl); (case hg => rfl); (case hr => first | (go_simp; done) | (go_simp; rfl)); intro gp hg_ w1 hbx hbb; have BKgp := zA hbx; have GEgp := zA (show w.heap.size ≤ gp from Nat.le_of_eq hg_.symm); have GLgp := zA (blk_lt hbx); have HBw1 := zA hbb; clear hg_ hbb; obtain ⟨⟨hgpc0, hgpf0⟩, ⟨hgpc1, hgpf1⟩⟩ := cells2 hbx; clear hbx))
 go_at_call 24
 refine (HTT.out _ HBw1.out).mono ?_
 rintro e w2 ⟨rfl, hb2⟩
 have HB2 := zA hb2
 clear hb2 hgpc0 hgpf0 hgpc1 hgpf1
 go_wp2_with fail
 go_loopg [4, 5, 6, 7] st.1.length (fun gg s4 s5 s6 s7 wr => ∃ (i : Nat) (acc : List SegT) (Ap : Option Addr) (cp : Nat), i ≤ st.1.length ∧ st.1.length - i ≤ gg ∧ s7 = .int .i64 (i : Int) ∧ s5 = .int .i64 ((nlin acc : Nat) : Int) ∧ s6 = .int .i64 (((tots acc : Nat) : Int) + (totalB st.2 : Int)) ∧ s4 = .slice Ap i cp ∧ Aside0 (Chain 0 acc (st.1.take i)) ∧ Aside0 (Kd.R kSeg 59 wr w1.heap.size (fun _ => True) (.slice Ap i cp) acc) ∧ Aside0 (Below w1.heap.size w1 wr))
 case atStart => exact ⟨0, [], none, 0, zq1, zq1, rfl, rfl, by simp [tots], rfl, ⟨.nil 0⟩, ⟨Kd.R_nil _ _ _ _ _⟩, HB2⟩
 case round =>
  obtain ⟨i, acc, Ap, cp, hi, hgg, rfl, rfl, rfl, rfl, HC, HR, HB⟩ := hrel
  obtain ⟨n1, n2, n3⟩ := chain_len0 HC.out
  have n4 : acc.length = i := by have h := chain_len HC.out; rw [List.length_take] at h; omega
  have HN4 := zA n4
  have BP := zA (blk_below BKgp.out HB.out)
  obtain ⟨⟨p0, p0f⟩, ⟨p1, p1f⟩⟩ := cells2 BP.out
  have HWR := zA (show Below w.heap.size w wr from grew_trans HBw1.out HB.out)
  clear n4
  by_cases hlt : i < st.1.length
  ·have hltz : (i : Int) < (st.1.length : Int) := by omega
   obtain ⟨ad, u, rfl, hcell0, hK⟩ := get_one (d := kB) rfl H0.out [] i hlt
   obtain ⟨A', c', e', hc', hr'⟩ := hK
   obtain rfl : u = .slice A' (st.1.getD i []).length c' := by injection e'
   have hcell : wr.cell? (ad.add i) = some (.slice A' (st.1.getD i []).length c') := (HWR.out.cell (World.block_lt_of_cell? w _ hcell0)).trans hcell0
   have hgl := getD_len st.1 i
   have HBY := zA (getD_bytes HY0.out i)
   have HDE := zA (fun (W : World) (hW : Below w.heap.size w W) => decS_calls A' c' (st.1.getD i []) W (Kd.C_below hr' hW) hc' HBY.out zq1)
   have HST := zA (fun h => segs_stop (st := st) HC.out hlt h)
   have HNX := zA (fun h0 h1 => segs_next (st := st) HC.out hlt h0 h1)
   clear e' hr' hcell0 hgl
   generalize st.1.getD i [] = b at hcell hc' HDE HST HNX HBY
   go_wp2_with fail
   go_at_call 47
   refine (HDE.out _ HWR.out).mono ?_
   rintro e w5 ⟨B1, d1, B2, d2, B3, d3, rfl, hM5, hb5⟩
   have HFS := zA (fun h => (dec_at (b := b) h).2.1)
   have HM5 := zA hM5
   have HB5 := zA hb5
   clear hM5 hb5
   generalize (dec b).1 = s at HM5 HST HNX HFS
   generalize (dec b).2 = cd at HST HNX HFS
   obtain ⟨⟨x0, x0f⟩, ⟨x1, x1f⟩, ⟨x2, x2f⟩, ⟨x3, x3f⟩⟩ := cells4 (blk_new w5 (.cells #[.int .i64 s.1, .slice B1 s.2.1.length d1, .slice B2 s.2.2.1.length d2, .slice B3 s.2.2.2.length d3] 59 (0, 0)))
   by_cases hgood : cd = 0 ∧ s.1 = ((nlin acc : Nat) : Int)
   case neg =>
    have HNO := zA (HST.out hgood)
    by_cases hcd : cd = 0
    ·subst hcd
     have hne : (s.1 != ((nlin acc : Nat) : Int)) = true := by simp; intro e; exact hgood ⟨rfl, e⟩
     clear hgood
     go_wp2
     go_ret2
     exact ⟨gotS_none HNO.out rfl, by have h1 := HWR.out; have h2 := HB5.out; refine grew_trans (grew_trans h1 h2) ?_; repeat (first | exact Below.refl _ _ | apply below_alloc | apply below_drew1 | apply pw_below_drewN)⟩
    ·have hne : (cd != 0) = true := by simpa using hcd
     clear hgood hcd
     go_wp2
     go_ret2
     exact ⟨gotS_none HNO.out rfl, by have h1 := HWR.out; have h2 := HB5.out; refine grew_trans (grew_trans h1 h2) ?_; repeat (first | exact Below.refl _ _ | apply below_alloc | apply below_drew1 | apply pw_below_drewN)⟩
   case pos =>
    obtain ⟨hcd, hs1⟩ := hgood
    subst hcd
    have HCN := zA (HNX.out rfl hs1)
    obtain ⟨f1, f2, f3, f4, f5, f6⟩ := fits_parts (HFS.out rfl)
    have hne : (s.1 != ((nlin acc : Nat) : Int)) = false := by simp [hs1]
    have f7 : s.2.1.length ≤ 1000 := by omega
    clear HST HNX HFS hs1 f1 f2 f3 f4 f5
    go_wp2_with fail
    obtain ⟨gq, hgq⟩ : ∃ g_, g_ = w5.heap.size := ⟨_, rfl⟩
    obtain ⟨w6, hw6⟩ : ∃ w_, w_ = w5.alloc (.cells #[.int .i64 s.1, .slice B1 s.2.1.length d1, .slice B2 s.2.2.1.length d2, .slice B3 s.2.2.2.length d3] 59 (0, 0)) := ⟨_, rfl⟩
    rw [← hw6, ← hgq] at x0 x0f x1 x1f x2 x2f x3 x3f
    rw [← hw6]
    (try rw [← hgq])
    have BKgq := zA (show w6.heap[gq]? = some (.cells #[.int .i64 s.1, .slice B1 s.2.1.length d1, .slice B2 s.2.2.1.length d2, .slice B3 s.2.2.2.length d3] 59 (0, 0)) from by rw [hw6, hgq]; exact blk_new w5 _)
    have hb6 : Below w5.heap.size w5 w6 := by rw [hw6]; exact below_alloc (Below.refl _ _) _
    have HB6 := zA (show Below wr.heap.size wr w6 from grew_trans HB5.out hb6)
    have HM6 := zA (show kSeg.M w6 wr.heap.size (fun k => wr.heap.size ≤ k) s [.int .i64 s.1, .slice B1 s.2.1.length d1, .slice B2 s.2.2.1.length d2, .slice B3 s.2.2.2.length d3] from kSeg.M_mono (fun k hk => hk.2.1) (kSeg.M_bound (Kd.M_below HM5.out hb6)))
    have hk6 := kSeg_open (kSeg.K_of_M HM6.out)
    have hct : Kd.C kB w6 B1 s.2.1.length s.2.1 ∧ s.2.1.length ≤ d1 := by
     obtain ⟨E1, e1, E2, e2, E3, e3, ee, hT⟩ := hk6
     simp only [List.cons.injEq, and_true, Value.slice.injEq, true_and] at ee
     obtain ⟨⟨rfl, rfl⟩, ⟨rfl, rfl⟩, rfl, rfl⟩ := ee
     obtain ⟨⟨F1, e1, ee, hl, hr⟩, _, _⟩ := Decode.seg_parts hT
     obtain ⟨rfl, rfl⟩ : B1 = F1 ∧ d1 = e1 := by injection ee with x1 x2 x3; exact ⟨x1, x3⟩
     exact ⟨hr, hl⟩
    have htt := bytes_spec B1 s.2.1.length d1 s.2.1 rfl w6 hct.1 hct.2 (by show _ ≤ _; omega)
    clear hgq hw6 hb6 hk6 hct
    go_at_call 24
    refine htt.mono ?_
    rintro e w7 ⟨rfl, hb7⟩
    have HB7 := zA (show Below wr.heap.size wr w7 from grew_trans HB6.out hb7)
    have HM7 := zA (show kSeg.M w7 wr.heap.size (fun k => wr.heap.size ≤ k) s [.int .i64 s.1, .slice B1 s.2.1.length d1, .slice B2 s.2.2.1.length d2, .slice B3 s.2.2.2.length d3] from Kd.M_below HM6.out hb7)
    have HOL := zA (fun k (h : (Value.slice Ap i cp).ownBlock = some k) => Kd.R_lt HR.out k h)
    have BQ7 := zA (blk_below BKgq.out hb7)
    clear htt hb7 x0 x0f x1 x1f x2 x2f x3 x3f
    obtain ⟨⟨x0, x0f⟩, ⟨x1, x1f⟩, ⟨x2, x2f⟩, ⟨x3, x3f⟩⟩ := cells4 BQ7.out
    go_wp2_with (at_builtin; refine Kd.R_append kSeg (w0 := w1) w1.heap.size rfl (.tmp 47) (.tmp 49) 44 59 (.agg #[.int .i64 0, .slice none 0 0, .slice none 0 0, .slice none 0 0]) 80 rfl Tryz.underlying44 infoSeg rfl zq15 zq1 (.slice Ap i cp) acc s [.int .i64 s.1, .slice B1 s.2.1.length d1, .slice B2 s.2.2.1.length d2, .slice B3 s.2.2.2.length d3] (fun _ => True) (fun k => wr.heap.size ≤ k) rfl rfl ?aP ?aK (fun _ _ => trivial) ?aO ?aB ?aS ?aL ?_; (case aP => exact kSeg.M_lower HB.out.size HM7.out); (case aK => exact fun k hk => ⟨trivial, fun e => by have h2 : wr.heap.size ≤ k := hk; have h3 := HOL.out k e.symm; omega⟩); (case aO => exact Kd.R_below HR.out HB7.out); (case aB => exact grew_trans HB.out HB7.out); (case aS => exact (grew_trans HB.out HB7.out).size); (case aL => omega); intro v8 w8 hO8 hB8 hg8 hat8; obtain ⟨A8, c8, e8⟩ := Kd.R_slice hO8; rw [show (acc ++ [s]).length = i + 1 from by have h4 := HN4.out; rw [List.length_append, List.length_singleton]; omega] at e8; subst e8; have HO8 := zA hO8; have HB8 := zA hB8; clear hO8 hB8 hg8 hat8)
    go_roundg (st.1.length - (i + 1))
    case measure => omega
    case rel =>
     refine ⟨i + 1, acc ++ [s], A8, c8, zq1, zq1, by go_num, ?_, ?_, rfl, ⟨HCN.out⟩, HO8, HB8⟩
     ·rw [nlin_append, nlin_one]; go_num
     ·rw [tots_append, tots_one]
      congr 1
      omega
  ·have hltz : ¬ (i : Int) < (st.1.length : Int) := by omega
   obtain rfl : i = st.1.length := by omega
   have hC := HC.out
   rw [List.take_length] at hC
   have HSA := zA (segs_all (st := st) hC)
   have hct := HPL.out wr HWR.out
   clear hC HC
   cases hp : plain st.2 with
   | false =>
    rw [hp] at hct
    have HNO := zA (show segsOf st = none from by rw [HSA.out, if_neg (fun h => by rw [hp] at h; exact Bool.noConfusion h.1)])
    clear hp
    go_wp2_with (go_at_call 48; refine hct.mono ?_; rintro e w8 ⟨rfl, hb8⟩)
    go_ret2
    exact ⟨gotS_none HNO.out rfl, grew_trans HWR.out hb8⟩
   | true =>
    rw [hp] at hct
    have HP := zA hp
    clear hp
    by_cases hlen : nlin acc + st.2.length ≤ 1000
    case neg =>
     have hlz : ¬ (((nlin acc : Nat) : Int) + (st.2.length : Int) ≤ 1000) := by omega
     have HNO := zA (show segsOf st = none from by rw [HSA.out, if_neg (fun h => hlen h.2.1)])
     go_wp2_with (go_at_call 48; refine hct.mono ?_; rintro e w8 ⟨rfl, hb8⟩; have HB8 := zA hb8; obtain ⟨⟨t0, t0f⟩, ⟨t1, t1f⟩⟩ := cells2 (blk_below BP.out hb8); clear hb8)
     go_ret2
     exact ⟨gotS_none HNO.out rfl, grew_trans HWR.out HB8.out⟩
    case pos =>
     have hlz : ((nlin acc : Nat) : Int) + (st.2.length : Int) ≤ 1000 := by omega
     by_cases htot : tots acc + totalB st.2 ≤ 20000
     case neg =>
      have htz : ¬ (((tots acc : Nat) : Int) + (totalB st.2 : Int) ≤ 20000) := by omega
      have HNO := zA (show segsOf st = none from by rw [HSA.out, if_neg (fun h => htot h.2.2)])
      go_wp2_with (go_at_call 48; refine hct.mono ?_; rintro e w8 ⟨rfl, hb8⟩; have HB8 := zA hb8; obtain ⟨⟨t0, t0f⟩, ⟨t1, t1f⟩⟩ := cells2 (blk_below BP.out hb8); clear hb8)
      go_ret2
      exact ⟨gotS_none HNO.out rfl, grew_trans HWR.out HB8.out⟩
     case pos =>
      have htz : ((tots acc : Nat) : Int) + (totalB st.2 : Int) ≤ 20000 := by omega
      have HYES := zA (show segsOf st = some acc from by rw [HSA.out, if_pos ⟨HP.out, hlen, htot⟩])
      go_wp2_with (go_at_call 48; refine hct.mono ?_; rintro e w8 ⟨rfl, hb8⟩; have HB8 := zA hb8; obtain ⟨⟨t0, t0f⟩, ⟨t1, t1f⟩⟩ := cells2 (blk_below BP.out hb8); clear hb8)
      go_ret2
      refine ⟨?_, grew_trans HWR.out HB8.out⟩
      unfold GotS
      rw [HYES.out]
      show ∃ (Av : Option Addr) (cv : Nat), _ = Ending.returned (.tuple #[.slice Av acc.length cv, .bool true]) ∧ Kd.C kSeg w8 Av acc.length acc ∧ acc.length ≤ cv
      rw [HN4.out]
      refine ⟨Ap, cp, rfl, ?_, by have h := (Kd.R_reads' HR.out).2.1; first | exact h | (rw [HN4.out] at h; exact h)⟩
      have h := (Kd.R_reads' (Kd.R_below HR.out HB8.out)).2.2
      rw [HN4.out] at h
      exact h
end Go.Proofs.YtmgmdnmfalepkaaGreat.SegS

namespace Go.Proofs.YtmgmdnmfalepkaaGreat.Mer
open Go.RowKit Go.Proofs.YtmgmdnmfalepkaaGreatW.PrintWords Go.Proofs.YtmgmdnmfalepkaaGreatW.PrintMore Go.Proofs.YtmgmdnmfalepkaaGreat.Kit Go.Proofs.YtmgmdnmfalepkaaGreat.PKit Go.Proofs.YtmgmdnmfalepkaaGreat.Ty Go.Proofs.YtmgmdnmfalepkaaGreat.PTri Go.Proofs.YtmgmdnmfalepkaaGreat.PSeg Go.Proofs.YtmgmdnmfalepkaaGreat.PEnc Go.Proofs.YtmgmdnmfalepkaaGreat.PDec Go.Proofs.YtmgmdnmfalepkaaGreat.PSta Go.Proofs.YtmgmdnmfalepkaaGreat.HelpBB Go.Proofs.YtmgmdnmfalepkaaGreat.HelpSeg
open Go.Proofs.YtmgmdnmfalepkaaGreat.Build hiding code ans
open Go.Proofs.YtmgmdnmfalepkaaGreat.Sto Go.Proofs.YtmgmdnmfalepkaaGreat.Rep Go.Proofs.YtmgmdnmfalepkaaGreat.Far Go.Proofs.YtmgmdnmfalepkaaGreat.SegS
set_option linter.unusedVariables false
set_option linter.unusedSimpArgs false
theorem flat2_calls (ad : Addr) (cv K : Nat) (ss : List SegT) (hK : K + 2 ≤ ss.length) (hc : ss.length ≤ cv) (n : Nat) (hn : n = 2) (w : World) (hs : Kd.C kSeg w (some ad) ss.length ss) (hl : ((ss.getD K zS).2.1 ++ (ss.getD (K + 1) zS).2.1).length ≤ 1048576) :
  Calls Tryz.prog 23 #[.slice (some (ad.add (K * 4))) n (cv - K)] w fun e w' => ∃ (A9 : Option Addr) (c9 : Nat), e = .returned (.slice A9 ((ss.getD K zS).2.1 ++ (ss.getD (K + 1) zS).2.1).length c9) ∧ (far kB w).R 25 w' w.heap.size (fun _ => True) (.slice A9 ((ss.getD K zS).2.1 ++ (ss.getD (K + 1) zS).2.1).length c9) ((ss.getD K zS).2.1 ++ (ss.getD (K + 1) zS).2.1) ∧ Grew w w' := by
 subst hn
 have h := Kd.C_mid hs (lo := K) (hi := K + 2) zq1 hK hc
 rw [flat_two ss K hK, if_neg zq1] at h
 generalize ss.getD K zS = a at h hl ⊢
 generalize ss.getD (K + 1) zS = b at h hl ⊢
 have e1 : nlin [a, b] = (a.2.1 ++ b.2.1).length := by simp [nlin]
 have e2 : flatS [a, b] = a.2.1 ++ b.2.1 := by simp [flatS]
 have h' := flat_calls (some (ad.add (K * 4))) (cv - K) 2 [a, b] rfl w h (by rw [e1]; exact hl)
 rw [e1, e2] at h'
 exact h'
theorem encT_calls (s : SegT) (B1 B2 B3 : Option Addr) (d1 d2 d3 : Nat) (W : World) (h : tSeg.K W s (.agg #[.int .i64 s.1, .slice B1 s.2.1.length d1, .slice B2 s.2.2.1.length d2, .slice B3 s.2.2.2.length d3])) (hG : Sto.Good s) :
  Calls Tryz.prog 35 #[.agg #[.int .i64 s.1, .slice B1 s.2.1.length d1, .slice B2 s.2.2.1.length d2, .slice B3 s.2.2.2.length d3]] W fun e w' => ∃ v', e = .returned v' ∧ Kd.R (Kd.int .u8) 5 w' W.heap.size (fun _ => True) v' (code s) ∧ Grew W w' := by
 obtain ⟨b, ls, K, Ps⟩ := s
 obtain ⟨g1, g2, g3⟩ := hG
 obtain ⟨⟨A1, c1, e1, l1, q1⟩, ⟨A2, c2, e2, l2, q2⟩, ⟨A3, c3, e3, l3, q3⟩⟩ := Decode.seg_parts (b := b) (ls := ls) (K := K) (Ps := Ps) h
 obtain ⟨rfl, rfl⟩ : B1 = A1 ∧ d1 = c1 := by injection e1 with x1 x2 x3; exact ⟨x1, x3⟩
 obtain ⟨rfl, rfl⟩ : B2 = A2 ∧ d2 = c2 := by injection e2 with x1 x2 x3; exact ⟨x1, x3⟩
 obtain ⟨rfl, rfl⟩ : B3 = A3 ∧ d3 = c3 := by injection e3 with x1 x2 x3; exact ⟨x1, x3⟩
 have hok : EncOk (b, ls, K, Ps) := by
  have g1' : (b, ls, K, Ps) = seg b ls := g1
  rw [g1']
  exact encOk_seg g2 g3
 obtain ⟨k, hk⟩ := (encode_ev (b, ls, K, Ps) hok g3).rounds
 exact L.spec_l4encode.calls k b B1 d1 ls B2 d2 K B3 d3 Ps _ W q1 l1 q2 l2 q3 l3 hk
set_option maxRecDepth 100000 in
set_option maxHeartbeats 16000000 in
theorem specC (x0 : StaT) (x1 : Int) (v0 : Value) (w : World) (h0 : HelpSta.tSta.K w x0 v0) (s0 : HelpSta.smallSta x0) (y0 : Bytes x0.1) (y1 : Bytes x0.2) (hk0 : -9223372036854775808 ≤ x1) (hk1 : x1 ≤ 9223372036854775807) :
  Calls Tryz.prog 16 #[v0, .int .i64 x1] w fun e w' => ∃ v', e = .returned (.tuple #[v', .int .i64 (mer_ x0 x1).2]) ∧ HelpSta.tSta.K w' (mer_ x0 x1).1 v' ∧ Grew w w' := by
 have huT := Tryz.underlying27
 have huI := Tryz.underlying59
 obtain ⟨q0, q1⟩ := HelpSta.small_parts s0
 obtain ⟨l, rfl, u0, r0, rfl, ⟨A0, c0, rfl, l0, k0⟩, u1, rfl, ⟨A1, c1, rfl, l1, k1⟩⟩ := h0
 have HSG := zA (fun (W : World) (hW : Below w.heap.size w W) => segs_calls x0 A0 A1 c0 c1 W (Kd.C_below k0 hW) l0 (Kd.C_below k1 hW) l1 y0 q0 q1)
 have HCP := zA (fun (W : World) (hW : Below w.heap.size w W) => copy2_calls x0 A0 A1 c0 c1 W (Kd.C_below k0 hW) l0 (Kd.C_below k1 hW) l1 q0 q1)
 have HC1 := zA (fun (W : World) (hW : Below w.heap.size w W) => SegS.copy_spec A1 x0.2.length c1 x0.2 rfl W (Kd.C_below k1 hW) l1 q1)
 have m1 := k0.2.1
 have m2 := k1.2.1
 have Y0 := zA y0
 clear k0 k1 y0 y1 s0 q0 q1
 show Calls Tryz.prog 16 #[.agg #[.slice A0 x0.1.length c0, .slice A1 x0.2.length c1], .int .i64 x1] w _
 go_enter Tryz.func16, Tryz.ntmps16
 go_wp2_with (first | ((with_reducible refine gate_dst (N := 2) rfl ?_); refine box_event ?hg (N := 2) ?hd (cs := #[.slice A0 x0.1.length c0, .slice A1 x0.2.length c1]) (t := 27) ?hr ?_; (case hd => rfl); (case hg => rfl); (case hr => first | (go_simp; done) | (go_simp; rfl)); intro gx hg_ w1 hbx hbb; have BKgx := zA hbx; have GEgx := zA (show w.heap.size ≤ gx from Nat.le_of_eq hg_.symm); have GLgx := zA (blk_lt hbx); have HBw1 := zA hbb; clear hg_ hbb; obtain ⟨⟨hgxc0, hgxf0⟩, ⟨hgxc1, hgxf1⟩⟩ := cells2 hbx; clear hbx) | ((with_reducible refine gate_dst (N := 4) rfl ?_); refine box_event ?hg (N := 4) ?hd (cs := #[.slice none 0 0, .slice none 0 0]) (t := 27) ?hr ?_; (case hd => rfl); (case hg => rfl); (case hr => first | (go_simp; done) | (go_simp; rfl)); intro gr hg_ w2 hbx hbb; have BKgr := zA hbx; have GEgr := zA (show w1.heap.size ≤ gr from Nat.le_of_eq hg_.symm); have GLgr := zA (blk_lt hbx); have HBw2 := zA hbb; clear hg_ hbb; obtain ⟨⟨hgrc0, hgrf0⟩, ⟨hgrc1, hgrf1⟩⟩ := cells2 hbx; clear hbx; have n_ := zA (blk_below BKgx.out HBw2.out); clear BKgx; have BKgx := n_; clear n_; clear hgxc0 hgxf0 hgxc1 hgxf1; obtain ⟨⟨pc0, pf0⟩, ⟨pc1, pf1⟩⟩ := cells2 BKgx.out))
 have HB2 := zA (show Below w.heap.size w w2 from grew_trans HBw1.out HBw2.out)
 have GER := zA (show w.heap.size ≤ gr from Nat.le_trans HBw1.out.size GEgr.out)
 have GLR := zA (blk_lt BKgr.out)
 clear hgrc0 hgrf0 hgrc1 hgrf1 pc0 pf0 pc1 pf1
 go_at_call 22
 refine (HSG.out _ HB2.out).mono ?_
 rintro e w3 ⟨hG3, hb3⟩
 have BK3 := zA (blk_below BKgx.out hb3)
 have BR3 := zA (blk_below BKgr.out hb3)
 have HB3 := zA (show Below w.heap.size w w3 from grew_trans HB2.out hb3)
 have HB23 := zA hb3
 have GR3 := zA (show gr < w3.heap.size from blk_lt BR3.out)
 clear hb3 GLR
 unfold GotS at hG3
 cases hs : segsOf x0 with
 | none =>
  rw [hs] at hG3
  obtain rfl := hG3
  have HS := zA hs
  clear hs
  obtain ⟨⟨r0, rf0⟩, ⟨r1, rf1⟩⟩ := cells2 BR3.out
  go_wp2
  refine bodyPost_ret (results_ct rfl _ _ gr 27 #[.slice none 0 0, .slice none 0 0] (0, 0) _ rfl (by (with_reducible repeat (first | refine blk_drewN ?_ _ | refine blk_drew ?_ | refine blk_alloc ?_ _)); refine blk_put (cs := #[.slice none 0 0, .slice none 0 0]) ?_ 1 _ rfl; (with_reducible repeat (first | refine blk_drewN ?_ _ | refine blk_drew ?_ | refine blk_alloc ?_ _)); refine blk_put (cs := #[.slice none 0 0, .slice none 0 0]) ?_ 0 _ rfl; (with_reducible repeat (first | refine blk_drewN ?_ _ | refine blk_drew ?_ | refine blk_alloc ?_ _)); exact BR3.out) Tryz.underlying27 rfl zq5) rfl ?_
  rw [show mer_ x0 x1 = (([], []), 4) from by unfold mer_; rw [HS.out]]
  exact ⟨_, rfl, HelpSta.tSta.K_of_M (two_M _ 0), below_set (below_set (HB3.out) GER.out) GER.out⟩
 | some ss =>
  rw [hs] at hG3
  obtain ⟨Av, cv, rfl, hC, hcvl⟩ := hG3
  have HCVL := zA hcvl
  clear hcvl
  obtain ⟨hch, _, hn1, hn2⟩ := segsOf_some hs
  obtain ⟨n1, n2, n3⟩ := chain_len0 hch
  have HC := zA hC
  have HS := zA hs
  have HCH := zA hch
  have HTT := zA (show tots ss ≤ 20000 from by omega)
  have HGD := zA (chain_good hch Y0.out)
  clear hs hC hch
  obtain ⟨⟨p0, pf0⟩, ⟨p1, pf1⟩⟩ := cells2 BK3.out
  by_cases hin : 0 ≤ x1 ∧ x1 + 1 < (ss.length : Int)
  case neg =>
   have HME := zA (show mer_ x0 x1 = (x0, 7) from by unfold mer_; rw [HS.out]; exact if_neg hin)
   by_cases hz : x1 < 0
   case' neg => have hz2 : x1 ≥ (ss.length : Int) - 1 := by omega
   all_goals
    clear hin
    go_wp2_with (go_at_call 25; refine (HCP.out _ HB3.out).mono ?_; rintro e w9 ⟨E0, e0, E1, e1, N, rfl, hS0, hS1, hN1, hN2, hb9⟩; have HB9 := zA (show Below w.heap.size w w9 from grew_trans HB3.out hb9); have HS0 := zA hS0; have HS1 := zA hS1; have BR9 := zA (blk_below BR3.out hb9); obtain ⟨⟨r0, rf0⟩, ⟨r1, rf1⟩⟩ := cells2 BR9.out; clear hS0 hS1 hN1 hN2 hb9)
    refine bodyPost_ret (results_ct rfl _ _ gr 27 #[.slice E0 x0.1.length e0, .slice E1 x0.2.length e1] (0, 0) _ rfl (by (with_reducible repeat (first | refine blk_drewN ?_ _ | refine blk_drew ?_ | refine blk_alloc ?_ _)); refine blk_put (cs := #[.slice E0 x0.1.length e0, .slice none 0 0]) ?_ 1 _ rfl; (with_reducible repeat (first | refine blk_drewN ?_ _ | refine blk_drew ?_ | refine blk_alloc ?_ _)); refine blk_put (cs := #[.slice none 0 0, .slice none 0 0]) ?_ 0 _ rfl; (with_reducible repeat (first | refine blk_drewN ?_ _ | refine blk_drew ?_ | refine blk_alloc ?_ _)); exact BR9.out) Tryz.underlying27 rfl zq5) rfl ?_
    rw [HME.out]
    exact ⟨_, rfl, ⟨[_, _], rfl, _, _, rfl, HelpBB.tBB.K_of_M ((Ty.M_set (T := HelpBB.tBB) (Ty.M_set (T := HelpBB.tBB) (HelpBB.tBB.M_bound HS0.out) (fun k hk e => by have h1 := hk.2.1; have h2 := GR3.out; omega) _) (fun k hk e => by have h1 := hk.2.1; have h2 := GR3.out; omega) _)), _, rfl, HelpBB.tBB.K_of_M ((Ty.M_set (T := HelpBB.tBB) (Ty.M_set (T := HelpBB.tBB) (HelpBB.tBB.M_bound HS1.out) (fun k hk e => by have h1 := hk.2.1; have h2 := GR3.out; omega) _) (fun k hk e => by have h1 := hk.2.1; have h2 := GR3.out; omega) _))⟩, below_set (below_set (HB9.out) GER.out) GER.out⟩
  case pos =>
   obtain ⟨K, rfl⟩ : ∃ K : Nat, x1 = (K : Int) := ⟨x1.toNat, zq1⟩
   have hK : K + 2 ≤ ss.length := by omega
   have hz : ¬ (K : Int) < 0 := by omega
   have hz2 : ¬ (K : Int) ≥ (ss.length : Int) - 1 := by omega
   have HME := zA (show mer_ x0 (K : Int) = (((repl ss K (jn ss K)).map code, x0.2), 0) from by unfold mer_; rw [HS.out]; exact if_pos hin)
   clear hin HSG HCP
   obtain ⟨ad, F1, f1, F2, f2, F3, f3, rfl, hcc, hT⟩ := at_seg HC.out K zq1
   have hcv : ss.length ≤ cv := by exact HCVL.out
   have hcK : ¬ cv = K := by omega
   have HNB := zA (nb HCH.out HTT.out K hK)
   have HJG := zA (jn_good HCH.out HTT.out HGD.out K hK)
   have HFL := zA (fun (V : World) (hV : Below w3.heap.size w3 V) (n : Nat) (hn : n = 2) => flat2_calls ad cv K ss hK hcv n hn V (Kd.C_below HC.out hV) (by have h := HNB.out.2.2.2; rw [List.length_append]; omega))
   have HBU := zA (fun (V : World) (A : Option Addr) (c : Nat) (hC : Kd.C kB V A ((ss.getD K zS).2.1 ++ (ss.getD (K + 1) zS).2.1).length ((ss.getD K zS).2.1 ++ (ss.getD (K + 1) zS).2.1)) (hc : ((ss.getD K zS).2.1 ++ (ss.getD (K + 1) zS).2.1).length ≤ c) => bld_good (ss.getD K zS).1 A ((ss.getD K zS).2.1 ++ (ss.getD (K + 1) zS).2.1).length c ((ss.getD K zS).2.1 ++ (ss.getD (K + 1) zS).2.1) rfl V hC hc HJG.out.2.2 (show ((ss.getD K zS).2.1 ++ (ss.getD (K + 1) zS).2.1).length + totalB ((ss.getD K zS).2.1 ++ (ss.getD (K + 1) zS).2.1) ≤ 1048576 from by have h := HNB.out.2.2; rw [List.length_append, total_append]; omega) HJG.out.2.1)
   have HJ := zA (show jn ss K = seg (ss.getD K zS).1 ((ss.getD K zS).2.1 ++ (ss.getD (K + 1) zS).2.1) from rfl)
   have HEC := zA (fun (i : Nat) (hi : i < ss.length) => at_seg HC.out i hi)
   have HKC := zA (show w3.cell? (ad.add (K * 4)) = some (.int .i64 (ss.getD K zS).1) from hcc.1)
   clear hcc hT HNB HCH HTT
   generalize hga : (ss.getD K zS).1 = ba at HBU HJ HKC
   generalize hgl : (ss.getD K zS).2.1 ++ (ss.getD (K + 1) zS).2.1 = L at HFL HBU HJ
   clear hga hgl
   go_wp2_with fail
   go_at_call 33
   refine (HC1.out _ HB3.out).mono ?_
   rintro e w4 ⟨E1, e1, rfl, hS4, hb4⟩
   have HS4 := zA hS4
   have HB34 := zA hb4
   have BR4 := zA (blk_below BR3.out hb4)
   clear hS4 hb4 p0 pf0 p1 pf1 HC1
   go_wp2_with fail
   obtain ⟨gs, hgs⟩ : ∃ g_, g_ = w4.heap.size := ⟨_, rfl⟩
   obtain ⟨w5, hw5⟩ : ∃ w_, w_ = w4.alloc (.cells #[.slice none 0 0, .slice E1 x0.2.length e1] 27 (0, 0)) := ⟨_, rfl⟩
   rw [← hw5, ← hgs]
   have BKgs := zA (show w5.heap[gs]? = some (.cells #[.slice none 0 0, .slice E1 x0.2.length e1] 27 (0, 0)) from by rw [hw5, hgs]; exact blk_new w4 _)
   have hb5 : Below w4.heap.size w4 w5 := by rw [hw5]; exact below_alloc (Below.refl _ _) _
   have GS := zA (show w4.heap.size ≤ gs from Nat.le_of_eq hgs.symm)
   have HB45 := zA hb5
   have HB5 := zA (show Below w3.heap.size w3 w5 from grew_trans HB34.out hb5)
   have BR5 := zA (blk_below BR4.out hb5)
   have GSL := zA (blk_lt BKgs.out)
   have NEGR := zA (show gr ≠ gs from fun e => by have h1 := GR3.out; have h2 := GS.out; have h3 := HB34.out.size; omega)
   have HC4 := zA (show HelpBB.tBB.M w5 w3.heap.size (fun k => k < gs) x0.2 (.slice E1 x0.2.length e1) from
    HelpBB.tBB.M_mono (fun k hk => by have h1 := hk.2.2; have h2 := GS.out; omega) (Ty.M_below (T := HelpBB.tBB) (HelpBB.tBB.M_bound HS4.out) HB45.out))
   clear hgs hw5 hb5 HS4 BR4
   go_loopg [9] ss.length (fun gg s7 wr => ∃ (i : Nat) (Ap : Option Addr) (cp : Nat), i ≤ ss.length ∧ ss.length - i ≤ gg ∧ s7 = .int .i64 (i : Int) ∧ Aside0 (wr.heap[gs]? = some (.cells #[.slice Ap (mrow ss K i).length cp, .slice E1 x0.2.length e1] 27 (0, 0))) ∧ Aside0 (Kd.S kB 25 wr w3.heap.size (fun k => w5.heap.size ≤ k) (.slice Ap (mrow ss K i).length cp) (mrow ss K i)) ∧ Aside0 (∀ k, (Value.slice Ap (mrow ss K i).length cp).ownBlock = some k → w5.heap.size ≤ k) ∧ Aside0 (Kept w5 wr (fun k => k = gs)) ∧ Aside0 (Below w3.heap.size w3 wr))
   case atStart => exact ⟨0, none, 0, zq1, zq1, rfl, ⟨by rw [mrow_zero]; exact BKgs.out⟩, ⟨by rw [mrow_zero]; exact Kd.S_nil _ _ _ _ _⟩, ⟨fun k hk => by simp [Value.ownBlock] at hk⟩, ⟨Kept.refl _ _⟩, HB5⟩
   case round =>
    obtain ⟨i, Ap, cp, hi, hgg, rfl, HG, HR, HOW, HK, HB⟩ := hrel
    have h4z : IntKind.i64.wrap ((K : Int) + 1) = (K : Int) + 1 := by rw [IntKind.wrap_i64]; omega
    have h6z : IntKind.i64.wrap ((K : Int) + 2) = (K : Int) + 2 := by rw [IntKind.wrap_i64]; omega
    by_cases hlt : i < ss.length
    ·have hltz : (i : Int) < (ss.length : Int) := by omega
     have hrl := mrow_len ss K i hi
     obtain ⟨R, hR⟩ : ∃ R, R = mrow ss K i := ⟨_, rfl⟩
     rw [← hR] at hrl HG HR HOW
     have HZ := zA (show w5.heap.size ≤ wr.heap.size from HK.out.1)
     have HOL := zA (fun k (h : (Value.slice Ap R.length cp).ownBlock = some k) => Kd.S_lt HR.out k h)
     have HRQ := zA (show HelpBB.tBB.M wr w3.heap.size (fun k => w5.heap.size ≤ k ∧ k < wr.heap.size) R (.slice Ap R.length cp) from HelpBB.tBB.M_mono (fun k hk => ⟨hk.1, hk.2.2⟩) (HelpBB.tBB.M_bound HR.out))
     by_cases hik : K = i
     ·subst hik
      have HNX := zA (show mrow ss K (K + 1) = R ++ [code (jn ss K)] from by rw [hR]; exact mrow_at ss K hK)
      have HKP := zA (show ∀ V : World, Below wr.heap.size wr V → (V.cell? (ad.add (K * 4)) = some (.int .i64 ba)) from fun V hV => ((grew_trans HB.out hV).cell (World.block_lt_of_cell? w3 _ HKC.out)).trans HKC.out)
      have h2z : (0 : Int) ≤ (K : Int) := by omega
      have h3z : ((K : Int) + 2).toNat = K + 2 := by omega
      have h5z : (K : Int) ≤ (K : Int) + 2 := by omega
      have h7z : (K : Int) + 2 ≤ (cv : Int) := by omega
      have h8z : (0 : Int) ≤ (K : Int) + 2 := by omega
      clear hR
      go_upto_region 11 with fail
      go_cut [10] (fun sv_ wx => ∃ (gq : Nat) (B1 : Option Addr) (d1 : Nat) (B2 : Option Addr) (d2 : Nat) (B3 : Option Addr) (d3 : Nat), sv_ = .pointer (some ⟨gq, 0, none⟩) ∧ Aside0 (wx.heap[gq]? = some (.cells #[.int .i64 ba, .slice B1 L.length d1, .slice B2 (keys L).length d2, .slice B3 (keys L).length d3] 59 (0, 0))) ∧ Aside0 (kSeg.M wx wr.heap.size (fun k => wr.heap.size ≤ k) (seg ba L) [.int .i64 ba, .slice B1 L.length d1, .slice B2 (keys L).length d2, .slice B3 (keys L).length d3]) ∧ Aside0 (Below wr.heap.size wr wx) ∧ Aside0 (wr.heap.size ≤ gq))
      case first =>
       go_region_held3 (fun W_ => W_.cell? (ad.add (K * 4)) = some (.int .i64 ba)) ((refine HKP.out _ ?_; repeat (with_reducible first | exact HB6.out | exact HB5_.out | exact Below.refl _ _ | refine below_alloc ?_ _ | refine below_drew1 ?_ | refine pw_below_drewN ?_ _ | refine below_set ?_ (by first | exact Nat.le_refl _ | exact HB5_.out.size | exact HB6.out.size)))) (first | (go_at_call 23; (with_reducible refine (HFL.out _ (grew_trans HB.out ?h) _ (by first | rfl | omega | (simp; omega) | (simp; done))).mono ?_); (case h => exact zq3); rintro e w5 ⟨A9, c9, rfl, hR9, hb_⟩; have HC9 := zA (far_C (Kd.R_reads' hR9).2.2 hb_); have HL9 := zA (Kd.R_reads' hR9).2.1; clear hR9; (try have BKz0 := zA (show w5.heap[wr.heap.size]? = some (.cells #[.int .i64 0, .slice none 0 0, .slice none 0 0, .slice none 0 0] 59 (0, 0)) from blk_below (by (with_reducible repeat (first | refine blk_drewN ?_ _ | refine blk_drew ?_)); exact heap_alloc_new _ _) hb_)); have HB5_ := zA (show Below wr.heap.size wr w5 from grew_trans zq3 hb_); clear hb_) | (go_at_call 34; (with_reducible refine (HBU.out _ A9 c9 (Kd.C_below HC9.out ?h) HL9.out).mono ?_); (case h => exact zq17); rintro e w6 ⟨B1, d1, B2, d2, B3, d3, rfl, hM_, hb_⟩; (first | (have BKz1 := zA (show w6.heap[wr.heap.size]? = some (.cells #[.int .i64 0, .slice none 0 0, .slice none 0 0, .slice none 0 0] 59 (0, 0)) from blk_below (by (with_reducible repeat (first | refine blk_drewN ?_ _ | refine blk_drew ?_)); exact BKz0.out) hb_); obtain ⟨⟨zc0, zf0⟩, ⟨zc1, zf1⟩, ⟨zc2, zf2⟩, ⟨zc3, zf3⟩⟩ := cells4 BKz1.out; have HMz := zA (show kSeg.M w6 wr.heap.size (fun k => wr.heap.size < k) (seg ba L) [.int .i64 ba, .slice B1 L.length d1, .slice B2 (keys L).length d2, .slice B3 (keys L).length d3] from kSeg.M_mono (fun k hk => Nat.lt_of_lt_of_le (blk_lt (by (with_reducible repeat (first | refine blk_drewN ?_ _ | refine blk_drew ?_)); exact BKz0.out)) hk.2.1) (kSeg.M_lower (below_size zq17) (kSeg.M_bound hM_)))) | (have BKy := zA (show w6.heap[w5.heap.size]? = some (.cells #[.int .i64 0, .slice none 0 0, .slice none 0 0, .slice none 0 0] 59 (0, 0)) from blk_below (by (with_reducible repeat (first | refine blk_drewN ?_ _ | refine blk_drew ?_)); exact heap_alloc_new _ _) hb_); obtain ⟨⟨zc0, zf0⟩, ⟨zc1, zf1⟩, ⟨zc2, zf2⟩, ⟨zc3, zf3⟩⟩ := cells4 BKy.out; have HMz := zA (show kSeg.M w6 wr.heap.size (fun k => w5.heap.size < k) (seg ba L) [.int .i64 ba, .slice B1 L.length d1, .slice B2 (keys L).length d2, .slice B3 (keys L).length d3] from kSeg.M_mono (fun k hk => Nat.lt_of_lt_of_le (blk_lt (by (with_reducible repeat (first | refine blk_drewN ?_ _ | refine blk_drew ?_)); exact heap_alloc_new _ (.cells #[.int .i64 0, .slice none 0 0, .slice none 0 0, .slice none 0 0] 59 (0, 0)))) hk.2.1) (kSeg.M_lower (below_size zq17) (kSeg.M_bound hM_)))) | (have HMz := zA (show kSeg.M w6 wr.heap.size (fun k => wr.heap.size ≤ k) (seg ba L) [.int .i64 ba, .slice B1 L.length d1, .slice B2 (keys L).length d2, .slice B3 (keys L).length d3] from kSeg.M_mono (fun k hk => Nat.le_trans (below_size zq17) hk.2.1) (kSeg.M_lower (below_size zq17) (kSeg.M_bound hM_))))); have HB6 := zA (show Below wr.heap.size wr w6 from grew_trans zq17 hb_); clear hb_ hM_))
       all_goals
        refine gen_world _ _ ?_
        intro wz hW_
        have gg := zA (show Below wr.heap.size wr wz from by rw [hW_]; repeat (first | exact HB6.out | apply below_alloc | apply below_drew1 | apply pw_below_drewN | refine below_set ?_ (by first | exact Nat.le_refl _ | exact HB5_.out.size)))
        first | (have FA := zA (show wz.heap[wr.heap.size]? = some (.cells #[.int .i64 ba, .slice B1 L.length d1, .slice B2 (keys L).length d2, .slice B3 (keys L).length d3] 59 (0, 0)) from by rw [hW_]; (with_reducible repeat (first | refine blk_drewN ?_ _ | refine blk_drew ?_)); refine blk_put (cs := #[.int .i64 ba, .slice B1 L.length d1, .slice B2 (keys L).length d2, .slice none 0 0]) ?_ 3 _ rfl; (with_reducible repeat (first | refine blk_drewN ?_ _ | refine blk_drew ?_)); refine blk_put (cs := #[.int .i64 ba, .slice B1 L.length d1, .slice none 0 0, .slice none 0 0]) ?_ 2 _ rfl; (with_reducible repeat (first | refine blk_drewN ?_ _ | refine blk_drew ?_)); refine blk_put (cs := #[.int .i64 ba, .slice none 0 0, .slice none 0 0, .slice none 0 0]) ?_ 1 _ rfl; (with_reducible repeat (first | refine blk_drewN ?_ _ | refine blk_drew ?_)); refine blk_put (cs := #[.int .i64 0, .slice none 0 0, .slice none 0 0, .slice none 0 0]) ?_ 0 _ rfl; (with_reducible repeat (first | refine blk_drewN ?_ _ | refine blk_drew ?_)); exact BKz1.out); have FM := zA (show kSeg.M wz wr.heap.size (fun k => wr.heap.size ≤ k) (seg ba L) [.int .i64 ba, .slice B1 L.length d1, .slice B2 (keys L).length d2, .slice B3 (keys L).length d3] from by rw [hW_]; exact kSeg.M_mono (fun k hk => Nat.le_of_lt hk) (Kd.M_far (d := kSeg) (Kd.M_far (d := kSeg) (Kd.M_far (d := kSeg) (Kd.M_far (d := kSeg) HMz.out (p := ⟨_, 0, none⟩) (fun k hk => Nat.ne_of_gt hk) _) (p := ⟨_, 1, none⟩) (fun k hk => Nat.ne_of_gt hk) _) (p := ⟨_, 2, none⟩) (fun k hk => Nat.ne_of_gt hk) _) (p := ⟨_, 3, none⟩) (fun k hk => Nat.ne_of_gt hk) _)); have FG := zA (show wr.heap.size ≤ wr.heap.size from Nat.le_refl _)) | (have FA := zA (show wz.heap[w5.heap.size]? = some (.cells #[.int .i64 ba, .slice B1 L.length d1, .slice B2 (keys L).length d2, .slice B3 (keys L).length d3] 59 (0, 0)) from by rw [hW_]; (with_reducible repeat (first | refine blk_drewN ?_ _ | refine blk_drew ?_)); refine blk_put (cs := #[.int .i64 ba, .slice B1 L.length d1, .slice B2 (keys L).length d2, .slice none 0 0]) ?_ 3 _ rfl; (with_reducible repeat (first | refine blk_drewN ?_ _ | refine blk_drew ?_)); refine blk_put (cs := #[.int .i64 ba, .slice B1 L.length d1, .slice none 0 0, .slice none 0 0]) ?_ 2 _ rfl; (with_reducible repeat (first | refine blk_drewN ?_ _ | refine blk_drew ?_)); refine blk_put (cs := #[.int .i64 ba, .slice none 0 0, .slice none 0 0, .slice none 0 0]) ?_ 1 _ rfl; (with_reducible repeat (first | refine blk_drewN ?_ _ | refine blk_drew ?_)); refine blk_put (cs := #[.int .i64 0, .slice none 0 0, .slice none 0 0, .slice none 0 0]) ?_ 0 _ rfl; (with_reducible repeat (first | refine blk_drewN ?_ _ | refine blk_drew ?_)); exact BKy.out); have FM := zA (show kSeg.M wz wr.heap.size (fun k => wr.heap.size ≤ k) (seg ba L) [.int .i64 ba, .slice B1 L.length d1, .slice B2 (keys L).length d2, .slice B3 (keys L).length d3] from by rw [hW_]; exact kSeg.M_mono (fun k hk => Nat.le_trans HB5_.out.size (Nat.le_of_lt hk)) (Kd.M_far (d := kSeg) (Kd.M_far (d := kSeg) (Kd.M_far (d := kSeg) (Kd.M_far (d := kSeg) HMz.out (p := ⟨_, 0, none⟩) (fun k hk => Nat.ne_of_gt hk) _) (p := ⟨_, 1, none⟩) (fun k hk => Nat.ne_of_gt hk) _) (p := ⟨_, 2, none⟩) (fun k hk => Nat.ne_of_gt hk) _) (p := ⟨_, 3, none⟩) (fun k hk => Nat.ne_of_gt hk) _)); have FG := zA (show wr.heap.size ≤ w5.heap.size from HB5_.out.size)) | (have FA := zA (show wz.heap[w6.heap.size]? = some (.cells #[.int .i64 ba, .slice B1 L.length d1, .slice B2 (keys L).length d2, .slice B3 (keys L).length d3] 59 (0, 0)) from by rw [hW_]; (with_reducible repeat (first | refine blk_drewN ?_ _ | refine blk_drew ?_)); exact blk_new w6 _); have FM := zA (show kSeg.M wz wr.heap.size (fun k => wr.heap.size ≤ k) (seg ba L) [.int .i64 ba, .slice B1 L.length d1, .slice B2 (keys L).length d2, .slice B3 (keys L).length d3] from by rw [hW_]; exact Kd.M_below (d := kSeg) HMz.out zq3); have FG := zA HB6.out.size)
        clear hW_
        go_wp2_with fail
        go_meet
        exact ⟨_, B1, d1, B2, d2, B3, d3, rfl, FA, FM, gg, FG⟩
      case rest =>
       obtain ⟨gq, B1, d1, B2, d2, B3, d3, rfl, BKgq, HM6, HB6, GQ⟩ := hcut
       rename World => w6
       have BO6 := zA (blk_below HG.out HB6.out)
       have HZ6 := zA (show w5.heap.size ≤ w6.heap.size from Nat.le_trans HZ.out HB6.out.size)
       have HQ6 := zA (show HelpBB.tBB.M w6 w3.heap.size (fun k => w5.heap.size ≤ k ∧ k < wr.heap.size) R (.slice Ap R.length cp) from Ty.M_below (T := HelpBB.tBB) HRQ.out HB6.out)
       have HOL6 := zA (fun k (h : (Value.slice Ap R.length cp).ownBlock = some k) => Nat.lt_of_lt_of_le (HOL.out k h) HB6.out.size)
       have HW6 := zA (show Below w3.heap.size w3 w6 from grew_trans HB.out HB6.out)
       have HEN := zA (fun (V : World) (hV : Below w6.heap.size w6 V) => show Calls Tryz.prog 35 #[.agg #[.int .i64 ba, .slice B1 L.length d1, .slice B2 (keys L).length d2, .slice B3 (keys L).length d3]] V (fun e w' => ∃ v', e = .returned v' ∧ Kd.R (Kd.int .u8) 5 w' V.heap.size (fun _ => True) v' (code (seg ba L)) ∧ Grew V w') from encS_calls (seg ba L) B1 B2 B3 d1 d2 d3 L.length (keys L).length (keys L).length rfl rfl (List.length_map ..).symm V (kSeg.K_below hV (kSeg.K_of_M HM6.out)) (HJ.out ▸ HJG.out))
       rw [HJ.out] at HNX
       generalize seg ba L = sg at HEN HNX
       obtain ⟨⟨g0, gf0⟩, ⟨g1, gf1⟩, ⟨g2, gf2⟩, ⟨g3, gf3⟩⟩ := cells4 BKgq.out
       obtain ⟨⟨yc0, yf0⟩, ⟨yc1, yf1⟩⟩ := cells2 BO6.out
       clear HKP h2z h3z h5z h7z h8z
       go_wp2_with fail
       go_region_law (first | (go_simp; go_at_call 35; (with_reducible refine (HEN.out _ zq3).mono ?_); rintro e w7 ⟨v7, rfl, hM7, hb7⟩; obtain ⟨A7, c7, rfl⟩ := Kd.R_slice hM7; have HB7 := zA (show Below w6.heap.size w6 w7 from grew_trans zq3 hb7); have HM7 := zA (show Kd.R (Kd.int .u8) 5 w7 w6.heap.size (fun _ => True) (.slice A7 (code sg).length c7) (code sg) from Kd.R_lower hM7 (below_size zq3)); have BO7 := zA (blk_below BO6.out HB7.out); obtain ⟨⟨zc0, zf0⟩, ⟨zc1, zf1⟩⟩ := cells2 BO7.out; obtain ⟨⟨tc0, tf0⟩, ⟨tc1, tf1⟩⟩ := cells2 (blk_alloc BO7.out (.cells #[.slice A7 (code sg).length c7] 25 (0, 0))); clear hM7 hb7) | (refine Kd.S_append_step kB (w0 := w3) w3.heap.size (by first | rfl | simp [Region.wanted]) (.tmp 56) (.tmp 59) 22 25 (.slice none 0 0) 24 zq16 Tryz.underlying22 infoBB rfl zq15 zq1 (.slice Ap R.length cp) R (code sg) [.slice A7 (code sg).length c7] (fun k => w5.heap.size ≤ k) (fun k_ => some k_ = (.slice A7 (code sg).length c7 : Value).ownBlock) zq28 zq28 ?aP ?aK ?aF ?aO ?aB ?aS ?aL ?_; (case aP => exact Kd.M_row (Kd.R_lower (Kd.R_below (Kd.R_tight rfl HM7.out) zq3) HW6.out.size)); (case aK => exact fun k hk => ⟨by have h1 := Kd.R_base HM7.out k hk.symm; have h2 := HZ6.out; omega, fun e => by have h1 := Kd.R_base HM7.out k hk.symm; have h2 := HOL6.out k e.symm; omega⟩); (case aF => exact fun k hk => by have h2 := HZ6.out; have h3 := HB7.out.size; have h4 : w7.heap.size ≤ k := Nat.le_trans (below_size zq3) hk; omega); (case aO => exact HelpBB.tBB.M_mono (fun k hk => ⟨hk.1, fun e => by have h1 := Kd.R_base HM7.out k e.symm; have h2 := hk.2; have h3 := HB6.out.size; omega⟩) (Ty.M_below (T := HelpBB.tBB) (Ty.M_below (T := HelpBB.tBB) HQ6.out HB7.out) zq3)); (case aB => exact grew_trans (grew_trans HW6.out HB7.out) zq3); (case aS => exact (grew_trans (grew_trans HW6.out HB7.out) zq3).size); (case aL => omega); intro v8 w8 hO8 hB8 hg8 hat8; obtain ⟨A8, c8, e8⟩ := Kd.S_slice hO8; rw [show (R ++ [code sg]).length = R.length + 1 from by rw [List.length_append, List.length_singleton]] at e8; subst e8; have HG8 := zA (show w7.grownBy w8 (Value.slice Ap R.length cp).ownBlock from hg8); have BK8 := zA (blk_grown (g := gs) BO7.out HG8.out (fun e => by have h1 := HOW.out _ e.symm; have h2 := GSL.out; omega)); obtain ⟨⟨rc0, rf0⟩, ⟨rc1, rf1⟩⟩ := cells2 BK8.out; have HO8 := zA hO8; have HB8 := zA hB8; clear hO8 hB8 hg8 hat8))
       all_goals
        go_wp2
        go_roundg (ss.length - (K + 1))
        case measure => omega
        case rel =>
         have HLN : (R ++ [code sg]).length = R.length + 1 := by rw [List.length_append, List.length_singleton]
         exact ⟨K + 1, A8, c8, zq1, zq1, by go_num, ⟨by rw [HNX.out, HLN]; exact blk_put (cs := #[.slice Ap R.length cp, .slice E1 x0.2.length e1]) BK8.out 0 _ rfl⟩, ⟨by rw [HNX.out, HLN]; exact Ty.M_set (T := HelpBB.tBB) HO8.out (fun k hk e => by have h1 : w5.heap.size ≤ k := hk; have h2 := GSL.out; omega) _⟩, ⟨by rw [HNX.out, HLN]; exact fun k hk => (Kd.S_R HO8.out).1 k hk⟩, ⟨⟨by have z1 := HG8.out.size; have z2 := HB7.out.size; have z3 := HK.out.1; have z4 := HB6.out.size; simp [World.setCell]; omega, fun k hk hne => (Below.heap_setCell w8 ⟨gs, 0, none⟩ _ k hne).trans ((HG8.out.block k (by have z2 := HB7.out.size; have z3 := HK.out.1; have z4 := HB6.out.size; omega) (fun e => by have h1 := HOW.out _ e.symm; omega)).trans ((HB7.out.block k (by have z3 := HK.out.1; have z4 := HB6.out.size; omega)).trans ((HB6.out.block k (by have z3 := HK.out.1; omega)).trans (HK.out.2 k hk hne))))⟩⟩, ⟨below_set HB8.out (Nat.le_trans HB34.out.size GS.out)⟩⟩
     ·have hne : ¬ (i : Int) = (K : Int) := by omega
      by_cases hi1 : i = K + 1
      ·have hie : (i : Int) = (K : Int) + 1 := by omega
       have HSK := zA (show mrow ss K (i + 1) = R from by rw [hR, hi1]; exact mrow_skip ss K hK)
       clear hR
       go_wp2
       go_roundg (ss.length - (i + 1))
       case measure => omega
       case rel => exact ⟨i + 1, Ap, cp, zq1, zq1, by go_num, ⟨by rw [HSK.out]; exact HG.out⟩, ⟨by rw [HSK.out]; exact HR.out⟩, ⟨by rw [HSK.out]; exact HOW.out⟩, HK, HB⟩
      ·have hne2 : ¬ (i : Int) = (K : Int) + 1 := by omega
       have HNX := zA (show mrow ss K (i + 1) = R ++ [code (ss.getD i zS)] from by
        rw [hR]
        by_cases h : i < K
        ·exact mrow_lt ss K i h hlt
        ·exact mrow_gt ss K i zq1 hlt)
       clear hR
       obtain ⟨ad', B1, d1, B2, d2, B3, d3, e_, hcc, hT⟩ := HEC.out i hlt
       obtain rfl : ad = ad' := Option.some.inj e_
       have hGs := HGD.out _ (getD_mem ss zS i hlt)
       obtain ⟨hc0, hc1, hc2, hc3⟩ := cells_later HB.out hcc
       have HEN := zA (fun (V : World) (hV : Below wr.heap.size wr V) => encT_calls (ss.getD i zS) B1 B2 B3 d1 d2 d3 V (tSeg.K_below (grew_trans HB.out hV) hT) hGs)
       clear e_ hcc hT hGs
       generalize ss.getD i zS = sg at hc0 hc1 hc2 hc3 HNX HEN
       obtain ⟨⟨yc0, yf0⟩, ⟨yc1, yf1⟩⟩ := cells2 HG.out
       go_wp2_with fail
       go_region_law (first | (go_simp; go_at_call 35; (with_reducible refine (HEN.out _ zq3).mono ?_); rintro e w7 ⟨v7, rfl, hM7, hb7⟩; obtain ⟨A7, c7, rfl⟩ := Kd.R_slice hM7; have HB7 := zA (show Below wr.heap.size wr w7 from grew_trans zq3 hb7); have HM7 := zA (show Kd.R (Kd.int .u8) 5 w7 wr.heap.size (fun _ => True) (.slice A7 (code sg).length c7) (code sg) from Kd.R_lower hM7 (below_size zq3)); have BO7 := zA (blk_below HG.out HB7.out); obtain ⟨⟨zc0, zf0⟩, ⟨zc1, zf1⟩⟩ := cells2 BO7.out; obtain ⟨⟨tc0, tf0⟩, ⟨tc1, tf1⟩⟩ := cells2 (blk_alloc BO7.out (.cells #[.slice A7 (code sg).length c7] 25 (0, 0))); clear hM7 hb7) | (refine Kd.S_append_step kB (w0 := w3) w3.heap.size (by first | rfl | simp [Region.wanted]) (.tmp 67) (.tmp 73) 22 25 (.slice none 0 0) 24 zq16 Tryz.underlying22 infoBB rfl zq15 zq1 (.slice Ap R.length cp) R (code sg) [.slice A7 (code sg).length c7] (fun k => w5.heap.size ≤ k) (fun k_ => some k_ = (.slice A7 (code sg).length c7 : Value).ownBlock) zq28 zq28 ?aP ?aK ?aF ?aO ?aB ?aS ?aL ?_; (case aP => exact Kd.M_row (Kd.R_lower (Kd.R_below (Kd.R_tight rfl HM7.out) zq3) HB.out.size)); (case aK => exact fun k hk => ⟨by have h1 := Kd.R_base HM7.out k hk.symm; have h2 := HZ.out; omega, fun e => by have h1 := Kd.R_base HM7.out k hk.symm; have h2 := HOL.out k e.symm; omega⟩); (case aF => exact fun k hk => by have h2 := HZ.out; have h3 := HB7.out.size; have h4 : w7.heap.size ≤ k := Nat.le_trans (below_size zq3) hk; omega); (case aO => exact HelpBB.tBB.M_mono (fun k hk => ⟨hk.1, fun e => by have h1 := Kd.R_base HM7.out k e.symm; have h2 := hk.2; omega⟩) (Ty.M_below (T := HelpBB.tBB) (Ty.M_below (T := HelpBB.tBB) HRQ.out HB7.out) zq3)); (case aB => exact grew_trans (grew_trans HB.out HB7.out) zq3); (case aS => exact (grew_trans (grew_trans HB.out HB7.out) zq3).size); (case aL => omega); intro v8 w8 hO8 hB8 hg8 hat8; obtain ⟨A8, c8, e8⟩ := Kd.S_slice hO8; rw [show (R ++ [code sg]).length = R.length + 1 from by rw [List.length_append, List.length_singleton]] at e8; subst e8; have HG8 := zA (show w7.grownBy w8 (Value.slice Ap R.length cp).ownBlock from hg8); have BK8 := zA (blk_grown (g := gs) BO7.out HG8.out (fun e => by have h1 := HOW.out _ e.symm; have h2 := GSL.out; omega)); obtain ⟨⟨rc0, rf0⟩, ⟨rc1, rf1⟩⟩ := cells2 BK8.out; have HO8 := zA hO8; have HB8 := zA hB8; clear hO8 hB8 hg8 hat8))
       all_goals
        go_wp2
        go_roundg (ss.length - (i + 1))
        case measure => omega
        case rel =>
         have HLN : (R ++ [code sg]).length = R.length + 1 := by rw [List.length_append, List.length_singleton]
         exact ⟨i + 1, A8, c8, zq1, zq1, by go_num, ⟨by rw [HNX.out, HLN]; exact blk_put (cs := #[.slice Ap R.length cp, .slice E1 x0.2.length e1]) BK8.out 0 _ rfl⟩, ⟨by rw [HNX.out, HLN]; exact Ty.M_set (T := HelpBB.tBB) HO8.out (fun k hk e => by have h1 : w5.heap.size ≤ k := hk; have h2 := GSL.out; omega) _⟩, ⟨by rw [HNX.out, HLN]; exact fun k hk => (Kd.S_R HO8.out).1 k hk⟩, ⟨⟨by have z1 := HG8.out.size; have z2 := HB7.out.size; have z3 := HK.out.1; simp [World.setCell]; omega, fun k hk hne => (Below.heap_setCell w8 ⟨gs, 0, none⟩ _ k hne).trans ((HG8.out.block k (by have z2 := HB7.out.size; have z3 := HK.out.1; omega) (fun e => by have h1 := HOW.out _ e.symm; omega)).trans ((HB7.out.block k (by have z3 := HK.out.1; omega)).trans ((HK.out.2 k hk hne))))⟩⟩, ⟨below_set HB8.out (Nat.le_trans HB34.out.size GS.out)⟩⟩
    ·have hltz : ¬ (i : Int) < (ss.length : Int) := by omega
     obtain rfl : i = ss.length := by omega
     have hG9 := HG.out
     have hR9 := HR.out
     have HOW9 := HOW.out
     rw [mrow_all ss K hK] at hG9 hR9
     generalize (repl ss K (jn ss K)).map code = R at hG9 hR9 HME
     have HS9 := zA hR9
     have HG9 := zA hG9
     have BR9 := zA (blk_kept BR5.out HK.out NEGR.out)
     clear hG9 hR9 HG HR HOW HOW9
     obtain ⟨⟨pc0, pf0⟩, ⟨pc1, pf1⟩⟩ := cells2 HG9.out
     obtain ⟨⟨uc0, uf0⟩, ⟨uc1, uf1⟩⟩ := cells2 BR9.out
     have hz9 := HK.out.1
     go_wp2
     refine bodyPost_ret (results_ct rfl _ _ gr 27 #[.slice Ap R.length cp, .slice E1 x0.2.length e1] (0, 0) _ rfl (by (with_reducible repeat (first | refine blk_drewN ?_ _ | refine blk_drew ?_ | refine blk_alloc ?_ _)); refine blk_put (cs := #[.slice Ap R.length cp, .slice none 0 0]) ?_ 1 _ rfl; (with_reducible repeat (first | refine blk_drewN ?_ _ | refine blk_drew ?_ | refine blk_alloc ?_ _)); refine blk_put (cs := #[.slice none 0 0, .slice none 0 0]) ?_ 0 _ rfl; (with_reducible repeat (first | refine blk_drewN ?_ _ | refine blk_drew ?_ | refine blk_alloc ?_ _)); exact BR9.out) Tryz.underlying27 rfl zq5) rfl ?_
     rw [HME.out]
     refine ⟨_, rfl, ⟨[_, _], rfl, _, _, rfl, HelpBB.tBB.K_of_M ((Ty.M_set (T := HelpBB.tBB) (Ty.M_set (T := HelpBB.tBB) HS9.out (fun k hk e => by have h1 : w5.heap.size ≤ k := hk; have h2 := GSL.out; have h3 := GR3.out; have h4 := GS.out; have h5 := HB34.out.size; omega) _) (fun k hk e => by have h1 : w5.heap.size ≤ k := hk; have h2 := GSL.out; have h3 := GR3.out; have h4 := GS.out; have h5 := HB34.out.size; omega) _)), _, rfl, HelpBB.tBB.K_of_M ((Ty.M_set (T := HelpBB.tBB) (Ty.M_set (T := HelpBB.tBB) (HelpBB.tBB.M_bound (Ty.M_kept (T := HelpBB.tBB) HC4.out HK.out (fun k hk e => by have h1 : k < gs := hk; omega))) (fun k hk e => by have h1 := hk.2.1; have h2 := GR3.out; omega) _) (fun k hk e => by have h1 := hk.2.1; have h2 := GR3.out; omega) _))⟩, below_set (below_set ((grew_trans HB3.out HB.out)) GER.out) GER.out⟩
end Go.Proofs.YtmgmdnmfalepkaaGreat.Mer

namespace Go.Proofs.YtmgmdnmfalepkaaGreat.Mer
open Go.RowKit Go.Proofs.YtmgmdnmfalepkaaGreatW.PrintWords Go.Proofs.YtmgmdnmfalepkaaGreatW.PrintMore Go.Proofs.YtmgmdnmfalepkaaGreat.Kit Go.Proofs.YtmgmdnmfalepkaaGreat.PKit Go.Proofs.YtmgmdnmfalepkaaGreat.Ty Go.Proofs.YtmgmdnmfalepkaaGreat.PTri Go.Proofs.YtmgmdnmfalepkaaGreat.PSeg Go.Proofs.YtmgmdnmfalepkaaGreat.PEnc Go.Proofs.YtmgmdnmfalepkaaGreat.PDec Go.Proofs.YtmgmdnmfalepkaaGreat.PSta Go.Proofs.YtmgmdnmfalepkaaGreat.HelpBB Go.Proofs.YtmgmdnmfalepkaaGreat.HelpSeg Go.Proofs.YtmgmdnmfalepkaaGreat.Sto Go.Proofs.YtmgmdnmfalepkaaGreat.Rep
set_option linter.unusedVariables false
set_option linter.unusedSimpArgs false
theorem cells4 {w : World} {g : Nat} {t : TypeId} {a0 a1 a2 a3 : Value} (h : w.heap[g]? = some (.cells #[a0, a1, a2, a3] t (0, 0))) : (w.cell? ⟨g, 0, none⟩ = some a0 ∧ w.frozen? ⟨g, 0, none⟩ = false) ∧ (w.cell? ⟨g, 1, none⟩ = some a1 ∧ w.frozen? ⟨g, 1, none⟩ = false) ∧ (w.cell? ⟨g, 2, none⟩ = some a2 ∧ w.frozen? ⟨g, 2, none⟩ = false) ∧ (w.cell? ⟨g, 3, none⟩ = some a3 ∧ w.frozen? ⟨g, 3, none⟩ = false) := ⟨⟨(blk_cell h 0).trans rfl, blk_frozen h 0⟩, ⟨(blk_cell h 1).trans rfl, blk_frozen h 1⟩, ⟨(blk_cell h 2).trans rfl, blk_frozen h 2⟩, ⟨(blk_cell h 3).trans rfl, blk_frozen h 3⟩⟩
theorem row_at {w : World} {base : Nat} {ok : Nat → Prop} {ad : Addr} {n c : Nat} {ss : List SegT} (h : Kd.R kSeg 59 w base ok (.slice (some ad) n c) ss) : ∃ g, ad = ⟨g, 0, none⟩ ∧ c ≤ maxLen := by
 obtain ⟨h0, inner, ⟨hl, ho⟩, hr⟩ := h
 rcases ho with ⟨e, _⟩ | ⟨g', cap, cur, e, hbase, hh, hle, hmax, hsz, htk⟩
 ·cases e
 obtain ⟨e1, e2⟩ : ad = ⟨g', 0, none⟩ ∧ c = cap := by injection e with e1 e2 e3; injection e1 with e1; exact ⟨e1, e3⟩
 subst e1 e2
 exact ⟨g', rfl, hmax⟩
set_option maxRecDepth 100000 in
set_option maxHeartbeats 16000000 in
theorem merge_calls (x : StaT) (k : Int) (hk0 : -9223372036854775808 ≤ k) (hk1 : k ≤ 9223372036854775807) (w0 : World)
  (W : World) (gs N : Nat) (Av Ao : Option Addr) (cv co : Nat) (ss : List SegT) (hss : segsOf x = some ss) (hgood : ∀ s ∈ ss, Sto.Good s) (hB : Below w0.heap.size w0 W) (hg0 : w0.heap.size ≤ gs) (hgN : gs < N) (hNW : N ≤ W.heap.size)
  (hk : W.heap[gs]? = some (.cells #[.slice Av ss.length cv, .slice Ao x.2.length co] 79 (0, 0))) (hR : Kd.R kSeg 59 W w0.heap.size (fun k => gs < k ∧ k < N) (.slice Av ss.length cv) ss) (hS : Kd.S kB 25 W w0.heap.size (fun k => N ≤ k) (.slice Ao x.2.length co) x.2) :
  Calls Tryz.prog 37 #[.pointer (some ⟨gs, 0, none⟩), .int .i64 k] W fun e w' => ∃ (Bv : Option Addr) (dv : Nat) (Bo : Option Addr) (do_ : Nat), e = .returned (.int .i64 (mrgF x.2 k ss).2) ∧ w'.heap[gs]? = some (.cells #[.slice Bv (mrgF x.2 k ss).1.1.length dv, .slice Bo (mrgF x.2 k ss).1.2.length do_] 79 (0, 0)) ∧ Kd.C kSeg w' Bv (mrgF x.2 k ss).1.1.length (mrgF x.2 k ss).1.1 ∧ Kd.C kB w' Bo (mrgF x.2 k ss).1.2.length (mrgF x.2 k ss).1.2 ∧ (mrgF x.2 k ss).1.2.length ≤ do_ ∧ Below w0.heap.size w0 w' := by
 obtain ⟨hch, _, _, htt⟩ := segsOf_some hss
 obtain ⟨n1, n2, n3⟩ := chain_len0 hch
 have huS := Tryz.underlying79
 have huI := Tryz.underlying59
 have HB := zA hB
 have BK := zA hk
 have HR := zA hR
 have HS := zA hS
 obtain ⟨_, hco, hC⟩ := Kd.S_reads' hS
 have HC := zA hC
 have HRC := zA (Kd.R_reads' hR).2.2
 have GSN := zA (show gs < W.heap.size from by omega)
 have NW := zA hNW
 have HGD := zA hgood
 have HCH := zA hch
 have HTT := zA (show tots ss ≤ 20000 from by omega)
 clear hss hgood hB hk hR hS hC hNW hch htt
 obtain ⟨⟨p0, q0⟩, ⟨p1, q1⟩⟩ := cells2 BK.out
 by_cases hin : 0 ≤ k ∧ k + 1 < (ss.length : Int)
 case neg =>
  have HF := zA (show mrgF x.2 k ss = ((ss, x.2), 7) from by unfold mrgF; rw [if_neg hin])
  go_enter Tryz.func37, Tryz.ntmps37
  by_cases h0 : k < 0
  ·go_wp2_with fail
   go_ret
   rw [HF.out]
   first | refine ⟨Av, cv, Ao, co, rfl, ?_⟩ | refine ⟨rfl, Av, cv, Ao, co, ?_⟩
   exact ⟨BK.out, HRC.out, HC.out, hco, HB.out⟩
  ·have h1 : k ≥ (ss.length : Int) - 1 := by omega
   go_wp2_with fail
   go_ret
   rw [HF.out]
   first | refine ⟨Av, cv, Ao, co, rfl, ?_⟩ | refine ⟨rfl, Av, cv, Ao, co, ?_⟩
   exact ⟨BK.out, HRC.out, HC.out, hco, HB.out⟩
 case pos =>
  obtain ⟨i, rfl⟩ : ∃ i : Nat, k = (i : Int) := ⟨k.toNat, zq1⟩
  have hi : i + 2 ≤ ss.length := by omega
  have h0 : ¬ ((i : Int) < 0) := by omega
  have h1 : ¬ ((i : Int) ≥ (ss.length : Int) - 1) := by omega
  have HF := zA (show mrgF x.2 (i : Int) ss = ((repl ss i (jn ss i), x.2), 0) from by unfold mrgF; rw [if_pos hin]; rfl)
  clear hin
  obtain ⟨ad, A1, c1, A2, c2, A3, c3, rfl, hcc, hT⟩ := at_seg HRC.out i zq1
  obtain ⟨ad', B1, d1, B2, d2, B3, d3, e_, hcc', hT'⟩ := at_seg HRC.out (i + 1) zq1
  obtain rfl : ad = ad' := Option.some.inj e_
  clear e_
  have HT := zA hT
  have HT' := zA hT'
  clear hT hT'
  obtain ⟨hc0, hc1, hc2, hc3⟩ := hcc
  obtain ⟨hd0, hd1, hd2, hd3⟩ := hcc'
  have HNB := zA (nb HCH.out HTT.out i hi)
  have HGA := zA (HGD.out _ (getD_mem' ss i zq1))
  have HGB := zA (HGD.out _ (getD_mem' ss (i + 1) zq1))
  have HJ := zA (show jn ss i = seg (ss.getD i zS).1 ((ss.getD i zS).2.1 ++ (ss.getD (i + 1) zS).2.1) from rfl)
  clear n3 p1 q1 HCH HTT
  have h0z : (0 : Int) ≤ (i : Int) := by omega
  have h1z : (i : Int) < (ss.length : Int) := by omega
  have h2z : (0 : Int) ≤ (i : Int) + 1 := by omega
  have h3z : (i : Int) + 1 < (ss.length : Int) := by omega
  have h4z : IntKind.i64.wrap ((i : Int) + 1) = (i : Int) + 1 := by rw [IntKind.wrap_i64]; omega
  have h5z : ((i : Int) + 1).toNat = i + 1 := by omega
  generalize ss.getD i zS = a at HNB HGA HJ HT hc0 hc1 hc2 hc3
  generalize ss.getD (i + 1) zS = b at HNB HGB HJ HT' hd0 hd1 hd2 hd3
  have HMC := zA (fun (w' : World) (hW : Below W.heap.size W w') => mrg_calls a b _ _ w' (tSeg.K_below hW HT.out) (tSeg.K_below hW HT'.out) (seg_small HGA.out) (seg_small HGB.out) HGA.out.2.2 HGB.out.2.2 HNB.out.1)
  generalize a.2.1 ++ b.2.1 = L at HMC HJ
  have HKP := zA (show ∀ w' : World, Below W.heap.size W w' → (w'.cell? ⟨gs, 0, none⟩ = some (.slice (some ad) ss.length cv) ∧ w'.cell? (ad.add (i * 4)) = some (.int .i64 a.1) ∧ w'.cell? ⟨(ad.add (i * 4)).block, (ad.add (i * 4)).off + 1, none⟩ = some (.slice A1 a.2.1.length c1) ∧ w'.cell? ⟨(ad.add (i * 4)).block, (ad.add (i * 4)).off + 2, none⟩ = some (.slice A2 a.2.2.1.length c2) ∧ w'.cell? ⟨(ad.add (i * 4)).block, (ad.add (i * 4)).off + 3, none⟩ = some (.slice A3 a.2.2.2.length c3) ∧ w'.cell? (ad.add ((i + 1) * 4)) = some (.int .i64 b.1) ∧ w'.cell? ⟨(ad.add ((i + 1) * 4)).block, (ad.add ((i + 1) * 4)).off + 1, none⟩ = some (.slice B1 b.2.1.length d1) ∧ w'.cell? ⟨(ad.add ((i + 1) * 4)).block, (ad.add ((i + 1) * 4)).off + 2, none⟩ = some (.slice B2 b.2.2.1.length d2) ∧ w'.cell? ⟨(ad.add ((i + 1) * 4)).block, (ad.add ((i + 1) * 4)).off + 3, none⟩ = some (.slice B3 b.2.2.2.length d3)) from fun w' hW => by
   obtain ⟨u0, u1, u2, u3⟩ := cells_later hW ⟨hc0, hc1, hc2, hc3⟩
   obtain ⟨v0, v1, v2, v3⟩ := cells_later hW ⟨hd0, hd1, hd2, hd3⟩
   exact ⟨(blk_cell (blk_below BK.out hW) 0).trans rfl, u0, u1, u2, u3, v0, v1, v2, v3⟩)
  clear hc0 hc1 hc2 hc3 hd0 hd1 hd2 hd3 HT HT'
  go_enter Tryz.func37, Tryz.ntmps37
  go_upto_region 3 with fail
  go_cut [5] (fun sv_ wx => ∃ (gq : Nat) (E1 : Option Addr) (e1 : Nat) (E2 : Option Addr) (e2 : Nat) (E3 : Option Addr) (e3 : Nat), sv_ = .pointer (some ⟨gq, 0, none⟩) ∧ Aside0 (wx.heap[gq]? = some (.cells #[.int .i64 a.1, .slice E1 L.length e1, .slice E2 (keys L).length e2, .slice E3 (keys L).length e3] 59 (0, 0))) ∧ Aside0 (kSeg.M wx W.heap.size (fun k => W.heap.size ≤ k) (seg a.1 L) [.int .i64 a.1, .slice E1 L.length e1, .slice E2 (keys L).length e2, .slice E3 (keys L).length e3]) ∧ Aside0 (Below W.heap.size W wx) ∧ Aside0 (W.heap.size ≤ gq))
  case first =>
   go_region_held3 (fun W_ => W_.cell? ⟨gs, 0, none⟩ = some (.slice (some ad) ss.length cv) ∧ W_.cell? (ad.add (i * 4)) = some (.int .i64 a.1) ∧ W_.cell? ⟨(ad.add (i * 4)).block, (ad.add (i * 4)).off + 1, none⟩ = some (.slice A1 a.2.1.length c1) ∧ W_.cell? ⟨(ad.add (i * 4)).block, (ad.add (i * 4)).off + 2, none⟩ = some (.slice A2 a.2.2.1.length c2) ∧ W_.cell? ⟨(ad.add (i * 4)).block, (ad.add (i * 4)).off + 3, none⟩ = some (.slice A3 a.2.2.2.length c3) ∧ W_.cell? (ad.add ((i + 1) * 4)) = some (.int .i64 b.1) ∧ W_.cell? ⟨(ad.add ((i + 1) * 4)).block, (ad.add ((i + 1) * 4)).off + 1, none⟩ = some (.slice B1 b.2.1.length d1) ∧ W_.cell? ⟨(ad.add ((i + 1) * 4)).block, (ad.add ((i + 1) * 4)).off + 2, none⟩ = some (.slice B2 b.2.2.1.length d2) ∧ W_.cell? ⟨(ad.add ((i + 1) * 4)).block, (ad.add ((i + 1) * 4)).off + 3, none⟩ = some (.slice B3 b.2.2.2.length d3)) ((refine HKP.out _ ?_; repeat (with_reducible first | exact HB6.out | exact Below.refl _ _ | refine below_alloc ?_ _ | refine below_drew1 ?_ | refine pw_below_drewN ?_ _ | refine below_set ?_ (by first | exact Nat.le_refl _ | exact HB6.out.size)))) (first | (go_at_call 61; (with_reducible refine (HMC.out _ ?h).mono ?_); (case h => exact zq3); rintro e w6 ⟨E1, e1, E2, e2, E3, e3, rfl, hM_, hb_⟩; (first | (have BKz1 := zA (show w6.heap[W.heap.size]? = some (.cells #[.int .i64 0, .slice none 0 0, .slice none 0 0, .slice none 0 0] 59 (0, 0)) from blk_below (by (with_reducible repeat (first | refine blk_drewN ?_ _ | refine blk_drew ?_)); exact heap_alloc_new _ _) hb_); obtain ⟨⟨zc0, zf0⟩, ⟨zc1, zf1⟩, ⟨zc2, zf2⟩, ⟨zc3, zf3⟩⟩ := cells4 BKz1.out; have HMz := zA (show kSeg.M w6 W.heap.size (fun k => W.heap.size < k) (seg a.1 L) [.int .i64 a.1, .slice E1 L.length e1, .slice E2 (keys L).length e2, .slice E3 (keys L).length e3] from kSeg.M_mono (fun k hk => Nat.lt_of_lt_of_le (blk_lt (by (with_reducible repeat (first | refine blk_drewN ?_ _ | refine blk_drew ?_)); exact heap_alloc_new _ _)) hk.2.1) (kSeg.M_lower (below_size zq3) (kSeg.M_bound hM_)))) | (have HMz := zA (show kSeg.M w6 W.heap.size (fun k => W.heap.size ≤ k) (seg a.1 L) [.int .i64 a.1, .slice E1 L.length e1, .slice E2 (keys L).length e2, .slice E3 (keys L).length e3] from kSeg.M_mono (fun k hk => Nat.le_trans (below_size zq3) hk.2.1) (kSeg.M_lower (below_size zq3) (kSeg.M_bound hM_))))); have HB6 := zA (show Below W.heap.size W w6 from grew_trans zq3 hb_); clear hb_ hM_))
   all_goals
    refine gen_world _ _ ?_
    intro wz hW_
    have gg := zA (show Below W.heap.size W wz from by rw [hW_]; repeat (first | exact HB6.out | apply below_alloc | apply below_drew1 | apply pw_below_drewN | refine below_set ?_ (by first | exact Nat.le_refl _ | exact HB6.out.size)))
    first | (have FA := zA (show wz.heap[W.heap.size]? = some (.cells #[.int .i64 a.1, .slice E1 L.length e1, .slice E2 (keys L).length e2, .slice E3 (keys L).length e3] 59 (0, 0)) from by rw [hW_]; (with_reducible repeat (first | refine blk_drewN ?_ _ | refine blk_drew ?_)); refine blk_put (cs := #[.int .i64 a.1, .slice E1 L.length e1, .slice E2 (keys L).length e2, .slice none 0 0]) ?_ 3 _ rfl; (with_reducible repeat (first | refine blk_drewN ?_ _ | refine blk_drew ?_)); refine blk_put (cs := #[.int .i64 a.1, .slice E1 L.length e1, .slice none 0 0, .slice none 0 0]) ?_ 2 _ rfl; (with_reducible repeat (first | refine blk_drewN ?_ _ | refine blk_drew ?_)); refine blk_put (cs := #[.int .i64 a.1, .slice none 0 0, .slice none 0 0, .slice none 0 0]) ?_ 1 _ rfl; (with_reducible repeat (first | refine blk_drewN ?_ _ | refine blk_drew ?_)); refine blk_put (cs := #[.int .i64 0, .slice none 0 0, .slice none 0 0, .slice none 0 0]) ?_ 0 _ rfl; (with_reducible repeat (first | refine blk_drewN ?_ _ | refine blk_drew ?_)); exact BKz1.out); have FM := zA (show kSeg.M wz W.heap.size (fun k => W.heap.size ≤ k) (seg a.1 L) [.int .i64 a.1, .slice E1 L.length e1, .slice E2 (keys L).length e2, .slice E3 (keys L).length e3] from by rw [hW_]; exact kSeg.M_mono (fun k hk => Nat.le_of_lt hk) (Kd.M_far (d := kSeg) (Kd.M_far (d := kSeg) (Kd.M_far (d := kSeg) (Kd.M_far (d := kSeg) HMz.out (p := ⟨_, 0, none⟩) (fun k hk => Nat.ne_of_gt hk) _) (p := ⟨_, 1, none⟩) (fun k hk => Nat.ne_of_gt hk) _) (p := ⟨_, 2, none⟩) (fun k hk => Nat.ne_of_gt hk) _) (p := ⟨_, 3, none⟩) (fun k hk => Nat.ne_of_gt hk) _)); have FG := zA (Nat.le_refl W.heap.size)) | (have FA := zA (show wz.heap[w6.heap.size]? = some (.cells #[.int .i64 a.1, .slice E1 L.length e1, .slice E2 (keys L).length e2, .slice E3 (keys L).length e3] 59 (0, 0)) from by rw [hW_]; (with_reducible repeat (first | refine blk_drewN ?_ _ | refine blk_drew ?_)); exact blk_new w6 _); have FM := zA (show kSeg.M wz W.heap.size (fun k => W.heap.size ≤ k) (seg a.1 L) [.int .i64 a.1, .slice E1 L.length e1, .slice E2 (keys L).length e2, .slice E3 (keys L).length e3] from by rw [hW_]; exact Kd.M_below (d := kSeg) HMz.out zq3); have FG := zA HB6.out.size)
    clear hW_
    go_wp2_with fail
    go_meet
    exact ⟨_, E1, e1, E2, e2, E3, e3, rfl, FA, FM, gg, FG⟩
  case rest =>
   obtain ⟨gq, E1, e1, E2, e2, E3, e3, rfl, BKgq, HM6, HB6, GQ⟩ := hcut
   rename World => w6
   obtain ⟨g, rfl, hcv⟩ := row_at HR.out
   have HGG := zA (show gs < g ∧ g < N from HR.out.1 g rfl)
   have HCV := zA (show cv ≤ 9223372036854775807 ∧ ss.length ≤ 1099511627776 from ⟨hcv, zq1⟩)
   clear hcv
   have BK6 := zA (blk_below BK.out HB6.out)
   obtain ⟨⟨y0, y0f⟩, ⟨y1, y1f⟩⟩ := cells2 BK6.out
   obtain ⟨⟨s0, s0f⟩, ⟨s1, s1f⟩⟩ := cells2 (blk_alloc BK6.out (.cells #[.int .i64 a.1, .slice E1 L.length e1, .slice E2 (keys L).length e2, .slice E3 (keys L).length e3] 59 (0, 0)))
   obtain ⟨⟨x0, x0f⟩, ⟨x1, x1f⟩, ⟨x2, x2f⟩, ⟨x3, x3f⟩⟩ := cells4 BKgq.out
   have h6z : IntKind.i64.wrap ((i : Int) + 2) = (i : Int) + 2 := by rw [IntKind.wrap_i64]; omega
   clear p0 q0 HKP HMC
   go_wp2_with fail
   go_region_law (go_simp; go_at_call 62; (with_reducible refine (rep_calls ss i g cv hi w0.heap.size (fun k => gs < k ∧ k < N) (fun k => W.heap.size ≤ k) (seg a.1 L) w6.heap.size [.int .i64 a.1, .slice E1 L.length e1, .slice E2 (keys L).length e2, .slice E3 (keys L).length e3] _ w0 ?aR HCV.out ?ab ?aM ?ak ?aB).mono ?_); (case aR => exact Kd.R_below (Kd.R_below HR.out HB6.out) zq3); (case ab => first | exact heap_alloc_new _ _ | exact blk_new _ _ | (exact blk_drew (blk_new _ _))); (case aM => exact kSeg.M_lower HB.out.size (Kd.M_below HM6.out zq3)); (case ak => exact fun k hk => by have h1 := HGG.out.2; have h2 := NW.out; have h3 : W.heap.size ≤ k := hk; omega); (case aB => exact grew_trans (grew_trans HB.out HB6.out) zq3); rintro e w7 ⟨rfl, hR7, hB7, hK7⟩; have HR7 := zA hR7; have HB7 := zA hB7; have HK7 := zA hK7; clear hR7 hB7 hK7; have BK7 := zA (show w7.heap[gs]? = some (.cells #[.slice (some ⟨g, 0, none⟩) ss.length cv, .slice Ao x.2.length co] 79 (0, 0)) from (HK7.out.2 gs (blk_lt (blk_below BK6.out zq3)) (fun e => by have h1 := HGG.out.1; omega)).trans (blk_below BK6.out zq3)); obtain ⟨⟨z0, z0f⟩, ⟨z1, z1f⟩⟩ := cells2 BK7.out; have HO7 := zA (Kd.R_kept (Kd.R_below (Kd.R_below (Kd.S_R HS.out) HB6.out) zq3) HK7.out (fun k hk e => by have h1 := HGG.out.2; have h2 : N ≤ k := hk; omega)))
   all_goals
    clear HB6 HM6 y0 y0f y1 y1f s0 s0f s1 s1f x0 x0f x1 x1f x2 x2f x3 x3f
    go_wp2
    go_ret
    rw [HF.out, HJ.out]
    have er : (repl ss i (seg a.1 L)).length = ss.length - 1 := repl_len ss i _ hi
    first | refine ⟨some ⟨g, 0, none⟩, cv, Ao, co, rfl, ?_⟩ | refine ⟨rfl, some ⟨g, 0, none⟩, cv, Ao, co, ?_⟩
    refine ⟨show _ = some (Obj.cells #[.slice (some ⟨g, 0, none⟩) (repl ss i (seg a.1 L)).length cv, .slice Ao x.2.length co] 79 (0, 0)) from by rw [er]; exact blk_put (cs := #[.slice (some ⟨g, 0, none⟩) ss.length cv, .slice Ao x.2.length co]) BK7.out 0 _ rfl, ?_, ?_, hco, below_set HB7.out hg0⟩
    ·show Kd.C kSeg _ (some ⟨g, 0, none⟩) (repl ss i (seg a.1 L)).length (repl ss i (seg a.1 L))
     have h := Kd.R_reads' (Kd.R_far HR7.out (p := ⟨gs, 0, none⟩) (fun k hk => by show k ≠ gs; have h2 := GSN.out; rcases hk with hk | hk; (have h1 := hk.1; omega); (have h1 : W.heap.size ≤ k := hk; omega)) (.slice (some ⟨g, 0, none⟩) (ss.length - 1) cv))
     exact h.2.2
    ·exact (Kd.R_reads' (Kd.R_far HO7.out (p := ⟨gs, 0, none⟩) (fun k hk => by show k ≠ gs; have h1 : N ≤ k := hk; omega) (.slice (some ⟨g, 0, none⟩) (ss.length - 1) cv))).2.2
end Go.Proofs.YtmgmdnmfalepkaaGreat.Mer
