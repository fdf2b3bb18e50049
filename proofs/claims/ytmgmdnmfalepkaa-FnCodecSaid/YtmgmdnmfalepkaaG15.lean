/- Parts of the proof (see the row's own text): DecH, DrawS, Rep0. -/
import Derived.Test.YtmgmdnmfalepkaaG00
import Derived.Test.YtmgmdnmfalepkaaG13
import Derived.Test.YtmgmdnmfalepkaaG14
import Derived.Test.YtmgmdnmfalepkaaG6
import Derived.Test.YtmgmdnmfalepkaaG9
import Derived.Test.YtmgmdnmfalepkaaG10
import Derived.Test.YtmgmdnmfalepkaaG12
import Derived.Test.YtmgmdnmfalepkaaG11
import Derived.Test.YtmgmdnmfalepkaaG2
import Derived.Laws.CopyOwn
import Derived.Lib.SliceRun
namespace Go.Proofs.Ytmgmdnmfalepkaa.SegS
open Go.RowKit Go.Proofs.YtmgmdnmfalepkaaW.PrintWords Go.Proofs.YtmgmdnmfalepkaaW.PrintMore Go.Proofs.Ytmgmdnmfalepkaa.Kit Go.Proofs.Ytmgmdnmfalepkaa.PKit Go.Proofs.Ytmgmdnmfalepkaa.Ty Go.Proofs.Ytmgmdnmfalepkaa.PSeg Go.Proofs.Ytmgmdnmfalepkaa.PEnc Go.Proofs.Ytmgmdnmfalepkaa.PDec Go.Proofs.Ytmgmdnmfalepkaa.PSta Go.Proofs.Ytmgmdnmfalepkaa.HelpBB Go.Proofs.Ytmgmdnmfalepkaa.HelpSeg
open Go.Proofs.Ytmgmdnmfalepkaa.Build hiding code ans
open Go.Proofs.Ytmgmdnmfalepkaa.Sto
set_option linter.unusedVariables false
set_option linter.unusedSimpArgs false
theorem below_of_drawn {w w' : World} (h : Drawn0 w w') : Below w.heap.size w w' := by first | exact h.below | exact pw_grow (by first | exact h | exact h.below)
theorem mk_M {w : World} {base : Nat} {b : Int} {ls : List (List Int)} {A1 A2 A3 : Option Addr} {c1 c2 c3 : Nat} (h1 : HelpBB.tBB.M w base (fun _ => True) ls (.slice A1 ls.length c1)) (h2 : HelpI.tI.M w base (fun _ => True) (keys ls) (.slice A2 (keys ls).length c2)) (h3 : HelpII.tII.M w base (fun _ => True) ((keys ls).map (post b ls ls.length)) (.slice A3 (keys ls).length c3)) :
  kSeg.M w base (fun _ => True) (seg b ls) [.int .i64 b, .slice A1 ls.length c1, .slice A2 (keys ls).length c2, .slice A3 (keys ls).length c3] :=
 ⟨[_], [_, _, _], rfl, rfl, [_], [_, _], rfl, ⟨_, rfl, Kd.S_R h1⟩, [_], [_], rfl, ⟨_, rfl, h2⟩, ⟨_, rfl, Kd.S_R h3⟩⟩
theorem zero_M (w : World) (base : Nat) : kSeg.M w base (fun _ => True) (0, [], [], []) [.int .i64 0, .slice none 0 0, .slice none 0 0, .slice none 0 0] :=
 ⟨[_], [_, _, _], rfl, rfl, [_], [_, _], rfl, ⟨_, rfl, Kd.R_nil _ _ _ _ _⟩, [_], [_], rfl, ⟨_, rfl, Kd.R_nil _ _ _ _ _⟩, ⟨_, rfl, Kd.R_nil _ _ _ _ _⟩⟩
theorem bld_good (b : Int) (A : Option Addr) (n c : Nat) (ls : List (List Int)) (hn : n = ls.length) (w : World) (hr : Kd.C kB w A ls.length ls) (hc : ls.length ≤ c) (hb : Bytes ls) (hs : smallBB ls) (hf : fits b ls = true) :
  Calls Try.prog 92 #[.int .i64 b, .slice A n c] w fun e w' => ∃ (B1 : Option Addr) (d1 : Nat) (B2 : Option Addr) (d2 : Nat) (B3 : Option Addr) (d3 : Nat), e = .returned (.agg #[.int .i64 b, .slice B1 n d1, .slice B2 (keys ls).length d2, .slice B3 (keys ls).length d3]) ∧ kSeg.M w' w.heap.size (fun _ => True) (seg b ls) [.int .i64 b, .slice B1 n d1, .slice B2 (keys ls).length d2, .slice B3 (keys ls).length d3] ∧ Grew w w' := by
 obtain ⟨f1, f2, f3, f4, f5, f6⟩ := fits_parts hf
 refine (Bld.bld_calls b A n c ls hn w hr hc hb hs f1 f2 zq3).mono ?_
 subst hn
 rintro e w' ⟨A1, c1, A2, c2, A3, c3, rfl, m1, m2, m3, hg⟩
 exact ⟨A1, c1, A2, c2, A3, c3, rfl, mk_M m1 m2 m3, hg⟩
theorem encS_calls (s : SegT) (B1 B2 B3 : Option Addr) (d1 d2 d3 n1 n2 n3 : Nat) (h1 : n1 = s.2.1.length) (h2 : n2 = s.2.2.1.length) (h3 : n3 = s.2.2.2.length) (W : World) (h : kSeg.K W s [.int .i64 s.1, .slice B1 n1 d1, .slice B2 n2 d2, .slice B3 n3 d3]) (hG : Sto.Good s) :
  Calls Try.prog 102 #[.agg #[.int .i64 s.1, .slice B1 n1 d1, .slice B2 n2 d2, .slice B3 n3 d3]] W fun e w' => ∃ v', e = .returned v' ∧ Kd.R (Kd.int .u8) 5 w' W.heap.size (fun _ => True) v' (code s) ∧ Grew W w' := by
 subst h1 h2 h3
 obtain ⟨b, ls, K, Ps⟩ := s
 obtain ⟨g1, g2, g3⟩ := hG
 obtain ⟨_, _, e0, hk0, ⟨_, _, e1, ⟨A1, c1, e11, l1, q1⟩, ⟨_, _, e2, ⟨A2, c2, e22, l2, q2⟩, ⟨A3, c3, e33, l3, q3⟩⟩⟩⟩ := h
 subst e11 e22 e33 e2 e1
 cases hk0
 simp only [List.cons_append, List.nil_append, List.cons.injEq, Value.slice.injEq, true_and, and_true] at e0
 obtain ⟨⟨rfl, rfl⟩, ⟨rfl, rfl⟩, rfl, rfl⟩ := e0
 have hok : EncOk (b, ls, K, Ps) := by
  have g1' : (b, ls, K, Ps) = seg b ls := g1
  rw [g1']
  exact encOk_seg g2 g3
 obtain ⟨k, hk⟩ := (encode_ev (b, ls, K, Ps) hok g3).rounds
 exact L.spec_l4encode.calls k b B1 d1 ls B2 d2 K B3 d3 Ps _ W q1 l1 q2 l2 q3 l3 hk
set_option maxRecDepth 100000 in
set_option maxHeartbeats 8000000 in
theorem decS_calls (A : Option Addr) (c : Nat) (b : List Int) (w : World) (hr : Kd.C (Kd.int .u8) w A b.length b) (hc : b.length ≤ c) (hb : ∀ x ∈ b, 0 ≤ x ∧ x ≤ 255) (hl : b.length ≤ 1048576) :
  Calls Try.prog 44 #[.slice A b.length c] w fun e w' => ∃ (B1 : Option Addr) (d1 : Nat) (B2 : Option Addr) (d2 : Nat) (B3 : Option Addr) (d3 : Nat), e = .returned (.tuple #[.agg #[.int .i64 (dec b).1.1, .slice B1 (dec b).1.2.1.length d1, .slice B2 (dec b).1.2.2.1.length d2, .slice B3 (dec b).1.2.2.2.length d3], .int .i64 (dec b).2]) ∧ kSeg.M w' w.heap.size (fun _ => True) (dec b).1 [.int .i64 (dec b).1.1, .slice B1 (dec b).1.2.1.length d1, .slice B2 (dec b).1.2.2.1.length d2, .slice B3 (dec b).1.2.2.2.length d3] ∧ Grew w w' := by
 have huI := Try.underlying50
 have HR := zA hr
 have HC := zA hc
 have HY := zA hb
 obtain ⟨kl, hkl⟩ := (lines_ev b hb hl).rounds
 clear hr hc hb
 cases hP : specP b with
 | none =>
  rw [hP] at hkl
  have HL := zA (fun (W : World) (hW : Below w.heap.size w W) => L.spec_l4lines.calls kl A c b _ _ _ W (Kd.C_below HR.out hW) HC.out hkl)
  have HP := zA hP
  clear hP hkl
  go_enter Try.func44, Try.ntmps44
  go_wp2_with (((with_reducible refine gate_dst (N := 2) rfl ?_); refine box_event ?hg (N := 2) ?hd (cs := #[.int .i64 0, .slice none 0 0, .slice none 0 0, .slice none 0 0]) (t := 50) ?hr ?_; (case hd => rfl); (case hg => rfl); (case hr => first | (go_simp; done) | (go_simp; rfl)); intro gr hg_ w1 hbx hbb; have BKgr := zA hbx; have GEgr := zA (show w.heap.size ≤ gr from Nat.le_of_eq hg_.symm); have GLgr := zA (blk_lt hbx); have HBw1 := zA hbb; clear hg_ hbb; obtain ⟨⟨hgrc0, hgrf0⟩, ⟨hgrc1, hgrf1⟩, ⟨hgrc2, hgrf2⟩, ⟨hgrc3, hgrf3⟩⟩ := cells4 hbx; clear hbx))
  go_at_call 100
  refine (HL.out _ HBw1.out).mono ?_
  rintro e w2 ⟨v2, rfl, hS2, hb2⟩
  obtain ⟨A1, c1, rfl⟩ := Kd.S_slice hS2
  have BK2 := zA (blk_below BKgr.out hb2)
  have HB2 := zA (show Below w.heap.size w w2 from grew_trans HBw1.out hb2)
  obtain ⟨⟨s0, sf0⟩, ⟨s1, sf1⟩, ⟨s2, sf2⟩, ⟨s3, sf3⟩⟩ := cells4 BK2.out
  clear hS2 hb2
  go_wp2
  refine bodyPost_ret (results_ct rfl _ _ gr 50 #[.int .i64 0, .slice none 0 0, .slice none 0 0, .slice none 0 0] (0, 0) _ rfl (by (with_reducible repeat (first | refine blk_drewN ?_ _ | refine blk_drew ?_ | refine blk_alloc ?_ _)); refine blk_put (cs := #[.int .i64 0, .slice none 0 0, .slice none 0 0, .slice none 0 0]) ?_ 3 _ rfl; (with_reducible repeat (first | refine blk_drewN ?_ _ | refine blk_drew ?_ | refine blk_alloc ?_ _)); refine blk_put (cs := #[.int .i64 0, .slice none 0 0, .slice none 0 0, .slice none 0 0]) ?_ 2 _ rfl; (with_reducible repeat (first | refine blk_drewN ?_ _ | refine blk_drew ?_ | refine blk_alloc ?_ _)); refine blk_put (cs := #[.int .i64 0, .slice none 0 0, .slice none 0 0, .slice none 0 0]) ?_ 1 _ rfl; (with_reducible repeat (first | refine blk_drewN ?_ _ | refine blk_drew ?_ | refine blk_alloc ?_ _)); refine blk_put (cs := #[.int .i64 0, .slice none 0 0, .slice none 0 0, .slice none 0 0]) ?_ 0 _ rfl; (with_reducible repeat (first | refine blk_drewN ?_ _ | refine blk_drew ?_ | refine blk_alloc ?_ _)); exact BK2.out) Try.underlying50 rfl zq12) rfl ?_
  rw [show dec b = ((0, [], [], []), 5) from by rw [dec_spec]; unfold decBy; rw [HP.out]]
  exact ⟨none, 0, none, 0, none, 0, rfl, zero_M _ _, below_set (below_set (below_set (below_set (HB2.out) GEgr.out) GEgr.out) GEgr.out) GEgr.out⟩
 | some q =>
  obtain ⟨base, ls⟩ := q
  rw [hP] at hkl
  have HL := zA (fun (W : World) (hW : Below w.heap.size w W) => L.spec_l4lines.calls kl A c b _ _ _ W (Kd.C_below HR.out hW) HC.out hkl)
  have hh : rdHead 4 (b.drop 2) = some (base, ls) := by
   unfold specP at hP
   by_cases h2 : b.length < 2
   ·rw [if_pos h2] at hP; cases hP
   ·rwa [if_neg h2] at hP
  obtain ⟨b0, b1, l1, l2, l3⟩ := rdHead_some 4 (b.drop 2) base ls (bytes_drop HY.out 2) hh
  rw [List.length_drop] at l2
  have hs : smallBB ls := by show ls.length + totalB ls ≤ 1048576; omega
  obtain ⟨kf, hkf⟩ := (fits_ev base ls hs).rounds
  have HP := zA hP
  have HSM := zA hs
  have HLY := zA l3
  clear hP hkl hh b0 b1 l2 l3 hs
  go_enter Try.func44, Try.ntmps44
  go_wp2_with (((with_reducible refine gate_dst (N := 2) rfl ?_); refine box_event ?hg (N := 2) ?hd (cs := #[.int .i64 0, .slice none 0 0, .slice none 0 0, .slice none 0 0]) (t := 50) ?hr ?_; (case hd => rfl); (case hg => rfl); (case hr => first | (go_simp; done) | (go_simp; rfl)); intro gr hg_ w1 hbx hbb; have BKgr := zA hbx; have GEgr := zA (show w.heap.size ≤ gr from Nat.le_of_eq hg_.symm); have GLgr := zA (blk_lt hbx); have HBw1 := zA hbb; clear hg_ hbb; obtain ⟨⟨hgrc0, hgrf0⟩, ⟨hgrc1, hgrf1⟩, ⟨hgrc2, hgrf2⟩, ⟨hgrc3, hgrf3⟩⟩ := cells4 hbx; clear hbx))
  go_at_call 100
  refine (HL.out _ HBw1.out).mono ?_
  rintro e w2 ⟨v2, rfl, hS2, hb2⟩
  obtain ⟨A1, c1, rfl⟩ := Kd.S_slice hS2
  have BK2 := zA (blk_below BKgr.out hb2)
  have HB2 := zA (show Below w.heap.size w w2 from grew_trans HBw1.out hb2)
  have HGR := zA (show gr < w2.heap.size from blk_lt BK2.out)
  obtain ⟨_, hc2, hC2⟩ := Kd.S_reads' hS2
  have HF := zA (fun (W : World) (hW : Below w2.heap.size w2 W) => L.spec_l4fits.calls kf base A1 c1 ls _ W (Kd.C_below hC2 hW) hc2 hkf)
  have HC2 := zA hC2
  have HCC := zA hc2
  clear hS2 hb2 hC2 hc2 hkf hgrc0 hgrf0 hgrc1 hgrf1 hgrc2 hgrf2 hgrc3 hgrf3
  cases hft : fits base ls with
  | false =>
   rw [hft] at HF
   have HFT := zA hft
   clear hft
   go_wp2_with (go_at_call 91; refine (HF.out _ zq7).mono ?_; rintro e w3 ⟨rfl, hd3⟩; have HB3 := zA (grew_trans HB2.out (grew_trans zq7 (below_of_drawn hd3))); have BK3 := zA (blk_below BK2.out (grew_trans zq7 (below_of_drawn hd3))); obtain ⟨⟨s0, sf0⟩, ⟨s1, sf1⟩, ⟨s2, sf2⟩, ⟨s3, sf3⟩⟩ := cells4 BK3.out; clear hd3)
   refine bodyPost_ret (results_ct rfl _ _ gr 50 #[.int .i64 0, .slice none 0 0, .slice none 0 0, .slice none 0 0] (0, 0) _ rfl (by (with_reducible repeat (first | refine blk_drewN ?_ _ | refine blk_drew ?_ | refine blk_alloc ?_ _)); refine blk_put (cs := #[.int .i64 0, .slice none 0 0, .slice none 0 0, .slice none 0 0]) ?_ 3 _ rfl; (with_reducible repeat (first | refine blk_drewN ?_ _ | refine blk_drew ?_ | refine blk_alloc ?_ _)); refine blk_put (cs := #[.int .i64 0, .slice none 0 0, .slice none 0 0, .slice none 0 0]) ?_ 2 _ rfl; (with_reducible repeat (first | refine blk_drewN ?_ _ | refine blk_drew ?_ | refine blk_alloc ?_ _)); refine blk_put (cs := #[.int .i64 0, .slice none 0 0, .slice none 0 0, .slice none 0 0]) ?_ 1 _ rfl; (with_reducible repeat (first | refine blk_drewN ?_ _ | refine blk_drew ?_ | refine blk_alloc ?_ _)); refine blk_put (cs := #[.int .i64 0, .slice none 0 0, .slice none 0 0, .slice none 0 0]) ?_ 0 _ rfl; (with_reducible repeat (first | refine blk_drewN ?_ _ | refine blk_drew ?_ | refine blk_alloc ?_ _)); exact BK3.out) Try.underlying50 rfl zq12) rfl ?_
   rw [show dec b = ((0, [], [], []), 5) from by rw [dec_spec]; unfold decBy; rw [HP.out]; simp only; rw [HFT.out]; rfl]
   exact ⟨none, 0, none, 0, none, 0, rfl, zero_M _ _, below_set (below_set (below_set (below_set (HB3.out) GEgr.out) GEgr.out) GEgr.out) GEgr.out⟩
  | true =>
   rw [hft] at HF
   have HFT := zA hft
   have HBL := zA (fun (W : World) (hW : Below w2.heap.size w2 W) => bld_good base A1 ls.length c1 ls rfl W (Kd.C_below HC2.out hW) HCC.out HLY.out HSM.out hft)
   clear hft
   go_wp2_with (first | (go_at_call 91; refine (HF.out _ zq7).mono ?_; rintro e w3 ⟨rfl, hd3⟩; have HB3 := zA (show Below w2.heap.size w2 w3 from grew_trans zq7 (below_of_drawn hd3)); clear hd3) | (go_at_call 92; refine (HBL.out _ HB3.out).mono ?_; rintro e w4 ⟨B1, d1, B2, d2, B3, d3, rfl, hM4, hb4⟩; have HB4 := zA (show Below w2.heap.size w2 w4 from grew_trans HB3.out hb4); have HM4 := zA (show kSeg.M w4 w2.heap.size (fun _ => True) (seg base ls) [.int .i64 base, .slice B1 ls.length d1, .slice B2 (keys ls).length d2, .slice B3 (keys ls).length d3] from kSeg.M_lower HB3.out.size hM4); obtain ⟨⟨x0, xf0⟩, ⟨x1, xf1⟩, ⟨x2, xf2⟩, ⟨x3, xf3⟩⟩ := cells4 (blk_new w4 (.cells #[.int .i64 base, .slice B1 ls.length d1, .slice B2 (keys ls).length d2, .slice B3 (keys ls).length d3] 50 (0, 0))); clear hM4 hb4))
   obtain ⟨gq, hgq⟩ : ∃ g_, g_ = w4.heap.size := ⟨_, rfl⟩
   obtain ⟨w5, hw5⟩ : ∃ w_, w_ = w4.alloc (.cells #[.int .i64 base, .slice B1 ls.length d1, .slice B2 (keys ls).length d2, .slice B3 (keys ls).length d3] 50 (0, 0)) := ⟨_, rfl⟩
   rw [← hw5, ← hgq] at x0 xf0 x1 xf1 x2 xf2 x3 xf3
   rw [← hw5, ← hgq]
   have BKgq := zA (show w5.heap[gq]? = some (.cells #[.int .i64 base, .slice B1 ls.length d1, .slice B2 (keys ls).length d2, .slice B3 (keys ls).length d3] 50 (0, 0)) from by rw [hw5, hgq]; exact blk_new w4 _)
   have hb5 : Below w4.heap.size w4 w5 := by rw [hw5]; exact below_alloc (Below.refl _ _) _
   have HB5 := zA (show Below w2.heap.size w2 w5 from grew_trans HB4.out hb5)
   have HM5 := zA (Kd.M_below HM4.out hb5)
   clear hgq hw5 hb5
   have HEN := encS_calls (seg base ls) B1 B2 B3 d1 d2 d3 ls.length (keys ls).length (keys ls).length rfl rfl (List.length_map ..).symm w5 (kSeg.K_of_M HM5.out) ⟨rfl, HFT.out, HLY.out⟩
   go_at_call 102
   refine HEN.mono ?_
   rintro e w6 ⟨v6, rfl, hM6, hb6⟩
   obtain ⟨A6, c6, rfl⟩ := Kd.R_slice hM6
   have hsame := same_bytes (code (seg base ls)) b (code_bytes (s := seg base ls) HLY.out) HY.out
   obtain ⟨_, hc6, hC6⟩ := Kd.R_reads' hM6
   have HSB := zA (fun (W : World) (hW : Below w6.heap.size w6 W) => L.spec_l4sameBytes.calls A6 c6 (code (seg base ls)) A c b (decide (code (seg base ls) = b)) W (Kd.C_below hC6 hW) hc6 (Kd.C_below HR.out (grew_trans HB2.out (grew_trans HB5.out (grew_trans hb6 hW)))) HC.out (by show some _ = some _; rw [hsame]))
   have HB6 := zA (show Below w2.heap.size w2 w6 from grew_trans HB5.out hb6)
   have BK6 := zA (blk_below BKgq.out hb6)
   have HM6 := zA (Kd.M_below HM5.out hb6)
   have hcl : (code (seg base ls)).length ≤ 9223372036854775807 := hC6.2.1
   clear hM6 hb6 hC6 hc6 hsame HEN x0 xf0 x1 xf1 x2 xf2 x3 xf3
   by_cases hcd : code (seg base ls) = b
   case neg =>
    rw [decide_eq_false hcd] at HSB
    have HCD := zA hcd
    clear hcd
    go_wp2_with (go_at_call 101; refine (HSB.out _ zq7).mono ?_; rintro e w7 ⟨rfl, hd7⟩; have HB7 := zA (show Below w2.heap.size w2 w7 from grew_trans HB6.out (grew_trans zq7 (below_of_drawn hd7))); have BK7 := zA (blk_below BK2.out HB7.out); obtain ⟨⟨s0, sf0⟩, ⟨s1, sf1⟩, ⟨s2, sf2⟩, ⟨s3, sf3⟩⟩ := cells4 BK7.out; clear hd7)
    refine bodyPost_ret (results_ct rfl _ _ gr 50 #[.int .i64 0, .slice none 0 0, .slice none 0 0, .slice none 0 0] (0, 0) _ rfl (by (with_reducible repeat (first | refine blk_drewN ?_ _ | refine blk_drew ?_ | refine blk_alloc ?_ _)); refine blk_put (cs := #[.int .i64 0, .slice none 0 0, .slice none 0 0, .slice none 0 0]) ?_ 3 _ rfl; (with_reducible repeat (first | refine blk_drewN ?_ _ | refine blk_drew ?_ | refine blk_alloc ?_ _)); refine blk_put (cs := #[.int .i64 0, .slice none 0 0, .slice none 0 0, .slice none 0 0]) ?_ 2 _ rfl; (with_reducible repeat (first | refine blk_drewN ?_ _ | refine blk_drew ?_ | refine blk_alloc ?_ _)); refine blk_put (cs := #[.int .i64 0, .slice none 0 0, .slice none 0 0, .slice none 0 0]) ?_ 1 _ rfl; (with_reducible repeat (first | refine blk_drewN ?_ _ | refine blk_drew ?_ | refine blk_alloc ?_ _)); refine blk_put (cs := #[.int .i64 0, .slice none 0 0, .slice none 0 0, .slice none 0 0]) ?_ 0 _ rfl; (with_reducible repeat (first | refine blk_drewN ?_ _ | refine blk_drew ?_ | refine blk_alloc ?_ _)); exact BK7.out) Try.underlying50 rfl zq12) rfl ?_
    rw [show dec b = ((0, [], [], []), 5) from by rw [dec_spec]; unfold decBy; rw [HP.out]; simp only; rw [if_neg (fun h => HCD.out h.2)]]
    exact ⟨none, 0, none, 0, none, 0, rfl, zero_M _ _, below_set (below_set (below_set (below_set ((grew_trans HB2.out HB7.out)) GEgr.out) GEgr.out) GEgr.out) GEgr.out⟩
   case pos =>
    rw [decide_eq_true hcd] at HSB
    have HD := zA (show dec b = (seg base ls, 0) from by rw [dec_spec]; unfold decBy; rw [HP.out]; simp only; rw [if_pos ⟨HFT.out, hcd⟩])
    clear hcd
    go_wp2_with (go_at_call 101; refine (HSB.out _ zq7).mono ?_; rintro e w7 ⟨rfl, hd7⟩; have hb7_ := grew_trans zq7 (below_of_drawn hd7); have HB7 := zA (show Below w2.heap.size w2 w7 from grew_trans HB6.out hb7_); have HM7 := zA (show kSeg.M w7 w2.heap.size (fun _ => True) (seg base ls) [.int .i64 base, .slice B1 ls.length d1, .slice B2 (keys ls).length d2, .slice B3 (keys ls).length d3] from Kd.M_below HM6.out hb7_); have BKq7 := zA (blk_below BK6.out hb7_); have BK7 := zA (blk_below BK2.out HB7.out); obtain ⟨⟨s0, sf0⟩, ⟨s1, sf1⟩, ⟨s2, sf2⟩, ⟨s3, sf3⟩⟩ := cells4 BK7.out; obtain ⟨⟨y0, yf0⟩, ⟨y1, yf1⟩, ⟨y2, yf2⟩, ⟨y3, yf3⟩⟩ := cells4 BKq7.out; clear hd7 hb7_)
    refine bodyPost_ret (results_ct rfl _ _ gr 50 #[.int .i64 base, .slice B1 ls.length d1, .slice B2 (keys ls).length d2, .slice B3 (keys ls).length d3] (0, 0) _ rfl (by (with_reducible repeat (first | refine blk_drewN ?_ _ | refine blk_drew ?_ | refine blk_alloc ?_ _)); refine blk_put (cs := #[.int .i64 base, .slice B1 ls.length d1, .slice B2 (keys ls).length d2, .slice none 0 0]) ?_ 3 _ rfl; (with_reducible repeat (first | refine blk_drewN ?_ _ | refine blk_drew ?_ | refine blk_alloc ?_ _)); refine blk_put (cs := #[.int .i64 base, .slice B1 ls.length d1, .slice none 0 0, .slice none 0 0]) ?_ 2 _ rfl; (with_reducible repeat (first | refine blk_drewN ?_ _ | refine blk_drew ?_ | refine blk_alloc ?_ _)); refine blk_put (cs := #[.int .i64 base, .slice none 0 0, .slice none 0 0, .slice none 0 0]) ?_ 1 _ rfl; (with_reducible repeat (first | refine blk_drewN ?_ _ | refine blk_drew ?_ | refine blk_alloc ?_ _)); refine blk_put (cs := #[.int .i64 0, .slice none 0 0, .slice none 0 0, .slice none 0 0]) ?_ 0 _ rfl; (with_reducible repeat (first | refine blk_drewN ?_ _ | refine blk_drew ?_ | refine blk_alloc ?_ _)); exact BK7.out) Try.underlying50 rfl zq12) rfl ?_
    rw [HD.out]
    have e3 : (seg base ls).2.2.2.length = (keys ls).length := List.length_map ..
    refine ⟨B1, d1, B2, d2, B3, d3, by rw [e3]; rfl, ?_, below_set (below_set (below_set (below_set ((grew_trans HB2.out HB7.out)) GEgr.out) GEgr.out) GEgr.out) GEgr.out⟩
    rw [e3]
    exact kSeg.M_mono (fun _ _ => trivial) (Kd.M_far (d := kSeg) (Kd.M_far (d := kSeg) (Kd.M_far (d := kSeg) (Kd.M_far (d := kSeg) (kSeg.M_lower HB2.out.size (kSeg.M_mono (ok' := fun k => w2.heap.size ≤ k) (fun k hk => hk.2.1) (kSeg.M_bound HM7.out))) (p := ⟨_, 0, none⟩) (fun k hk => by show k ≠ gr; have h1 : w2.heap.size ≤ k := hk; have h2 := HGR.out; omega) _) (p := ⟨_, 1, none⟩) (fun k hk => by show k ≠ gr; have h1 : w2.heap.size ≤ k := hk; have h2 := HGR.out; omega) _) (p := ⟨_, 2, none⟩) (fun k hk => by show k ≠ gr; have h1 : w2.heap.size ≤ k := hk; have h2 := HGR.out; omega) _) (p := ⟨_, 3, none⟩) (fun k hk => by show k ≠ gr; have h1 : w2.heap.size ≤ k := hk; have h2 := HGR.out; omega) _)
end Go.Proofs.Ytmgmdnmfalepkaa.SegS

namespace Go.Proofs.Ytmgmdnmfalepkaa.Draw
open Go.RowKit Go.Proofs.YtmgmdnmfalepkaaW.PrintWords Go.Proofs.YtmgmdnmfalepkaaW.PrintMore Go.Proofs.Ytmgmdnmfalepkaa.Kit Go.Proofs.Ytmgmdnmfalepkaa.PKit Go.Proofs.Ytmgmdnmfalepkaa.Ty Go.Proofs.Ytmgmdnmfalepkaa.PSeg Go.Proofs.Ytmgmdnmfalepkaa.PEnc Go.Proofs.Ytmgmdnmfalepkaa.PDec Go.Proofs.Ytmgmdnmfalepkaa.PSta Go.Proofs.Ytmgmdnmfalepkaa.HelpBB Go.Proofs.Ytmgmdnmfalepkaa.HelpSeg
open Go.Proofs.Ytmgmdnmfalepkaa.Build hiding code ans
open Go.Proofs.Ytmgmdnmfalepkaa.Sto Go.Proofs.Ytmgmdnmfalepkaa.PDraw Go.Proofs.Ytmgmdnmfalepkaa.SegS
open Go.Proofs.Ytmgmdnmfalepkaa.L (IsS168)
set_option linter.unusedVariables false
set_option linter.unusedSimpArgs false
theorem fits_drw {b : Int} {ls : List (List Int)} (h : Drw ls 12) (h1 : 1 ≤ ls.length) (hb0 : 0 ≤ b) (hb1 : b ≤ 255) : fits b ls = true ∧ Bytes ls ∧ smallBB ls := by
 have hB : Bytes ls := fun l hl x hx => (h.fine l hl x hx).1
 have hn := h.num
 have ht : totalB ls ≤ 240 := by
  have key : ∀ L : List (List Int), (∀ l ∈ L, l.length ≤ 20) → totalB L ≤ 20 * L.length := by
   intro L
   induction L with
   | nil => intro _; decide
   | cons l r ih =>
    intro hL
    have h1 := hL l (List.mem_cons_self ..)
    have h2 := ih (fun x hx => hL x (List.mem_cons_of_mem _ hx))
    simp only [totalB, List.length_cons]
    omega
  have h1 := key ls h.len
  omega
 refine ⟨?_, hB, by show ls.length + totalB ls ≤ 1048576; omega⟩
 unfold fits
 simp only [Bool.and_eq_true, decide_eq_true_eq]
 refine ⟨⟨⟨⟨⟨hb0, zq3⟩, h1⟩, zq3⟩, ?_⟩, zq3⟩
 unfold plain
 rw [List.all_eq_true]
 intro l hl
 exact decide_eq_true (fun hx => (h.fine l hl 10 hx).2 rfl)
end Go.Proofs.Ytmgmdnmfalepkaa.Draw

namespace Go.Proofs.Ytmgmdnmfalepkaa.Rep
open Go Go.RowKit Go.Proofs.YtmgmdnmfalepkaaW.PrintWords Go.Proofs.YtmgmdnmfalepkaaW.PrintMore Go.Proofs.Ytmgmdnmfalepkaa.Kit
set_option linter.unusedVariables false
section
variable {P : Program} {ops : Array Oper} {rest : List Oper} {o : Oper} {a : Act} {Q : Exit → Act → World → Prop}
theorem kept_setRow (w : World) (g : Nat) (cs : Array Value) : Kept w (w.setRow g cs) (fun k => k = g) :=
 ⟨by simp [World.setRow], fun k _ hne => setRow_other w g k cs hne⟩
def Wrote (B : Nat) (w0 w w' : World) (g : Nat) (row : List Value) (t : TypeId) : Prop := w'.heap[g]? = some (.cells row.toArray t (0, 0)) ∧ Below B w0 w' ∧ Kept w w' (fun k => k = g)
theorem wpList_append_place {w : World} (hgd : o.guard = none) (s x : Operand) (t e : TypeId)
  (ho : o.op = .call { callee := .builtin .append, args := #[s, x], argTypes := #[t, t] }) (i : TypeInfo) (ht : P.underlying t = some (.slice e)) (hi : P.info? e = some i) (sz : Nat) (hsz : i.size = sz)
  (g sLen sCap : Nat) (hs : a.eval s = .slice (some ⟨g, 0, none⟩) sLen sCap) (cur : List Value) (hg : w.heap[g]? = some (.cells cur.toArray e (0, 0)))
  (ad : Addr) (m c : Nat) (hx : a.eval x = .slice (some ad) m c) (news : List Value) (hl : news.length = m * sz) (hnews : ∀ j u, news[j]? = some u → w.cell? (ad.add j) = some u) (h1 : ∀ u ∈ news, u.oneCell' = true)
  (hroom : sLen + m ≤ sCap) (hfit : sLen * sz + news.length ≤ cur.length) (B : Nat) (w0 : World) (hb : Below B w0 w) (hBg : B ≤ g)
  (h : ∀ w', Wrote B w0 w w' g (splice cur (sLen * sz) news) e → wpList P ops Q rest (a.put o.dst (.slice (some ⟨g, 0, none⟩) (sLen + m) sCap)) w') :
  wpList P ops Q (o :: rest) a w := by
 refine wpList_plain hgd fun K hK => ?_
 subst hsz
 have hrun := run_append_room (P := P) w t o.type e i ht hi g sLen sCap cur.toArray hg ad m c news hl hnews h1 hroom (by simpa using hfit)
 unfold Oper.wp
 simp [execOp, ho, resolve, invoke, builtin, hs, hx, hrun, Result.andThen]
 exact hK _ _ (h _ ⟨by simpa [splice] using setRow_heap w g _ _ e _ hg, below_setRow hb hBg _, kept_setRow w g _⟩)
end
end Go.Proofs.Ytmgmdnmfalepkaa.Rep
