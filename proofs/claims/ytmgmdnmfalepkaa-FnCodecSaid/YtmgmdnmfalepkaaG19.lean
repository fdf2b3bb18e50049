/- Parts of the proof (see the row's own text): Decode, PCod, Cx0, Cx1, Cx2, PSame. -/
import Derived.Test.YtmgmdnmfalepkaaG00
import Derived.Test.YtmgmdnmfalepkaaG18
import Derived.Test.YtmgmdnmfalepkaaG13
import Derived.Test.YtmgmdnmfalepkaaG14
import Derived.Test.YtmgmdnmfalepkaaProg
import Derived.Below
import Derived.Deep.Draws
import Derived.Deep.AppendLies
import Derived.Maps.AppendAt
import Derived.OwnWalk
import Derived.Laws.BytesArg
import Derived.Laws.MakeOwn
import Derived.Laws.OwnMore
import Derived.Deep.OwnRows
import Derived.Tactics
import Derived.Lib.ConvBytes
import Derived.Laws.Slices
import Derived.WalkKit
import Derived.KernelRfl
import Derived.RowKit3
import Derived.Deep.LoopGhost
import Derived.Deep.QuietTactic
import Derived.BigQuiet
import Derived.WideLaws
import Derived.Deep.DeepCutAuto
import Derived.Deep.CutBlock
import Derived.Deep.RegionHeld3
import Derived.Laws.Rows
import Derived.Lib.AppendStr
import Derived.ArgAppend
import Derived.Laws.IdiomCopy
import Derived.OrdersHeld
import Derived.Laws.BitsLemmas
import Derived.RowKit
import Derived.Test.YtmgmdnmfalepkaaG2
import Derived.Test.YtmgmdnmfalepkaaG0
import Derived.Test.YtmgmdnmfalepkaaG1
import Derived.Test.YtmgmdnmfalepkaaG3
namespace Go.Proofs.Ytmgmdnmfalepkaa.Decode
open Go.RowKit Go.Proofs.YtmgmdnmfalepkaaW.PrintWords Go.Proofs.YtmgmdnmfalepkaaW.PrintMore Go.Proofs.Ytmgmdnmfalepkaa.Kit Go.Proofs.Ytmgmdnmfalepkaa.PKit Go.Proofs.Ytmgmdnmfalepkaa.Ty Go.Proofs.Ytmgmdnmfalepkaa.PSeg Go.Proofs.Ytmgmdnmfalepkaa.PEnc Go.Proofs.Ytmgmdnmfalepkaa.PDec Go.Proofs.Ytmgmdnmfalepkaa.Build Go.Proofs.Ytmgmdnmfalepkaa.EncB Go.Proofs.Ytmgmdnmfalepkaa.HelpBB Go.Proofs.Ytmgmdnmfalepkaa.HelpSeg Go.Proofs.Ytmgmdnmfalepkaa.DecA Go.Proofs.Ytmgmdnmfalepkaa.DecB
set_option linter.unusedVariables false
theorem dec_none {b : List Int} (h : implP b = none) : dec b = ((0, [], [], []), 5) := by
 unfold dec decBy
 rw [h]
theorem dec_bad {b : List Int} {base : Int} {ls : List (List Int)} (h : implP b = some (base, ls)) (hf : ¬ (fits base ls = true ∧ code (seg base ls) = b)) : dec b = ((0, [], [], []), 5) := by
 unfold dec decBy
 rw [h]
 exact if_neg hf
theorem dec_good {b : List Int} {base : Int} {ls : List (List Int)} (h : implP b = some (base, ls)) (hf : fits base ls = true ∧ code (seg base ls) = b) : dec b = (seg base ls, 0) := by
 unfold dec decBy
 rw [h]
 exact if_pos hf
theorem implP_some {b : List Int} {base : Int} {ls : List (List Int)} (hb : ∀ x ∈ b, 0 ≤ x ∧ x ≤ 255) (h : implP b = some (base, ls)) : 0 ≤ base ∧ base < 34359738368 ∧ ls.length ≤ 1000 ∧ ls.length + totalB ls ≤ b.length ∧ Bytes ls := by
 unfold implP at h
 split at h
 ·obtain ⟨h1, h2, h3, h4, h5⟩ := rdHead_some 5 (b.drop 2) base ls (bytes_drop hb 2) h
  rw [List.length_drop] at h4
  exact ⟨h1, Int.lt_of_lt_of_le h2 zq13, h3, zq3, h5⟩
 ·cases h
theorem gen_world (P : World → Prop) (w : World) (h : ∀ W, W = w → P W) : P w := h w rfl
theorem seg_form {w : World} {b : Int} {ls : List (List Int)} {v : Value} (h : tSeg.K w (seg b ls) v) : ∃ (A1 : Option Addr) (c1 : Nat) (A2 : Option Addr) (c2 : Nat) (A3 : Option Addr) (c3 : Nat), v = .agg #[.int .i64 b, .slice A1 ls.length c1, .slice A2 (keys ls).length c2, .slice A3 (keys ls).length c3] := by
 obtain ⟨A1, c1, A2, c2, A3, c3, e⟩ := HelpSeg.form h
 refine ⟨A1, c1, A2, c2, A3, c3, ?_⟩
 have e2 : ((keys ls).map (post b ls ls.length)).length = (keys ls).length := List.length_map ..
 rw [e]
 show Value.agg #[.int .i64 b, .slice A1 ls.length c1, .slice A2 (keys ls).length c2, .slice A3 ((keys ls).map (post b ls ls.length)).length c3] = _
 rw [e2]
theorem seg_parts {w : World} {b : Int} {ls : List (List Int)} {K : List Int} {Ps : List (List Int)} {v0 v1 v2 v3 : Value} (h : tSeg.K w (b, ls, K, Ps) (.agg #[v0, v1, v2, v3])) : HelpBB.tBB.K w ls v1 ∧ HelpI.tI.K w K v2 ∧ HelpII.tII.K w Ps v3 := by
 obtain ⟨l, el, u0, r0, e0, g0, u1, r1, e1, g1, u2, r2, e2, g2, u3, e3, g3⟩ := h
 subst e3 e2 e1 e0
 injection el with el
 have el' := congrArg Array.toList el
 simp only [List.cons.injEq, and_true] at el'
 obtain ⟨rfl, rfl, rfl, rfl⟩ := el'
 exact ⟨g1, g2, g3⟩
theorem enc_seg (base : Int) (ls : List (List Int)) (D1 D2 D3 : Option Addr) (d1 d2 d3 : Nat) (W : World) (h : tSeg.K W (seg base ls) (.agg #[.int .i64 base, .slice D1 ls.length d1, .slice D2 (keys ls).length d2, .slice D3 (keys ls).length d3])) (hok : EncOk (seg base ls)) (hby : Bytes ls) (h0 : 0 ≤ base) :
  Calls Try.prog 105 #[.agg #[.int .i64 base, .slice D1 ls.length d1, .slice D2 (keys ls).length d2, .slice D3 (keys ls).length d3]] W fun e w' => ∃ v', e = .returned v' ∧ HelpB.tB.M w' W.heap.size (fun _ => True) (code (seg base ls)) v' ∧ Grew W w' := by
 obtain ⟨bn, rfl⟩ : ∃ n : Nat, base = (n : Int) := ⟨base.toNat, zq3⟩
 obtain ⟨k1, k2, k3⟩ := seg_parts h
 have e : ((keys ls).map (post (bn : Int) ls ls.length)).length = (keys ls).length := List.length_map ..
 have h := encoded_calls bn ls (keys ls) ((keys ls).map (post (bn : Int) ls ls.length)) D1 D2 D3 d1 d2 d3 W k1 k2 (by rw [e]; exact k3) hok hby
 rw [e] at h
 exact h
set_option maxRecDepth 100000 in
set_option maxHeartbeats 4000000 in
theorem decode_calls (A : Option Addr) (c : Nat) (b : List Int) (w : World) (hr : Kd.C (Kd.int .u8) w A b.length b) (hc : b.length ≤ c) (hb : ∀ x ∈ b, 0 ≤ x ∧ x ≤ 255) (hl : b.length ≤ 1048576) :
  Calls Try.prog 45 #[.slice A b.length c] w fun e w' => ∃ v, e = .returned (.tuple #[v, .int .i64 (dec b).2]) ∧ tSeg.M w' w.heap.size (fun _ => True) (dec b).1 v ∧ Grew w w' := by
 have huI := Try.underlying50
 have huD := Try.underlying119
 have huR := Try.underlying117
 have HR := zA hr
 have HC := zA hc
 have HY := zA hb
 clear hr hc hb
 go_enter Try.func45, Try.ntmps45
 go_wp2_with (first | ((with_reducible refine gate_dst (N := 2) rfl ?_); refine box_event ?hg (N := 2) ?hd (cs := #[.int .i64 0, .slice none 0 0, .slice none 0 0, .slice none 0 0]) (t := 50) ?hr ?_; (case hd => rfl); (case hg => rfl); (case hr => first | (go_simp; done) | (go_simp; rfl)); intro g1 hg_ w1 hbx hbb; have BKg1 := zA hbx; have GEg1 := zA (show w.heap.size ≤ g1 from Nat.le_of_eq hg_.symm); have HBw1 := zA hbb; clear hg_ hbb; have hg1c0 : w1.cell? ⟨g1, 0, none⟩ = some (.int .i64 0) := (blk_cell hbx 0).trans rfl; have hg1f0 := blk_frozen hbx 0; have hg1c1 : w1.cell? ⟨g1, 1, none⟩ = some (.slice none 0 0) := (blk_cell hbx 1).trans rfl; have hg1f1 := blk_frozen hbx 1; have hg1c2 : w1.cell? ⟨g1, 2, none⟩ = some (.slice none 0 0) := (blk_cell hbx 2).trans rfl; have hg1f2 := blk_frozen hbx 2; have hg1c3 : w1.cell? ⟨g1, 3, none⟩ = some (.slice none 0 0) := (blk_cell hbx 3).trans rfl; have hg1f3 := blk_frozen hbx 3; clear hbx) | ((with_reducible refine gate_dst (N := 10) rfl ?_); refine box_event ?hg (N := 10) ?hd (cs := #[.slice A b.length c, .bool false, .int .i64 0, .slice none 0 0]) (t := 119) ?hr ?_; (case hd => rfl); (case hg => rfl); (case hr => first | (go_simp; done) | (go_simp; rfl)); intro gd hg_ w2 hbx hbb; have BKgd := zA hbx; have GEgd := zA (show w1.heap.size ≤ gd from Nat.le_of_eq hg_.symm); have HBw2 := zA hbb; clear hg_ hbb; have hgdc0 : w2.cell? ⟨gd, 0, none⟩ = some (.slice A b.length c) := (blk_cell hbx 0).trans rfl; have hgdf0 := blk_frozen hbx 0; have hgdc1 : w2.cell? ⟨gd, 1, none⟩ = some (.bool false) := (blk_cell hbx 1).trans rfl; have hgdf1 := blk_frozen hbx 1; have hgdc2 : w2.cell? ⟨gd, 2, none⟩ = some (.int .i64 0) := (blk_cell hbx 2).trans rfl; have hgdf2 := blk_frozen hbx 2; have hgdc3 : w2.cell? ⟨gd, 3, none⟩ = some (.slice none 0 0) := (blk_cell hbx 3).trans rfl; have hgdf3 := blk_frozen hbx 3; clear hbx))
 have hst : St w1 w2 gd b false (.int .i64 0) (.slice none 0 0) := ⟨GEgd.out, HBw2.out, A, c, BKgd.out, Kd.C_below HR.out HBw1.out, HC.out⟩
 have hh := head_calls gd b w1 w2 hst HY.out hl
 clear hst
 go_at_call 103
 refine hh.mono ?_
 rintro e w3 ⟨hF, hB3⟩
 have BK1 := zA (blk_below (g := g1) BKg1.out hB3)
 have HB3 := zA (show Below w.heap.size w w3 from below_step HBw1.out hB3)
 have GL1 := zA (blk_lt BKg1.out)
 clear hh hgdc0 hgdf0 hgdc1 hgdf1 hgdc2 hgdf2 hgdc3 hgdf3 hg1c0 hg1f0 hg1c1 hg1f1 hg1c2 hg1f2 hg1c3 hg1f3
 have k1c0 : w3.cell? ⟨g1, 0, none⟩ = some (.int .i64 0) := (blk_cell BK1.out 0).trans rfl; have k1f0 := blk_frozen BK1.out 0; have k1c1 : w3.cell? ⟨g1, 1, none⟩ = some (.slice none 0 0) := (blk_cell BK1.out 1).trans rfl; have k1f1 := blk_frozen BK1.out 1; have k1c2 : w3.cell? ⟨g1, 2, none⟩ = some (.slice none 0 0) := (blk_cell BK1.out 2).trans rfl; have k1f2 := blk_frozen BK1.out 2; have k1c3 : w3.cell? ⟨g1, 3, none⟩ = some (.slice none 0 0) := (blk_cell BK1.out 3).trans rfl; have k1f3 := blk_frozen BK1.out 3
 unfold DecB.Found at hF
 cases hP : implP b with
 | none =>
  rw [hP] at hF
  have hF : e = .returned (.bool false) := hF
  subst hF
  have HD := zA (dec_none hP)
  clear hP
  go_wp2
  refine bodyPost_ret (results_ct rfl _ _ g1 50 #[.int .i64 0, .slice none 0 0, .slice none 0 0, .slice none 0 0] (0, 0) _ rfl (by (with_reducible repeat (first | refine blk_drewN ?_ _ | refine blk_drew ?_ | refine blk_alloc ?_ _)); refine blk_put (cs := #[.int .i64 0, .slice none 0 0, .slice none 0 0, .slice none 0 0]) ?_ 3 _ rfl; (with_reducible repeat (first | refine blk_drewN ?_ _ | refine blk_drew ?_ | refine blk_alloc ?_ _)); refine blk_put (cs := #[.int .i64 0, .slice none 0 0, .slice none 0 0, .slice none 0 0]) ?_ 2 _ rfl; (with_reducible repeat (first | refine blk_drewN ?_ _ | refine blk_drew ?_ | refine blk_alloc ?_ _)); refine blk_put (cs := #[.int .i64 0, .slice none 0 0, .slice none 0 0, .slice none 0 0]) ?_ 1 _ rfl; (with_reducible repeat (first | refine blk_drewN ?_ _ | refine blk_drew ?_ | refine blk_alloc ?_ _)); refine blk_put (cs := #[.int .i64 0, .slice none 0 0, .slice none 0 0, .slice none 0 0]) ?_ 0 _ rfl; (with_reducible repeat (first | refine blk_drewN ?_ _ | refine blk_drew ?_ | refine blk_alloc ?_ _)); exact BK1.out) Try.underlying50 rfl zq12) rfl ?_
  rw [HD.out]
  exact ⟨_, rfl, bad_M _ _, below_set (below_set (below_set (below_set (HB3.out) GEg1.out) GEg1.out) GEg1.out) GEg1.out⟩
 | some q =>
  obtain ⟨base, ls⟩ := q
  rw [hP] at hF
  obtain ⟨he, r, f3, hS3, hK3⟩ := hF
  subst he
  obtain ⟨A3, c3, rfl, hc3, hr3⟩ := hK3
  obtain ⟨b0, b1, l1, l2, l3⟩ := implP_some HY.out hP
  have hS3 : St w1 w3 gd r false (.int .i64 base) (.slice A3 ls.length c3) := hS3
  obtain ⟨hd1, hf1, hd2, hf2, hd3, hf3⟩ := hS3.cell
  have HS3 := zA hS3
  have hs : smallBB ls := by show ls.length + totalB ls ≤ 1048576; omega
  have HBY := zA l3
  have HR3 := zA hr3
  have HC3 := zA hc3
  have HP := zA hP
  have hbuild : ∀ W, Below w3.heap.size w3 W → Calls Try.prog 40 #[.int .i64 base, .slice A3 ls.length c3] W fun e w' => ∃ v, e = .returned (.tuple #[v, .int .i64 (build base ls).2]) ∧ tSeg.M w' W.heap.size (fun _ => True) (build base ls).1 v ∧ Grew W w' := fun W hW => build_calls base A3 c3 ls W (Kd.C_below HR3.out hW) HC3.out HBY.out hs
  have HBU := zA hbuild
  clear hbuild hS3 hr3 hc3 l3 hs hP
  have HKP := zA (show ∀ W, Below w3.heap.size w3 W → (W.cell? ⟨gd, 2, none⟩ = some (.int .i64 base) ∧ W.frozen? ⟨gd, 2, none⟩ = false ∧ W.cell? ⟨gd, 3, none⟩ = some (.slice A3 ls.length c3) ∧ W.frozen? ⟨gd, 3, none⟩ = false) from fun W hW => by
   obtain ⟨_, _, x1, x2, x3, x4⟩ := (HS3.out.below hW).cell
   exact ⟨x1, x2, x3, x4⟩)
  have HZ3 := zA HB3.out.size
  have HG1 := zA (blk_lt BK1.out)
  cases hft : fits base ls with
  | false =>
   have HBV := zA (build_bad hft)
   have HD := zA (dec_bad HP.out (fun h => by have := h.1; rw [hft] at this; cases this))
   clear hft
   go_wp2_with fail
   go_region_held3 (fun W_ => W_.cell? ⟨gd, 2, none⟩ = some (.int .i64 base) ∧ W_.frozen? ⟨gd, 2, none⟩ = false ∧ W_.cell? ⟨gd, 3, none⟩ = some (.slice A3 ls.length c3) ∧ W_.frozen? ⟨gd, 3, none⟩ = false) (exact HKP.out _ (by repeat (first | exact Below.refl _ _ | exact HG5.out | apply below_alloc | apply below_drew1 | apply pw_below_drewN | refine below_set ?_ (by first | exact Nat.le_refl _ | exact HZ5.out)))) (first | (go_at_call 40; refine (HBU.out _ ?hb).mono ?_; (case hb => repeat (first | exact Below.refl _ _ | apply below_alloc | apply below_drew1 | apply pw_below_drewN)); rintro e w5 ⟨v5, rfl, hM5, hg5⟩; rw [HBV.out] at hM5; have HG5 := zA (show Below w3.heap.size w3 w5 from grew_trans zq7 hg5); have HZ5 := zA HG5.out.size; obtain ⟨D1, d1, D2, d2, D3, d3, ev5⟩ := HelpSeg.form (tSeg.K_of_M hM5); subst ev5; rw [HBV.out]; first | (have BKz := zA (show w5.heap[w3.heap.size]? = some (.cells #[.int .i64 0, .slice none 0 0, .slice none 0 0, .slice none 0 0] 50 (0, 0)) from blk_below (by (with_reducible repeat (first | refine blk_drewN ?_ _ | refine blk_drew ?_)); exact heap_alloc_new _ _) hg5); have zc0 : w5.cell? ⟨w3.heap.size, 0, none⟩ = some (.int .i64 0) := (blk_cell BKz.out 0).trans rfl; have zf0 := blk_frozen BKz.out 0; have zc1 : w5.cell? ⟨w3.heap.size, 1, none⟩ = some (.slice none 0 0) := (blk_cell BKz.out 1).trans rfl; have zf1 := blk_frozen BKz.out 1; have zc2 : w5.cell? ⟨w3.heap.size, 2, none⟩ = some (.slice none 0 0) := (blk_cell BKz.out 2).trans rfl; have zf2 := blk_frozen BKz.out 2; have zc3 : w5.cell? ⟨w3.heap.size, 3, none⟩ = some (.slice none 0 0) := (blk_cell BKz.out 3).trans rfl; have zf3 := blk_frozen BKz.out 3) | (have BKz := zA (heap_alloc_new w5 (.cells #[.int .i64 0, .slice none 0 0, .slice none 0 0, .slice none 0 0] 50 (0, 0))); have zc0 : (w5.alloc (.cells #[.int .i64 0, .slice none 0 0, .slice none 0 0, .slice none 0 0] 50 (0, 0))).cell? ⟨w5.heap.size, 0, none⟩ = some (.int .i64 0) := (blk_cell BKz.out 0).trans rfl; have zf0 := blk_frozen BKz.out 0; have zc1 : (w5.alloc (.cells #[.int .i64 0, .slice none 0 0, .slice none 0 0, .slice none 0 0] 50 (0, 0))).cell? ⟨w5.heap.size, 1, none⟩ = some (.slice none 0 0) := (blk_cell BKz.out 1).trans rfl; have zf1 := blk_frozen BKz.out 1; have zc2 : (w5.alloc (.cells #[.int .i64 0, .slice none 0 0, .slice none 0 0, .slice none 0 0] 50 (0, 0))).cell? ⟨w5.heap.size, 2, none⟩ = some (.slice none 0 0) := (blk_cell BKz.out 2).trans rfl; have zf2 := blk_frozen BKz.out 2; have zc3 : (w5.alloc (.cells #[.int .i64 0, .slice none 0 0, .slice none 0 0, .slice none 0 0] 50 (0, 0))).cell? ⟨w5.heap.size, 3, none⟩ = some (.slice none 0 0) := (blk_cell BKz.out 3).trans rfl; have zf3 := blk_frozen BKz.out 3); clear hg5 hM5))
   all_goals
    refine gen_world _ _ ?_
    intro W9 hW9
    have HB9 := zA (show Below w3.heap.size w3 W9 from by rw [hW9]; repeat (first | exact HG5.out | apply below_alloc | refine below_set ?_ (by first | exact Nat.le_refl _ | exact HZ5.out)))
    clear hW9
    clear zc0 zf0 zc1 zf1 zc2 zf2 zc3 zf3 BKz
    clear hd1 hf1 hd2 hf2 hd3 hf3 k1c0 k1f0 k1c1 k1f1 k1c2 k1f2 k1c3 k1f3
    have BK19 := zA (blk_below (g := g1) BK1.out HB9.out)
    have k2c0 : W9.cell? ⟨g1, 0, none⟩ = some (.int .i64 0) := (blk_cell BK19.out 0).trans rfl; have k2f0 := blk_frozen BK19.out 0; have k2c1 : W9.cell? ⟨g1, 1, none⟩ = some (.slice none 0 0) := (blk_cell BK19.out 1).trans rfl; have k2f1 := blk_frozen BK19.out 1; have k2c2 : W9.cell? ⟨g1, 2, none⟩ = some (.slice none 0 0) := (blk_cell BK19.out 2).trans rfl; have k2f2 := blk_frozen BK19.out 2; have k2c3 : W9.cell? ⟨g1, 3, none⟩ = some (.slice none 0 0) := (blk_cell BK19.out 3).trans rfl; have k2f3 := blk_frozen BK19.out 3
    go_wp2
    refine bodyPost_ret (results_ct rfl _ _ g1 50 #[.int .i64 0, .slice none 0 0, .slice none 0 0, .slice none 0 0] (0, 0) _ rfl (by (with_reducible repeat (first | refine blk_drewN ?_ _ | refine blk_drew ?_ | refine blk_alloc ?_ _)); refine blk_put (cs := #[.int .i64 0, .slice none 0 0, .slice none 0 0, .slice none 0 0]) ?_ 3 _ rfl; (with_reducible repeat (first | refine blk_drewN ?_ _ | refine blk_drew ?_ | refine blk_alloc ?_ _)); refine blk_put (cs := #[.int .i64 0, .slice none 0 0, .slice none 0 0, .slice none 0 0]) ?_ 2 _ rfl; (with_reducible repeat (first | refine blk_drewN ?_ _ | refine blk_drew ?_ | refine blk_alloc ?_ _)); refine blk_put (cs := #[.int .i64 0, .slice none 0 0, .slice none 0 0, .slice none 0 0]) ?_ 1 _ rfl; (with_reducible repeat (first | refine blk_drewN ?_ _ | refine blk_drew ?_ | refine blk_alloc ?_ _)); refine blk_put (cs := #[.int .i64 0, .slice none 0 0, .slice none 0 0, .slice none 0 0]) ?_ 0 _ rfl; (with_reducible repeat (first | refine blk_drewN ?_ _ | refine blk_drew ?_ | refine blk_alloc ?_ _)); exact BK19.out) Try.underlying50 rfl zq12) rfl ?_
    rw [HD.out]
    exact ⟨_, rfl, bad_M _ _, below_set (below_set (below_set (below_set (below_step HB3.out HB9.out) GEg1.out) GEg1.out) GEg1.out) GEg1.out⟩
  | true =>
   have HBV := zA (show build base ls = (seg base ls, 0) from by unfold build; rw [hft]; rfl)
   have HOK := zA (encOk_seg hft HBY.out)
   have HF := zA hft
   clear hft
   go_wp2_with fail
   go_region_held3 (fun W_ => W_.cell? ⟨gd, 2, none⟩ = some (.int .i64 base) ∧ W_.frozen? ⟨gd, 2, none⟩ = false ∧ W_.cell? ⟨gd, 3, none⟩ = some (.slice A3 ls.length c3) ∧ W_.frozen? ⟨gd, 3, none⟩ = false) (exact HKP.out _ (by repeat (first | exact Below.refl _ _ | exact HG5.out | apply below_alloc | apply below_drew1 | apply pw_below_drewN | refine below_set ?_ (by first | exact Nat.le_refl _ | exact HZ5.out)))) (first | (go_at_call 40; refine (HBU.out _ ?hb).mono ?_; (case hb => repeat (first | exact Below.refl _ _ | apply below_alloc | apply below_drew1 | apply pw_below_drewN)); rintro e w5 ⟨v5, rfl, hM5, hg5⟩; rw [HBV.out] at hM5; have HG5 := zA (show Below w3.heap.size w3 w5 from grew_trans zq7 hg5); have HZ5 := zA HG5.out.size; obtain ⟨D1, d1, D2, d2, D3, d3, ev5⟩ := seg_form (tSeg.K_of_M hM5); subst ev5; rw [HBV.out]; first | (have BKz := zA (show w5.heap[w3.heap.size]? = some (.cells #[.int .i64 0, .slice none 0 0, .slice none 0 0, .slice none 0 0] 50 (0, 0)) from blk_below (by (with_reducible repeat (first | refine blk_drewN ?_ _ | refine blk_drew ?_)); exact heap_alloc_new _ _) hg5); have zc0 : w5.cell? ⟨w3.heap.size, 0, none⟩ = some (.int .i64 0) := (blk_cell BKz.out 0).trans rfl; have zf0 := blk_frozen BKz.out 0; have zc1 : w5.cell? ⟨w3.heap.size, 1, none⟩ = some (.slice none 0 0) := (blk_cell BKz.out 1).trans rfl; have zf1 := blk_frozen BKz.out 1; have zc2 : w5.cell? ⟨w3.heap.size, 2, none⟩ = some (.slice none 0 0) := (blk_cell BKz.out 2).trans rfl; have zf2 := blk_frozen BKz.out 2; have zc3 : w5.cell? ⟨w3.heap.size, 3, none⟩ = some (.slice none 0 0) := (blk_cell BKz.out 3).trans rfl; have zf3 := blk_frozen BKz.out 3; have HM5 := zA (show tSeg.M w5 w3.heap.size (fun k => w3.heap.size < k) (seg base ls) _ from tSeg.M_mono (fun k hk => by have h1 : (w3.alloc (.cells #[.int .i64 0, .slice none 0 0, .slice none 0 0, .slice none 0 0] 50 (0, 0))).heap.size ≤ k := hk.1; simp only [World.size_alloc] at h1; exact h1) (tSeg.M_lower (show w3.heap.size ≤ (w3.alloc (.cells #[.int .i64 0, .slice none 0 0, .slice none 0 0, .slice none 0 0] 50 (0, 0))).heap.size from by simp only [World.size_alloc]; exact Nat.le_succ _) (Ty.M_beyond (T := tSeg) hM5)))) | (have BKz := zA (heap_alloc_new w5 (.cells #[.int .i64 0, .slice none 0 0, .slice none 0 0, .slice none 0 0] 50 (0, 0))); have zc0 : (w5.alloc (.cells #[.int .i64 0, .slice none 0 0, .slice none 0 0, .slice none 0 0] 50 (0, 0))).cell? ⟨w5.heap.size, 0, none⟩ = some (.int .i64 0) := (blk_cell BKz.out 0).trans rfl; have zf0 := blk_frozen BKz.out 0; have zc1 : (w5.alloc (.cells #[.int .i64 0, .slice none 0 0, .slice none 0 0, .slice none 0 0] 50 (0, 0))).cell? ⟨w5.heap.size, 1, none⟩ = some (.slice none 0 0) := (blk_cell BKz.out 1).trans rfl; have zf1 := blk_frozen BKz.out 1; have zc2 : (w5.alloc (.cells #[.int .i64 0, .slice none 0 0, .slice none 0 0, .slice none 0 0] 50 (0, 0))).cell? ⟨w5.heap.size, 2, none⟩ = some (.slice none 0 0) := (blk_cell BKz.out 2).trans rfl; have zf2 := blk_frozen BKz.out 2; have zc3 : (w5.alloc (.cells #[.int .i64 0, .slice none 0 0, .slice none 0 0, .slice none 0 0] 50 (0, 0))).cell? ⟨w5.heap.size, 3, none⟩ = some (.slice none 0 0) := (blk_cell BKz.out 3).trans rfl; have zf3 := blk_frozen BKz.out 3; have HM5 := zA (show tSeg.M w5 w3.heap.size (fun k => w3.heap.size ≤ k ∧ k < w5.heap.size) (seg base ls) _ from Ty.M_beyond (T := tSeg) hM5)); clear hg5 hM5))
   all_goals
    refine gen_world _ _ ?_
    intro W9 hW9
    have HB9 := zA (show Below w3.heap.size w3 W9 from by rw [hW9]; repeat (first | exact HG5.out | apply below_alloc | refine below_set ?_ (by first | exact Nat.le_refl _ | exact HZ5.out)))
    first | (have M9 := zA (show tSeg.M W9 w3.heap.size (fun k => w3.heap.size ≤ k) (seg base ls) (.agg #[.int .i64 base, .slice D1 ls.length d1, .slice D2 (keys ls).length d2, .slice D3 (keys ls).length d3]) from by rw [hW9]; exact tSeg.M_mono (fun k hk => Nat.le_of_lt hk) (Ty.M_set (T := tSeg) (Ty.M_set (T := tSeg) (Ty.M_set (T := tSeg) (Ty.M_set (T := tSeg) HM5.out (fun k hk e => by omega) _) (fun k hk e => by omega) _) (fun k hk e => by omega) _) (fun k hk e => by omega) _)); obtain ⟨k9, hk9⟩ : ∃ k9, k9 = w3.heap.size := ⟨_, rfl⟩; rw [← hk9]; have BK9 := zA (show W9.heap[k9]? = some (.cells #[.int .i64 base, .slice D1 ls.length d1, .slice D2 (keys ls).length d2, .slice D3 (keys ls).length d3] 50 (0, 0)) from by rw [hW9, hk9]; refine blk_put (cs := #[.int .i64 base, .slice D1 ls.length d1, .slice D2 (keys ls).length d2, .slice none 0 0]) ?_ 3 _ rfl; refine blk_put (cs := #[.int .i64 base, .slice D1 ls.length d1, .slice none 0 0, .slice none 0 0]) ?_ 2 _ rfl; refine blk_put (cs := #[.int .i64 base, .slice none 0 0, .slice none 0 0, .slice none 0 0]) ?_ 1 _ rfl; refine blk_put (cs := #[.int .i64 0, .slice none 0 0, .slice none 0 0, .slice none 0 0]) ?_ 0 _ rfl; exact BKz.out)) | (have M9 := zA (show tSeg.M W9 w3.heap.size (fun k => w3.heap.size ≤ k) (seg base ls) (.agg #[.int .i64 base, .slice D1 ls.length d1, .slice D2 (keys ls).length d2, .slice D3 (keys ls).length d3]) from by rw [hW9]; exact tSeg.M_mono (fun k hk => hk.1) (Ty.M_below (T := tSeg) HM5.out (below_alloc (Below.refl _ _) _))); obtain ⟨k9, hk9⟩ : ∃ k9, k9 = w5.heap.size := ⟨_, rfl⟩; rw [← hk9]; have BK9 := zA (show W9.heap[k9]? = some (.cells #[.int .i64 base, .slice D1 ls.length d1, .slice D2 (keys ls).length d2, .slice D3 (keys ls).length d3] 50 (0, 0)) from by rw [hW9, hk9]; exact heap_alloc_new _ _))
    clear hW9 hk9
    clear zc0 zf0 zc1 zf1 zc2 zf2 zc3 zf3 BKz
    clear hd1 hf1 hd2 hf2 hd3 hf3 k1c0 k1f0 k1c1 k1f1 k1c2 k1f2 k1c3 k1f3 HBV HKP
    have BK19 := zA (blk_below (g := g1) BK1.out HB9.out)
    have k2c0 : W9.cell? ⟨g1, 0, none⟩ = some (.int .i64 0) := (blk_cell BK19.out 0).trans rfl; have k2f0 := blk_frozen BK19.out 0; have k2c1 : W9.cell? ⟨g1, 1, none⟩ = some (.slice none 0 0) := (blk_cell BK19.out 1).trans rfl; have k2f1 := blk_frozen BK19.out 1; have k2c2 : W9.cell? ⟨g1, 2, none⟩ = some (.slice none 0 0) := (blk_cell BK19.out 2).trans rfl; have k2f2 := blk_frozen BK19.out 2; have k2c3 : W9.cell? ⟨g1, 3, none⟩ = some (.slice none 0 0) := (blk_cell BK19.out 3).trans rfl; have k2f3 := blk_frozen BK19.out 3; have s9c0 : W9.cell? ⟨k9, 0, none⟩ = some (.int .i64 base) := (blk_cell BK9.out 0).trans rfl; have s9f0 := blk_frozen BK9.out 0; have s9c1 : W9.cell? ⟨k9, 1, none⟩ = some (.slice D1 ls.length d1) := (blk_cell BK9.out 1).trans rfl; have s9f1 := blk_frozen BK9.out 1; have s9c2 : W9.cell? ⟨k9, 2, none⟩ = some (.slice D2 (keys ls).length d2) := (blk_cell BK9.out 2).trans rfl; have s9f2 := blk_frozen BK9.out 2; have s9c3 : W9.cell? ⟨k9, 3, none⟩ = some (.slice D3 (keys ls).length d3) := (blk_cell BK9.out 3).trans rfl; have s9f3 := blk_frozen BK9.out 3
    have henc := enc_seg base ls D1 D2 D3 d1 d2 d3 W9 (tSeg.K_of_M M9.out) HOK.out HBY.out b0
    go_wp2_with fail
    go_at_call 105
    refine henc.mono ?_
    rintro e w6 ⟨vE, rfl, hME, hgE⟩
    obtain ⟨E, ec, rfl, hEc, hEr⟩ := HelpB.tB.K_of_M hME
    have M6 := zA (Ty.M_below (T := tSeg) M9.out hgE)
    have BK16 := zA (blk_below (g := g1) BK19.out hgE)
    have BK96 := zA (blk_below (g := k9) BK9.out hgE)
    have HB6 := zA (show Below w.heap.size w w6 from below_step (below_step HB3.out HB9.out) hgE)
    have heq := Try.bytes_Equal (.slice E (code (seg base ls)).length ec) (.slice A b.length c) (code (seg base ls)) b w6 (Kd.C_string Try.underlying33 Try.underlying5 Try.underlying9 hEr) (Kd.C_string Try.underlying33 Try.underlying5 Try.underlying9 (Kd.C_below HR.out HB6.out))
    have hsb := same_bytes (code (seg base ls)) b (code_bytes HBY.out) HY.out
    rw [Go.Lib.strOfNums_toList, Go.Lib.strOfNums_toList] at hsb
    rw [hsb] at heq
    clear hsb henc hME hgE hEc hEr k2c0 k2f0 k2c1 k2f1 k2c2 k2f2 k2c3 k2f3 s9c0 s9f0 s9c1 s9f1 s9c2 s9f2 s9c3 s9f3 M9 BK9 BK19
    have k6c0 : w6.cell? ⟨g1, 0, none⟩ = some (.int .i64 0) := (blk_cell BK16.out 0).trans rfl; have k6f0 := blk_frozen BK16.out 0; have k6c1 : w6.cell? ⟨g1, 1, none⟩ = some (.slice none 0 0) := (blk_cell BK16.out 1).trans rfl; have k6f1 := blk_frozen BK16.out 1; have k6c2 : w6.cell? ⟨g1, 2, none⟩ = some (.slice none 0 0) := (blk_cell BK16.out 2).trans rfl; have k6f2 := blk_frozen BK16.out 2; have k6c3 : w6.cell? ⟨g1, 3, none⟩ = some (.slice none 0 0) := (blk_cell BK16.out 3).trans rfl; have k6f3 := blk_frozen BK16.out 3; have t9c0 : w6.cell? ⟨k9, 0, none⟩ = some (.int .i64 base) := (blk_cell BK96.out 0).trans rfl; have t9f0 := blk_frozen BK96.out 0; have t9c1 : w6.cell? ⟨k9, 1, none⟩ = some (.slice D1 ls.length d1) := (blk_cell BK96.out 1).trans rfl; have t9f1 := blk_frozen BK96.out 1; have t9c2 : w6.cell? ⟨k9, 2, none⟩ = some (.slice D2 (keys ls).length d2) := (blk_cell BK96.out 2).trans rfl; have t9f2 := blk_frozen BK96.out 2; have t9c3 : w6.cell? ⟨k9, 3, none⟩ = some (.slice D3 (keys ls).length d3) := (blk_cell BK96.out 3).trans rfl; have t9f3 := blk_frozen BK96.out 3
    by_cases hcb : code (seg base ls) = b
    ·rw [decide_eq_true hcb] at heq
     have HD := zA (dec_good HP.out ⟨HF.out, hcb⟩)
     clear hcb
     go_wp2_with (go_at_call 104; refine heq.mono ?_; rintro e w7 ⟨rfl, hw7⟩; subst hw7)
     refine bodyPost_ret (results_ct rfl _ _ g1 50 #[.int .i64 base, .slice D1 ls.length d1, .slice D2 (keys ls).length d2, .slice D3 (keys ls).length d3] (0, 0) _ rfl (by (with_reducible repeat (first | refine blk_drewN ?_ _ | refine blk_drew ?_ | refine blk_alloc ?_ _)); refine blk_put (cs := #[.int .i64 base, .slice D1 ls.length d1, .slice D2 (keys ls).length d2, .slice none 0 0]) ?_ 3 _ rfl; (with_reducible repeat (first | refine blk_drewN ?_ _ | refine blk_drew ?_ | refine blk_alloc ?_ _)); refine blk_put (cs := #[.int .i64 base, .slice D1 ls.length d1, .slice none 0 0, .slice none 0 0]) ?_ 2 _ rfl; (with_reducible repeat (first | refine blk_drewN ?_ _ | refine blk_drew ?_ | refine blk_alloc ?_ _)); refine blk_put (cs := #[.int .i64 base, .slice none 0 0, .slice none 0 0, .slice none 0 0]) ?_ 1 _ rfl; (with_reducible repeat (first | refine blk_drewN ?_ _ | refine blk_drew ?_ | refine blk_alloc ?_ _)); refine blk_put (cs := #[.int .i64 0, .slice none 0 0, .slice none 0 0, .slice none 0 0]) ?_ 0 _ rfl; (with_reducible repeat (first | refine blk_drewN ?_ _ | refine blk_drew ?_ | refine blk_alloc ?_ _)); exact BK16.out) Try.underlying50 rfl zq12) rfl ?_
     rw [HD.out]
     refine ⟨_, rfl, ?_, below_set (below_set (below_set (below_set (HB6.out) GEg1.out) GEg1.out) GEg1.out) GEg1.out⟩
     have hg1 := HG1.out
     exact tSeg.M_mono (fun _ _ => trivial) (Ty.M_set (T := tSeg) (Ty.M_set (T := tSeg) (Ty.M_set (T := tSeg) (Ty.M_set (T := tSeg) (tSeg.M_lower HZ3.out M6.out) (fun k hk e => by omega) _) (fun k hk e => by omega) _) (fun k hk e => by omega) _) (fun k hk e => by omega) _)
    ·rw [decide_eq_false hcb] at heq
     have HD := zA (dec_bad HP.out (fun h => hcb h.2))
     clear hcb
     go_wp2_with (go_at_call 104; refine heq.mono ?_; rintro e w7 ⟨rfl, hw7⟩; subst hw7)
     refine bodyPost_ret (results_ct rfl _ _ g1 50 #[.int .i64 0, .slice none 0 0, .slice none 0 0, .slice none 0 0] (0, 0) _ rfl (by (with_reducible repeat (first | refine blk_drewN ?_ _ | refine blk_drew ?_ | refine blk_alloc ?_ _)); refine blk_put (cs := #[.int .i64 0, .slice none 0 0, .slice none 0 0, .slice none 0 0]) ?_ 3 _ rfl; (with_reducible repeat (first | refine blk_drewN ?_ _ | refine blk_drew ?_ | refine blk_alloc ?_ _)); refine blk_put (cs := #[.int .i64 0, .slice none 0 0, .slice none 0 0, .slice none 0 0]) ?_ 2 _ rfl; (with_reducible repeat (first | refine blk_drewN ?_ _ | refine blk_drew ?_ | refine blk_alloc ?_ _)); refine blk_put (cs := #[.int .i64 0, .slice none 0 0, .slice none 0 0, .slice none 0 0]) ?_ 1 _ rfl; (with_reducible repeat (first | refine blk_drewN ?_ _ | refine blk_drew ?_ | refine blk_alloc ?_ _)); refine blk_put (cs := #[.int .i64 0, .slice none 0 0, .slice none 0 0, .slice none 0 0]) ?_ 0 _ rfl; (with_reducible repeat (first | refine blk_drewN ?_ _ | refine blk_drew ?_ | refine blk_alloc ?_ _)); exact BK16.out) Try.underlying50 rfl zq12) rfl ?_
     rw [HD.out]
     exact ⟨_, rfl, bad_M _ _, below_set (below_set (below_set (below_set (HB6.out) GEg1.out) GEg1.out) GEg1.out) GEg1.out⟩
abbrev codeD (b : List Int) : Int := (dec b).2
abbrev ansD (b : List Int) : SegT := (dec b).1
theorem implC (x0 : List Int) (v0 : Value) (w : World) (h0 : HelpB.tB.K w x0 v0) (s0 : HelpB.smallB x0) (hb : ∀ x ∈ x0, 0 ≤ x ∧ x ≤ 255) :
  Calls Try.prog 45 #[v0] w fun e w' => ∃ v', e = .returned (.tuple #[v', .int .i64 (codeD x0)]) ∧ HelpSeg.tSeg.M w' w.heap.size (fun _ => True) (ansD x0) v' ∧ Grew w w' := by
 obtain ⟨A, c, rfl, hc, hr⟩ := h0
 exact decode_calls A c x0 w hr hc hb s0
end Go.Proofs.Ytmgmdnmfalepkaa.Decode

namespace Go.Proofs.Ytmgmdnmfalepkaa.Cod
open Go.RowKit Go.Proofs.YtmgmdnmfalepkaaW.PrintWords Go.Proofs.Ytmgmdnmfalepkaa.PKit Go.Proofs.Ytmgmdnmfalepkaa.POrd Go.Proofs.Ytmgmdnmfalepkaa.PTri Go.Proofs.Ytmgmdnmfalepkaa.PSeg Go.Proofs.Ytmgmdnmfalepkaa.PEnc Go.Proofs.Ytmgmdnmfalepkaa.PDec Go.Proofs.Ytmgmdnmfalepkaa.HelpBB Go.Proofs.Ytmgmdnmfalepkaa.Decode
set_option linter.unusedVariables false
set_option linter.unusedSimpArgs false
theorem asc_one {K : List Int} (h : Asc K) (t : Int) : (K.filter fun x => decide (x = t)).length ≤ 1 := by
  induction K with
  | nil => simp
  | cons k r ih =>
    have h' : List.Pairwise (· < ·) (k :: r) := h
    obtain ⟨h1, h2⟩ := List.pairwise_cons.1 h'
    rw [List.filter_cons]
    by_cases e : k = t
    · subst e
      have e0 : (r.filter fun x => decide (x = k)) = [] := List.filter_eq_nil_iff.2 fun x hx he => by
        have h3 := h1 x hx
        have h4 : x = k := of_decide_eq_true he
        rw [h4] at h3
        exact Int.lt_irrefl _ h3
      rw [if_pos zq14, e0]; simp
    · rw [if_neg (by simpa using e)]; exact ih h2
theorem asc_in {K : List Int} (h : Asc K) (T : List Int) : (K.filter fun x => decide (x ∈ T)).length ≤ T.length := by
 induction T with
 | nil => simp
 | cons t r ih =>
  have h1 := asc_one h t
  have h2 : ∀ L : List Int, (L.filter fun x => decide (x ∈ t :: r)).length ≤ (L.filter fun x => decide (x = t)).length + (L.filter fun x => decide (x ∈ r)).length := by
   intro L
   induction L with
   | nil => simp
   | cons x L ih =>
    rw [List.filter_cons, List.filter_cons, List.filter_cons]
    by_cases e1 : x = t
    ·rw [if_pos (by simp [e1]), if_pos (by simp [e1])]; split <;> simp only [List.length_cons] <;> omega
    ·by_cases e2 : x ∈ r
     ·rw [if_pos (by simp [e2]), if_neg (by simpa using e1), if_pos (by simpa using e2)]; simp only [List.length_cons]; omega
     ·rw [if_neg (by simp [e1, e2]), if_neg (by simpa using e1), if_neg (by simpa using e2)]; exact ih
  have h3 := h2 K
  simp only [List.length_cons]
  omega
theorem post_tot (b : Int) (ls : List (List Int)) {K : List Int} (h : Asc K) (n : Nat) (hn : n ≤ ls.length) : HelpII.totalI (K.map (post b ls n)) ≤ totalB (ls.take n) := by
 induction n with
 | zero =>
  have e : ∀ L : List Int, HelpII.totalI (L.map (post b ls 0)) = 0 := by
   intro L
   induction L with
   | nil => rfl
   | cons k r ih => rw [List.map_cons]; show (post b ls 0 k).length + HelpII.totalI (r.map (post b ls 0)) = 0; rw [ih]; rfl
  rw [e]; exact Nat.zero_le _
 | succ n ih =>
  have h1 := ih zq3
  have e : ∀ L : List Int, HelpII.totalI (L.map (post b ls (n + 1))) = HelpII.totalI (L.map (post b ls n)) + (L.filter fun x => decide (x ∈ tris (ls.getD n []))).length := by
   intro L
   induction L with
   | nil => rfl
   | cons k r ih =>
    rw [List.map_cons, List.map_cons, List.filter_cons]
    show (post b ls (n + 1) k).length + HelpII.totalI (r.map (post b ls (n + 1))) = ((post b ls n k).length + HelpII.totalI (r.map (post b ls n))) + _
    rw [ih, post_succ, List.length_append]
    by_cases hk : k ∈ tris (ls.getD n [])
    ·rw [if_pos (show hasT ls k n = true from by unfold hasT; simpa using hk), if_pos (by simpa using hk)]; simp only [List.length_cons, List.length_nil]; omega
    ·rw [if_neg (show ¬ hasT ls k n = true from by unfold hasT; simpa using hk), if_neg (by simpa using hk)]; simp only [List.length_nil]; omega
  have h2 := asc_in h (tris (ls.getD n []))
  have h3 : (tris (ls.getD n [])).length ≤ (ls.getD n []).length := by rw [tris_length]; omega
  have h4 : totalB (ls.take (n + 1)) = totalB (ls.take n) + (ls.getD n []).length := by
   rw [List.take_succ_eq_append_getElem zq3, total_append, List.getD, List.getElem?_eq_getElem zq3]
   simp [totalB]
  rw [e, h4]
  omega
theorem small_seg (b : Int) (ls : List (List Int)) (hl : ls.length ≤ 1000) (ht : totalB ls ≤ 20000) : HelpSeg.smallSeg (seg b ls) := by
 have h1 := keys_len ls
 have h2 := post_tot b ls (K := keys ls) (asc_ord _) ls.length (Nat.le_refl _)
 rw [List.take_length] at h2
 show (ls.length + totalB ls) + (keys ls).length + (((keys ls).map (post b ls ls.length)).length + HelpII.totalI ((keys ls).map (post b ls ls.length))) ≤ 1048576
 rw [List.length_map]
 omega
theorem fits_parts {b : Int} {ls : List (List Int)} (h : fits b ls = true) : ls.length ≤ 1000 ∧ totalB ls ≤ 20000 := by
 unfold fits at h
 simp only [Bool.and_eq_true, decide_eq_true_eq] at h
 obtain ⟨⟨⟨⟨⟨f1, f2⟩, f3⟩, f4⟩, f5⟩, f6⟩ := h
 exact ⟨zq3, f6⟩
theorem dec_case (b : List Int) (hb : ∀ x ∈ b, 0 ≤ x ∧ x ≤ 255) : (codeD b = 0 ∧ enc (ansD b) = b ∧ build (ansD b).1 (ansD b).2.1 = (ansD b, 0) ∧ Bytes (ansD b).2.1 ∧ HelpSeg.smallSeg (ansD b)) ∨ codeD b = 5 := by
 rcases decBy_or implP b with ⟨base, ls, h1, h2, h3, h4⟩ | h
 ·have e1 : ansD b = seg base ls := congrArg Prod.fst h4
  have e2 : codeD b = 0 := congrArg Prod.snd h4
  obtain ⟨b0, b1, l1, l2, l3⟩ := implP_some hb h3
  refine .inl ⟨e2, ?_, ?_, by rw [e1]; exact l3, by rw [e1]; exact small_seg base ls (fits_parts h1).1 (fits_parts h1).2⟩
  ·rw [e1]
   unfold enc
   rw [if_pos (show valid (seg base ls) = true from by unfold valid seg; simp [h1])]
   exact h2
  ·rw [e1]
   show build base ls = _
   unfold build
   rw [if_pos h1]
 ·exact .inr (congrArg Prod.snd h)
end Go.Proofs.Ytmgmdnmfalepkaa.Cod

namespace Go.Proofs.Ytmgmdnmfalepkaa.C
open Go.RowKit Go.Proofs.YtmgmdnmfalepkaaW.PrintWords Go.Proofs.YtmgmdnmfalepkaaW.PrintLast Go.Proofs.YtmgmdnmfalepkaaW.PrintMore
attribute [local go_sem] max2_int min2_int max_two min_two max_three min_three max_four min_four
set_option linter.unusedVariables false
set_option linter.unusedSimpArgs false
def rd_L1 (xs : List (List Int)) (i : Int) : (List Int) := xs.getD i.toNat ([] : List Int)
theorem at_L1 {w : World} {A : Option Addr} {n : Nat} {xs : List (List Int)} (h : Kd.C (Kd.slice 5 (Kd.int .u8)) w A n xs) (i : Int) (h0 : 0 ≤ i) (h1 : i < n) : ∃ ad A0 c0, A = some ad ∧ w.cell? (ad.add i.toNat) = some (.slice A0 (rd_L1 xs i).length c0) ∧ (rd_L1 xs i).length ≤ c0 ∧ (Kd.int .u8).C w A0 (rd_L1 xs i).length (rd_L1 xs i) := by
 obtain ⟨ad, c, e, _, hK, hc0⟩ := Kd.C_get h ([] : List Int) i h0 h1
 have hc : ∀ j u, c[j]? = some u → w.cell? (ad.add (i.toNat * 1 + j)) = some u := hc0
 obtain ⟨A0, c0, rfl, l0, g0⟩ := hK
 exact ⟨ad, A0, c0, e, by have hq := hc 0 _ rfl; rwa [Nat.mul_one, Nat.add_zero] at hq, l0, g0⟩
def rd_L3 (xs : List (List Int)) (i : Int) : (List Int) := xs.getD i.toNat ([] : List Int)
end Go.Proofs.Ytmgmdnmfalepkaa.C

namespace Go.Proofs.Ytmgmdnmfalepkaa.C
open Go.RowKit Go.Proofs.YtmgmdnmfalepkaaW.PrintWords Go.Proofs.YtmgmdnmfalepkaaW.PrintLast Go.Proofs.YtmgmdnmfalepkaaW.PrintMore
attribute [local go_sem] max2_int min2_int max_two min_two max_three min_three max_four min_four
set_option linter.unusedVariables false
set_option linter.unusedSimpArgs false
def laws_sameBytes.l0 : Nat → List Int → List Int → Int → Option (Bool)
 | 0, _, _, _ => none
 | k + 1, x0, x1, x5 => if x5 < (x0.length : Int) then (if 0 ≤ x5 then (if x5 < (x1.length : Int) then (if (rd x0 x5) = (rd x1 x5) then (laws_sameBytes.l0 k x0 x1 (wrap64 (x5 + 1))) else (some false)) else (none)) else (none)) else (some true)
def laws_sameBytes.f (k : Nat) (l0 : List Int) (l1 : List Int) : Option (Bool) := if (l0.length : Int) = (l1.length : Int) then (laws_sameBytes.l0 k l0 l1 0) else (some false)
theorem laws_sameBytes.mono_l : ∀ k, (∀ y0 y1 y2, LeO (laws_sameBytes.l0 k y0 y1 y2) (laws_sameBytes.l0 (k + 1) y0 y1 y2))
 | 0 => fun _ _ _ r h => by simp [laws_sameBytes.l0] at h
 | k + 1 => by
  have ih0 := laws_sameBytes.mono_l k
  ·intro y0 y1 y2
   unfold laws_sameBytes.l0
   repeat' first
   | (with_reducible exact ih0 _ _ _)
   | (with_reducible exact LeO.refl _)
   | (with_reducible exact LeO.none _)
   | (with_reducible refine LeO.ite ?_ ?_)
   | (with_reducible refine LeO.bind ?_ (fun _ => ?_))
   | exact ih0 _ _ _
   | exact LeO.none _
   | refine LeO.ite ?_ ?_
   | refine LeO.bind ?_ (fun _ => ?_)
theorem laws_sameBytes.mono : ∀ a0 a1 k, LeO (laws_sameBytes.f k a0 a1) (laws_sameBytes.f (k + 1) a0 a1) := by
 intro a0 a1 k
 have ih0 := laws_sameBytes.mono_l k
 unfold laws_sameBytes.f
 repeat' first
   | (with_reducible exact ih0 _ _ _)
   | (with_reducible exact LeO.refl _)
   | (with_reducible exact LeO.none _)
   | (with_reducible refine LeO.ite ?_ ?_)
   | (with_reducible refine LeO.bind ?_ (fun _ => ?_))
   | exact ih0 _ _ _
   | exact LeO.none _
   | refine LeO.ite ?_ ?_
   | refine LeO.bind ?_ (fun _ => ?_)
set_option maxHeartbeats 8000000 in
set_option maxRecDepth 100000 in
theorem laws_sameBytes.calls (k : Nat) (A0 : Option Addr) (c0 : Nat) (l0 : List Int) (A1 : Option Addr) (c1 : Nat) (l1 : List Int) (r : Bool) (w : World) (hr0 : Kd.C (Kd.int .u8) w A0 l0.length l0) (hc0 : l0.length ≤ c0) (hr1 : Kd.C (Kd.int .u8) w A1 l1.length l1) (hc1 : l1.length ≤ c1) (h : laws_sameBytes.f k l0 l1 = some r) :
  Calls Try.prog 59 #[.slice A0 l0.length c0, .slice A1 l1.length c1] w fun e w' => e = .returned (.bool r) ∧ Drawn0 w w' := by
 have HR0 := zA hr0
 have HC0 := zA hc0
 clear hr0 hc0
 have HR1 := zA hr1
 have HC1 := zA hc1
 clear hr1 hc1
 have H : (if (l0.length : Int) = (l1.length : Int) then (laws_sameBytes.l0 k l0 l1 0) else (some false)) = some r := h
 clear h
 by_cases c3 : (l0.length : Int) = (l1.length : Int)
 ·rw [if_pos c3] at H
  have c3b0 : ((l0.length : Int) == (l1.length : Int)) = true := beq_iff_eq.mpr c3
  have c3b1 : ((l0.length : Int) != (l1.length : Int)) = false := bne_eq_false_iff_eq.mpr c3
  have c3b2 : (l0.length == l1.length) = true := by first | simpa using c3 | (simp at c3 ⊢; omega)
  clear c3
  have H' := zA H
  clear H
  go_enter Try.func59, Try.ntmps59
  go_wp2
  go_loopg [5] k (fun kq v5 w' => ∃ (x5_1 : Int), v5 = .int .i64 x5_1 ∧ Aside0 (laws_sameBytes.l0 kq l0 l1 x5_1 = some r) ∧ Aside0 (kq ≤ k) ∧ Drawn0 w w')
  case atStart => exact ⟨(0), zq6, H', ⟨Nat.le_refl _⟩, zq10⟩
  case round =>
   clear H'
   try clear c1
   try clear p2
   try clear c3
   try clear c3b0
   try clear c3b1
   try clear c3b2
   obtain ⟨x5_1, rfl, HA, HK1, ⟨m1, rfl⟩⟩ := hrel
   cases gk with
   | zero => exact absurd HA.out (by simp [laws_sameBytes.l0])
   | succ k1 =>
    have H := HA.out
    clear HA
    simp only [laws_sameBytes.l0] at H
    by_cases c4 : x5_1 < (l0.length : Int)
    ·rw [if_pos c4] at H
     have c4b0 : decide (x5_1 < (l0.length : Int)) = true := decide_eq_true c4
     clear c4
     by_cases c5 : 0 ≤ x5_1
     ·rw [if_pos c5] at H
      have c5b0 : decide (0 ≤ x5_1) = true := decide_eq_true c5
      clear c5
      by_cases c6 : x5_1 < (l1.length : Int)
      ·rw [if_pos c6] at H
       have c6b0 : decide (x5_1 < (l1.length : Int)) = true := decide_eq_true c6
       clear c6
       by_cases c7 : (rd l0 x5_1) = (rd l1 x5_1)
       ·rw [if_pos c7] at H
        have c7b0 : ((rd l0 x5_1) == (rd l1 x5_1)) = true := beq_iff_eq.mpr c7
        have c7b1 : ((rd l0 x5_1) != (rd l1 x5_1)) = false := bne_eq_false_iff_eq.mpr c7
        clear c7
        have H' := zA H
        clear H
        have p101 : 0 ≤ (x5_1 : Int) := of_decide_eq_true zq4
        have q101 : x5_1 < (l0.length : Int) := of_decide_eq_true zq4
        obtain ⟨ad101, e101, hx101_0⟩ := Kd.at_int HR0.out x5_1 p101 q101
        cases e101
        replace p101 := eq_true p101
        replace q101 := eq_true q101
        have p102 : 0 ≤ (x5_1 : Int) := of_decide_eq_true zq4
        have q102 : x5_1 < (l1.length : Int) := of_decide_eq_true zq4
        obtain ⟨ad102, e102, hx102_0⟩ := Kd.at_int HR1.out x5_1 p102 q102
        cases e102
        replace p102 := eq_true p102
        replace q102 := eq_true q102
        go_wp2
        repeat (go_quiet (fail); try go_wp2)
        go_roundg k1
        case measure => have := HK1.out; omega
        case rel => exact ⟨(wrap64 (x5_1 + 1)), zq6, H', ⟨zq39⟩, zq10⟩
       ·rw [if_neg c7] at H
        have c7b0 : ((rd l0 x5_1) == (rd l1 x5_1)) = false := beq_eq_false_iff_ne.mpr c7
        have c7b1 : ((rd l0 x5_1) != (rd l1 x5_1)) = true := bne_iff_ne.mpr c7
        obtain rfl := Option.some.inj H
        have p101 : 0 ≤ (x5_1 : Int) := of_decide_eq_true zq4
        have q101 : x5_1 < (l0.length : Int) := of_decide_eq_true zq4
        obtain ⟨ad101, e101, hx101_0⟩ := Kd.at_int HR0.out x5_1 p101 q101
        cases e101
        replace p101 := eq_true p101
        replace q101 := eq_true q101
        have p102 : 0 ≤ (x5_1 : Int) := of_decide_eq_true zq4
        have q102 : x5_1 < (l1.length : Int) := of_decide_eq_true zq4
        obtain ⟨ad102, e102, hx102_0⟩ := Kd.at_int HR1.out x5_1 p102 q102
        cases e102
        replace p102 := eq_true p102
        replace q102 := eq_true q102
        go_wp2
        repeat (go_quiet (fail); try go_wp2)
        go_ret
        exact ⟨zq6, zq10⟩
      ·rw [if_neg c6] at H
       exact absurd H zq14
     ·rw [if_neg c5] at H
      exact absurd H zq14
    ·rw [if_neg c4] at H
     have c4b0 : decide (x5_1 < (l0.length : Int)) = false := decide_eq_false c4
     clear c4
     obtain rfl := Option.some.inj H
     go_wp2
     go_ret
     exact ⟨zq6, zq10⟩
 ·rw [if_neg c3] at H
  have c3b0 : ((l0.length : Int) == (l1.length : Int)) = false := beq_eq_false_iff_ne.mpr c3
  have c3b1 : ((l0.length : Int) != (l1.length : Int)) = true := bne_iff_ne.mpr c3
  have c3b2 : (l0.length == l1.length) = false := by first | simpa using c3 | (simp at c3 ⊢; omega)
  obtain rfl := Option.some.inj H
  go_enter Try.func59, Try.ntmps59
  go_wp2
  go_ret
  exact ⟨zq6, zq10⟩
def laws_sameTexts.l0 : Nat → List (List Int) → List (List Int) → Int → Option (Bool)
 | 0, _, _, _ => none
 | k + 1, x0, x1, x5 => if x5 < (x0.length : Int) then (if 0 ≤ x5 then (if x5 < (x1.length : Int) then ((laws_sameBytes.f k (rd_L1 x0 x5) (rd_L1 x1 x5)).bind fun t105 => (if t105 = true then (laws_sameTexts.l0 k x0 x1 (wrap64 (x5 + 1))) else (some false))) else (none)) else (none)) else (some true)
def laws_sameTexts.f (k : Nat) (l0 : List (List Int)) (l1 : List (List Int)) : Option (Bool) := if (l0.length : Int) = (l1.length : Int) then (laws_sameTexts.l0 k l0 l1 0) else (some false)
theorem laws_sameTexts.mono_l : ∀ k, (∀ y0 y1 y2, LeO (laws_sameTexts.l0 k y0 y1 y2) (laws_sameTexts.l0 (k + 1) y0 y1 y2))
 | 0 => fun _ _ _ r h => by simp [laws_sameTexts.l0] at h
 | k + 1 => by
  have ih0 := laws_sameTexts.mono_l k
  ·intro y0 y1 y2
   unfold laws_sameTexts.l0
   repeat' first
   | (with_reducible exact ih0 _ _ _)
   | (with_reducible exact laws_sameBytes.mono _ _ _)
   | (with_reducible exact LeO.refl _)
   | (with_reducible exact LeO.none _)
   | (with_reducible refine LeO.ite ?_ ?_)
   | (with_reducible refine LeO.bind ?_ (fun _ => ?_))
   | exact ih0 _ _ _
   | exact laws_sameBytes.mono _ _ _
   | exact LeO.none _
   | refine LeO.ite ?_ ?_
   | refine LeO.bind ?_ (fun _ => ?_)
theorem laws_sameTexts.mono : ∀ a0 a1 k, LeO (laws_sameTexts.f k a0 a1) (laws_sameTexts.f (k + 1) a0 a1) := by
 intro a0 a1 k
 have ih0 := laws_sameTexts.mono_l k
 unfold laws_sameTexts.f
 repeat' first
   | (with_reducible exact ih0 _ _ _)
   | (with_reducible exact laws_sameBytes.mono _ _ _)
   | (with_reducible exact LeO.refl _)
   | (with_reducible exact LeO.none _)
   | (with_reducible refine LeO.ite ?_ ?_)
   | (with_reducible refine LeO.bind ?_ (fun _ => ?_))
   | exact ih0 _ _ _
   | exact laws_sameBytes.mono _ _ _
   | exact LeO.none _
   | refine LeO.ite ?_ ?_
   | refine LeO.bind ?_ (fun _ => ?_)
set_option maxHeartbeats 8000000 in
set_option maxRecDepth 100000 in
theorem laws_sameTexts.calls (k : Nat) (A0 : Option Addr) (c0 : Nat) (l0 : List (List Int)) (A1 : Option Addr) (c1 : Nat) (l1 : List (List Int)) (r : Bool) (w : World) (hr0 : Kd.C (Kd.slice 5 (Kd.int .u8)) w A0 l0.length l0) (hc0 : l0.length ≤ c0) (hr1 : Kd.C (Kd.slice 5 (Kd.int .u8)) w A1 l1.length l1) (hc1 : l1.length ≤ c1) (h : laws_sameTexts.f k l0 l1 = some r) :
  Calls Try.prog 121 #[.slice A0 l0.length c0, .slice A1 l1.length c1] w fun e w' => e = .returned (.bool r) ∧ Drawn0 w w' := by
 have HR0 := zA hr0
 have HC0 := zA hc0
 clear hr0 hc0
 have HR1 := zA hr1
 have HC1 := zA hc1
 clear hr1 hc1
 have H : (if (l0.length : Int) = (l1.length : Int) then (laws_sameTexts.l0 k l0 l1 0) else (some false)) = some r := h
 clear h
 by_cases c3 : (l0.length : Int) = (l1.length : Int)
 ·rw [if_pos c3] at H
  have c3b0 : ((l0.length : Int) == (l1.length : Int)) = true := beq_iff_eq.mpr c3
  have c3b1 : ((l0.length : Int) != (l1.length : Int)) = false := bne_eq_false_iff_eq.mpr c3
  have c3b2 : (l0.length == l1.length) = true := by first | simpa using c3 | (simp at c3 ⊢; omega)
  clear c3
  have H' := zA H
  clear H
  go_enter Try.func121, Try.ntmps121
  go_wp2
  go_loopg [5] k (fun kq v5 w' => ∃ (x5_1 : Int), v5 = .int .i64 x5_1 ∧ Aside0 (laws_sameTexts.l0 kq l0 l1 x5_1 = some r) ∧ Aside0 (kq ≤ k) ∧ Drawn0 w w')
  case atStart => exact ⟨(0), zq6, H', ⟨Nat.le_refl _⟩, zq10⟩
  case round =>
   clear H'
   try clear c1
   try clear p2
   try clear c3
   try clear c3b0
   try clear c3b1
   try clear c3b2
   obtain ⟨x5_1, rfl, HA, HK1, ⟨m1, rfl⟩⟩ := hrel
   cases gk with
   | zero => exact absurd HA.out (by simp [laws_sameTexts.l0])
   | succ k1 =>
    have H := HA.out
    clear HA
    simp only [laws_sameTexts.l0] at H
    by_cases c4 : x5_1 < (l0.length : Int)
    ·rw [if_pos c4] at H
     have c4b0 : decide (x5_1 < (l0.length : Int)) = true := decide_eq_true c4
     clear c4
     by_cases c5 : 0 ≤ x5_1
     ·rw [if_pos c5] at H
      have c5b0 : decide (0 ≤ x5_1) = true := decide_eq_true c5
      clear c5
      by_cases c6 : x5_1 < (l1.length : Int)
      ·rw [if_pos c6] at H
       have c6b0 : decide (x5_1 < (l1.length : Int)) = true := decide_eq_true c6
       clear c6
       replace H := Option.bind_eq_some_iff.mp H
       obtain ⟨t105, A70, H⟩ := H
       replace H : (if t105 = true then (laws_sameTexts.l0 k1 l0 l1 (wrap64 (x5_1 + 1))) else (some false)) = some r := H
       have A7 := zA A70
       clear A70
       by_cases c8 : t105 = true
       ·subst c8
        have H1 : (laws_sameTexts.l0 k1 l0 l1 (wrap64 (x5_1 + 1))) = some r := by rw [if_pos rfl] at H; exact H
        clear H
        have H := H1
        clear H1
        have H' := zA H
        clear H
        have p103 : 0 ≤ (x5_1 : Int) := of_decide_eq_true zq4
        have q103 : x5_1 < (l0.length : Int) := of_decide_eq_true zq4
        obtain ⟨ad103, A103_0, c103_0, e103, hx103_0, hl103_0, hi103_0⟩ := at_L1 HR0.out x5_1 p103 q103
        cases e103
        have HR103_0 := zA hi103_0
        have HC103_0 := zA hl103_0
        clear hi103_0 hl103_0
        replace p103 := eq_true p103
        replace q103 := eq_true q103
        have p104 : 0 ≤ (x5_1 : Int) := of_decide_eq_true zq4
        have q104 : x5_1 < (l1.length : Int) := of_decide_eq_true zq4
        obtain ⟨ad104, A104_0, c104_0, e104, hx104_0, hl104_0, hi104_0⟩ := at_L1 HR1.out x5_1 p104 q104
        cases e104
        have HR104_0 := zA hi104_0
        have HC104_0 := zA hl104_0
        clear hi104_0 hl104_0
        replace p104 := eq_true p104
        replace q104 := eq_true q104
        go_wp2_with (first | (go_at_call 59; (with_reducible refine (laws_sameBytes.calls k1 _ _ (rd_L1 l0 x5_1) _ _ (rd_L1 l1 x5_1) true _ ?side1 ?side2 ?side3 ?side4 A7.out).mono ?_); (case side1 => repeat (first | exact HR103_0.out | (with_reducible refine Kd.C_alloc ?_ _) | (with_reducible refine Kd.C_drewN ?_ _) | (with_reducible refine Kd.C_drew ?_))); (case side2 => exact HC103_0.out); (case side3 => repeat (first | exact HR104_0.out | (with_reducible refine Kd.C_alloc ?_ _) | (with_reducible refine Kd.C_drewN ?_ _) | (with_reducible refine Kd.C_drew ?_))); (case side4 => exact HC104_0.out); rintro e w' ⟨rfl, ⟨nd, rfl⟩⟩; (try first | exact ⟨rfl, _, World.drewN_drewN _ _ _⟩ | exact ⟨rfl, _, Eq.trans (World.drewN_drewN _ _ _) (congrArg (World.drewN _) (Nat.add_assoc _ _ _))⟩)))
        repeat (go_quiet (first | (go_at_call 59; (with_reducible refine (laws_sameBytes.calls k1 _ _ (rd_L1 l0 x5_1) _ _ (rd_L1 l1 x5_1) true _ ?side1 ?side2 ?side3 ?side4 A7.out).mono ?_); (case side1 => repeat (first | exact HR103_0.out | (with_reducible refine Kd.C_alloc ?_ _) | (with_reducible refine Kd.C_drewN ?_ _) | (with_reducible refine Kd.C_drew ?_))); (case side2 => exact HC103_0.out); (case side3 => repeat (first | exact HR104_0.out | (with_reducible refine Kd.C_alloc ?_ _) | (with_reducible refine Kd.C_drewN ?_ _) | (with_reducible refine Kd.C_drew ?_))); (case side4 => exact HC104_0.out); rintro e w' ⟨rfl, ⟨nd, rfl⟩⟩; (try first | exact ⟨rfl, _, World.drewN_drewN _ _ _⟩ | exact ⟨rfl, _, Eq.trans (World.drewN_drewN _ _ _) (congrArg (World.drewN _) (Nat.add_assoc _ _ _))⟩))); try go_wp2_with (first | (go_at_call 59; (with_reducible refine (laws_sameBytes.calls k1 _ _ (rd_L1 l0 x5_1) _ _ (rd_L1 l1 x5_1) true _ ?side1 ?side2 ?side3 ?side4 A7.out).mono ?_); (case side1 => repeat (first | exact HR103_0.out | (with_reducible refine Kd.C_alloc ?_ _) | (with_reducible refine Kd.C_drewN ?_ _) | (with_reducible refine Kd.C_drew ?_))); (case side2 => exact HC103_0.out); (case side3 => repeat (first | exact HR104_0.out | (with_reducible refine Kd.C_alloc ?_ _) | (with_reducible refine Kd.C_drewN ?_ _) | (with_reducible refine Kd.C_drew ?_))); (case side4 => exact HC104_0.out); rintro e w' ⟨rfl, ⟨nd, rfl⟩⟩; (try first | exact ⟨rfl, _, World.drewN_drewN _ _ _⟩ | exact ⟨rfl, _, Eq.trans (World.drewN_drewN _ _ _) (congrArg (World.drewN _) (Nat.add_assoc _ _ _))⟩))))
        go_roundg k1
        case measure => have := HK1.out; omega
        case rel => exact ⟨(wrap64 (x5_1 + 1)), zq6, H', ⟨zq39⟩, zq10⟩
       ·replace c8 := Bool.eq_false_iff.mpr c8
        subst c8
        have H1 : (some false) = some r := by rw [if_neg (show ¬ (false = true) by decide)] at H; exact H
        clear H
        have H := H1
        clear H1
        obtain rfl := Option.some.inj H
        have p103 : 0 ≤ (x5_1 : Int) := of_decide_eq_true zq4
        have q103 : x5_1 < (l0.length : Int) := of_decide_eq_true zq4
        obtain ⟨ad103, A103_0, c103_0, e103, hx103_0, hl103_0, hi103_0⟩ := at_L1 HR0.out x5_1 p103 q103
        cases e103
        have HR103_0 := zA hi103_0
        have HC103_0 := zA hl103_0
        clear hi103_0 hl103_0
        replace p103 := eq_true p103
        replace q103 := eq_true q103
        have p104 : 0 ≤ (x5_1 : Int) := of_decide_eq_true zq4
        have q104 : x5_1 < (l1.length : Int) := of_decide_eq_true zq4
        obtain ⟨ad104, A104_0, c104_0, e104, hx104_0, hl104_0, hi104_0⟩ := at_L1 HR1.out x5_1 p104 q104
        cases e104
        have HR104_0 := zA hi104_0
        have HC104_0 := zA hl104_0
        clear hi104_0 hl104_0
        replace p104 := eq_true p104
        replace q104 := eq_true q104
        go_wp2_with (first | (go_at_call 59; (with_reducible refine (laws_sameBytes.calls k1 _ _ (rd_L1 l0 x5_1) _ _ (rd_L1 l1 x5_1) false _ ?side1 ?side2 ?side3 ?side4 A7.out).mono ?_); (case side1 => repeat (first | exact HR103_0.out | (with_reducible refine Kd.C_alloc ?_ _) | (with_reducible refine Kd.C_drewN ?_ _) | (with_reducible refine Kd.C_drew ?_))); (case side2 => exact HC103_0.out); (case side3 => repeat (first | exact HR104_0.out | (with_reducible refine Kd.C_alloc ?_ _) | (with_reducible refine Kd.C_drewN ?_ _) | (with_reducible refine Kd.C_drew ?_))); (case side4 => exact HC104_0.out); rintro e w' ⟨rfl, ⟨nd, rfl⟩⟩; (try first | exact ⟨rfl, _, World.drewN_drewN _ _ _⟩ | exact ⟨rfl, _, Eq.trans (World.drewN_drewN _ _ _) (congrArg (World.drewN _) (Nat.add_assoc _ _ _))⟩)))
        repeat (go_quiet (first | (go_at_call 59; (with_reducible refine (laws_sameBytes.calls k1 _ _ (rd_L1 l0 x5_1) _ _ (rd_L1 l1 x5_1) false _ ?side1 ?side2 ?side3 ?side4 A7.out).mono ?_); (case side1 => repeat (first | exact HR103_0.out | (with_reducible refine Kd.C_alloc ?_ _) | (with_reducible refine Kd.C_drewN ?_ _) | (with_reducible refine Kd.C_drew ?_))); (case side2 => exact HC103_0.out); (case side3 => repeat (first | exact HR104_0.out | (with_reducible refine Kd.C_alloc ?_ _) | (with_reducible refine Kd.C_drewN ?_ _) | (with_reducible refine Kd.C_drew ?_))); (case side4 => exact HC104_0.out); rintro e w' ⟨rfl, ⟨nd, rfl⟩⟩; (try first | exact ⟨rfl, _, World.drewN_drewN _ _ _⟩ | exact ⟨rfl, _, Eq.trans (World.drewN_drewN _ _ _) (congrArg (World.drewN _) (Nat.add_assoc _ _ _))⟩))); try go_wp2_with (first | (go_at_call 59; (with_reducible refine (laws_sameBytes.calls k1 _ _ (rd_L1 l0 x5_1) _ _ (rd_L1 l1 x5_1) false _ ?side1 ?side2 ?side3 ?side4 A7.out).mono ?_); (case side1 => repeat (first | exact HR103_0.out | (with_reducible refine Kd.C_alloc ?_ _) | (with_reducible refine Kd.C_drewN ?_ _) | (with_reducible refine Kd.C_drew ?_))); (case side2 => exact HC103_0.out); (case side3 => repeat (first | exact HR104_0.out | (with_reducible refine Kd.C_alloc ?_ _) | (with_reducible refine Kd.C_drewN ?_ _) | (with_reducible refine Kd.C_drew ?_))); (case side4 => exact HC104_0.out); rintro e w' ⟨rfl, ⟨nd, rfl⟩⟩; (try first | exact ⟨rfl, _, World.drewN_drewN _ _ _⟩ | exact ⟨rfl, _, Eq.trans (World.drewN_drewN _ _ _) (congrArg (World.drewN _) (Nat.add_assoc _ _ _))⟩))))
        go_ret
        exact ⟨zq6, zq10⟩
      ·rw [if_neg c6] at H
       exact absurd H zq14
     ·rw [if_neg c5] at H
      exact absurd H zq14
    ·rw [if_neg c4] at H
     have c4b0 : decide (x5_1 < (l0.length : Int)) = false := decide_eq_false c4
     clear c4
     obtain rfl := Option.some.inj H
     go_wp2
     go_ret
     exact ⟨zq6, zq10⟩
 ·rw [if_neg c3] at H
  have c3b0 : ((l0.length : Int) == (l1.length : Int)) = false := beq_eq_false_iff_ne.mpr c3
  have c3b1 : ((l0.length : Int) != (l1.length : Int)) = true := bne_iff_ne.mpr c3
  have c3b2 : (l0.length == l1.length) = false := by first | simpa using c3 | (simp at c3 ⊢; omega)
  obtain rfl := Option.some.inj H
  go_enter Try.func121, Try.ntmps121
  go_wp2
  go_ret
  exact ⟨zq6, zq10⟩
def laws_sameInts.l0 : Nat → List Int → List Int → Int → Option (Bool)
 | 0, _, _, _ => none
 | k + 1, x0, x1, x5 => if x5 < (x0.length : Int) then (if 0 ≤ x5 then (if x5 < (x1.length : Int) then (if (rd x0 x5) = (rd x1 x5) then (laws_sameInts.l0 k x0 x1 (wrap64 (x5 + 1))) else (some false)) else (none)) else (none)) else (some true)
def laws_sameInts.f (k : Nat) (l0 : List Int) (l1 : List Int) : Option (Bool) := if (l0.length : Int) = (l1.length : Int) then (laws_sameInts.l0 k l0 l1 0) else (some false)
theorem laws_sameInts.mono_l : ∀ k, (∀ y0 y1 y2, LeO (laws_sameInts.l0 k y0 y1 y2) (laws_sameInts.l0 (k + 1) y0 y1 y2))
 | 0 => fun _ _ _ r h => by simp [laws_sameInts.l0] at h
 | k + 1 => by
  have ih0 := laws_sameInts.mono_l k
  ·intro y0 y1 y2
   unfold laws_sameInts.l0
   repeat' first
   | (with_reducible exact ih0 _ _ _)
   | (with_reducible exact LeO.refl _)
   | (with_reducible exact LeO.none _)
   | (with_reducible refine LeO.ite ?_ ?_)
   | (with_reducible refine LeO.bind ?_ (fun _ => ?_))
   | exact ih0 _ _ _
   | exact LeO.none _
   | refine LeO.ite ?_ ?_
   | refine LeO.bind ?_ (fun _ => ?_)
theorem laws_sameInts.mono : ∀ a0 a1 k, LeO (laws_sameInts.f k a0 a1) (laws_sameInts.f (k + 1) a0 a1) := by
 intro a0 a1 k
 have ih0 := laws_sameInts.mono_l k
 unfold laws_sameInts.f
 repeat' first
   | (with_reducible exact ih0 _ _ _)
   | (with_reducible exact LeO.refl _)
   | (with_reducible exact LeO.none _)
   | (with_reducible refine LeO.ite ?_ ?_)
   | (with_reducible refine LeO.bind ?_ (fun _ => ?_))
   | exact ih0 _ _ _
   | exact LeO.none _
   | refine LeO.ite ?_ ?_
   | refine LeO.bind ?_ (fun _ => ?_)
set_option maxHeartbeats 8000000 in
set_option maxRecDepth 100000 in
theorem laws_sameInts.calls (k : Nat) (A0 : Option Addr) (c0 : Nat) (l0 : List Int) (A1 : Option Addr) (c1 : Nat) (l1 : List Int) (r : Bool) (w : World) (hr0 : Kd.C (Kd.int .i64) w A0 l0.length l0) (hc0 : l0.length ≤ c0) (hr1 : Kd.C (Kd.int .i64) w A1 l1.length l1) (hc1 : l1.length ≤ c1) (h : laws_sameInts.f k l0 l1 = some r) :
  Calls Try.prog 122 #[.slice A0 l0.length c0, .slice A1 l1.length c1] w fun e w' => e = .returned (.bool r) ∧ Drawn0 w w' := by
 have HR0 := zA hr0
 have HC0 := zA hc0
 clear hr0 hc0
 have HR1 := zA hr1
 have HC1 := zA hc1
 clear hr1 hc1
 have H : (if (l0.length : Int) = (l1.length : Int) then (laws_sameInts.l0 k l0 l1 0) else (some false)) = some r := h
 clear h
 by_cases c3 : (l0.length : Int) = (l1.length : Int)
 ·rw [if_pos c3] at H
  have c3b0 : ((l0.length : Int) == (l1.length : Int)) = true := beq_iff_eq.mpr c3
  have c3b1 : ((l0.length : Int) != (l1.length : Int)) = false := bne_eq_false_iff_eq.mpr c3
  have c3b2 : (l0.length == l1.length) = true := by first | simpa using c3 | (simp at c3 ⊢; omega)
  clear c3
  have H' := zA H
  clear H
  go_enter Try.func122, Try.ntmps122
  go_wp2
  go_loopg [5] k (fun kq v5 w' => ∃ (x5_1 : Int), v5 = .int .i64 x5_1 ∧ Aside0 (laws_sameInts.l0 kq l0 l1 x5_1 = some r) ∧ Aside0 (kq ≤ k) ∧ Drawn0 w w')
  case atStart => exact ⟨(0), zq6, H', ⟨Nat.le_refl _⟩, zq10⟩
  case round =>
   clear H'
   try clear c1
   try clear p2
   try clear c3
   try clear c3b0
   try clear c3b1
   try clear c3b2
   obtain ⟨x5_1, rfl, HA, HK1, ⟨m1, rfl⟩⟩ := hrel
   cases gk with
   | zero => exact absurd HA.out (by simp [laws_sameInts.l0])
   | succ k1 =>
    have H := HA.out
    clear HA
    simp only [laws_sameInts.l0] at H
    by_cases c4 : x5_1 < (l0.length : Int)
    ·rw [if_pos c4] at H
     have c4b0 : decide (x5_1 < (l0.length : Int)) = true := decide_eq_true c4
     clear c4
     by_cases c5 : 0 ≤ x5_1
     ·rw [if_pos c5] at H
      have c5b0 : decide (0 ≤ x5_1) = true := decide_eq_true c5
      clear c5
      by_cases c6 : x5_1 < (l1.length : Int)
      ·rw [if_pos c6] at H
       have c6b0 : decide (x5_1 < (l1.length : Int)) = true := decide_eq_true c6
       clear c6
       by_cases c7 : (rd l0 x5_1) = (rd l1 x5_1)
       ·rw [if_pos c7] at H
        have c7b0 : ((rd l0 x5_1) == (rd l1 x5_1)) = true := beq_iff_eq.mpr c7
        have c7b1 : ((rd l0 x5_1) != (rd l1 x5_1)) = false := bne_eq_false_iff_eq.mpr c7
        clear c7
        have H' := zA H
        clear H
        have p106 : 0 ≤ (x5_1 : Int) := of_decide_eq_true zq4
        have q106 : x5_1 < (l0.length : Int) := of_decide_eq_true zq4
        obtain ⟨ad106, e106, hx106_0⟩ := Kd.at_int HR0.out x5_1 p106 q106
        cases e106
        replace p106 := eq_true p106
        replace q106 := eq_true q106
        have p107 : 0 ≤ (x5_1 : Int) := of_decide_eq_true zq4
        have q107 : x5_1 < (l1.length : Int) := of_decide_eq_true zq4
        obtain ⟨ad107, e107, hx107_0⟩ := Kd.at_int HR1.out x5_1 p107 q107
        cases e107
        replace p107 := eq_true p107
        replace q107 := eq_true q107
        go_wp2
        repeat (go_quiet (fail); try go_wp2)
        go_roundg k1
        case measure => have := HK1.out; omega
        case rel => exact ⟨(wrap64 (x5_1 + 1)), zq6, H', ⟨zq39⟩, zq10⟩
       ·rw [if_neg c7] at H
        have c7b0 : ((rd l0 x5_1) == (rd l1 x5_1)) = false := beq_eq_false_iff_ne.mpr c7
        have c7b1 : ((rd l0 x5_1) != (rd l1 x5_1)) = true := bne_iff_ne.mpr c7
        obtain rfl := Option.some.inj H
        have p106 : 0 ≤ (x5_1 : Int) := of_decide_eq_true zq4
        have q106 : x5_1 < (l0.length : Int) := of_decide_eq_true zq4
        obtain ⟨ad106, e106, hx106_0⟩ := Kd.at_int HR0.out x5_1 p106 q106
        cases e106
        replace p106 := eq_true p106
        replace q106 := eq_true q106
        have p107 : 0 ≤ (x5_1 : Int) := of_decide_eq_true zq4
        have q107 : x5_1 < (l1.length : Int) := of_decide_eq_true zq4
        obtain ⟨ad107, e107, hx107_0⟩ := Kd.at_int HR1.out x5_1 p107 q107
        cases e107
        replace p107 := eq_true p107
        replace q107 := eq_true q107
        go_wp2
        repeat (go_quiet (fail); try go_wp2)
        go_ret
        exact ⟨zq6, zq10⟩
      ·rw [if_neg c6] at H
       exact absurd H zq14
     ·rw [if_neg c5] at H
      exact absurd H zq14
    ·rw [if_neg c4] at H
     have c4b0 : decide (x5_1 < (l0.length : Int)) = false := decide_eq_false c4
     clear c4
     obtain rfl := Option.some.inj H
     go_wp2
     go_ret
     exact ⟨zq6, zq10⟩
 ·rw [if_neg c3] at H
  have c3b0 : ((l0.length : Int) == (l1.length : Int)) = false := beq_eq_false_iff_ne.mpr c3
  have c3b1 : ((l0.length : Int) != (l1.length : Int)) = true := bne_iff_ne.mpr c3
  have c3b2 : (l0.length == l1.length) = false := by first | simpa using c3 | (simp at c3 ⊢; omega)
  obtain rfl := Option.some.inj H
  go_enter Try.func122, Try.ntmps122
  go_wp2
  go_ret
  exact ⟨zq6, zq10⟩
end Go.Proofs.Ytmgmdnmfalepkaa.C

namespace Go.Proofs.Ytmgmdnmfalepkaa.C
open Go.RowKit Go.Proofs.YtmgmdnmfalepkaaW.PrintWords Go.Proofs.YtmgmdnmfalepkaaW.PrintLast Go.Proofs.YtmgmdnmfalepkaaW.PrintMore
attribute [local go_sem] max2_int min2_int max_two min_two max_three min_three max_four min_four
set_option linter.unusedVariables false
set_option linter.unusedSimpArgs false
mutual
def laws_sameSegment.j0 : Nat → Bool → Int → List (List Int) → List Int → List (List Int) → Int → List (List Int) → List Int → List (List Int) → Option (Bool)
 | 0, _, _, _, _, _, _, _, _, _ => none
 | k + 1, x26, x109000, x109001, x109002, x109003, x110000, x110001, x110002, x110003 => if x26 = true then (some false) else (if (x109003.length : Int) = (x110003.length : Int) then (laws_sameSegment.l0 k 0 x109000 x109001 x109002 x109003 x110000 x110001 x110002 x110003) else (some false))
def laws_sameSegment.l0 : Nat → Int → Int → List (List Int) → List Int → List (List Int) → Int → List (List Int) → List Int → List (List Int) → Option (Bool)
 | 0, _, _, _, _, _, _, _, _, _ => none
 | k + 1, x5, x109000, x109001, x109002, x109003, x110000, x110001, x110002, x110003 => if x5 < (x109003.length : Int) then (if 0 ≤ x5 then (if x5 < (x110003.length : Int) then ((laws_sameInts.f k (rd_L3 x109003 x5) (rd_L3 x110003 x5)).bind fun t114 => (if t114 = true then (laws_sameSegment.l0 k (wrap64 (x5 + 1)) x109000 x109001 x109002 x109003 x110000 x110001 x110002 x110003) else (some false))) else (none)) else (none)) else (some true)
end
def laws_sameSegment.f (k : Nat) (a0_0 : Int) (l0_1 : List (List Int)) (l0_2 : List Int) (l0_3 : List (List Int)) (a1_0 : Int) (l1_1 : List (List Int)) (l1_2 : List Int) (l1_3 : List (List Int)) : Option (Bool) := if a0_0 = a1_0 then ((laws_sameTexts.f k l0_1 l1_1).bind fun t110 => (if t110 = true then ((laws_sameInts.f k l0_2 l1_2).bind fun t111 => (laws_sameSegment.j0 k (!t111) a0_0 l0_1 l0_2 l0_3 a1_0 l1_1 l1_2 l1_3)) else (laws_sameSegment.j0 k true a0_0 l0_1 l0_2 l0_3 a1_0 l1_1 l1_2 l1_3))) else (laws_sameSegment.j0 k true a0_0 l0_1 l0_2 l0_3 a1_0 l1_1 l1_2 l1_3)
theorem laws_sameSegment.mono_l : ∀ k, (∀ y0 y1 y2 y3 y4 y5 y6 y7 y8, LeO (laws_sameSegment.j0 k y0 y1 y2 y3 y4 y5 y6 y7 y8) (laws_sameSegment.j0 (k + 1) y0 y1 y2 y3 y4 y5 y6 y7 y8)) ∧ (∀ y0 y1 y2 y3 y4 y5 y6 y7 y8, LeO (laws_sameSegment.l0 k y0 y1 y2 y3 y4 y5 y6 y7 y8) (laws_sameSegment.l0 (k + 1) y0 y1 y2 y3 y4 y5 y6 y7 y8))
 | 0 => ⟨fun _ _ _ _ _ _ _ _ _ r h => by simp [laws_sameSegment.j0] at h, fun _ _ _ _ _ _ _ _ _ r h => by simp [laws_sameSegment.l0] at h⟩
 | k + 1 => by
  obtain ⟨ih0, ih1⟩ := laws_sameSegment.mono_l k
  refine ⟨?_, ?_⟩
  ·intro y0 y1 y2 y3 y4 y5 y6 y7 y8
   unfold laws_sameSegment.j0
   repeat' first
   | (with_reducible exact ih0 _ _ _ _ _ _ _ _ _)
   | (with_reducible exact ih1 _ _ _ _ _ _ _ _ _)
   | (with_reducible exact laws_sameInts.mono _ _ _)
   | (with_reducible exact laws_sameTexts.mono _ _ _)
   | (with_reducible exact LeO.refl _)
   | (with_reducible exact LeO.none _)
   | (with_reducible refine LeO.ite ?_ ?_)
   | (with_reducible refine LeO.bind ?_ (fun _ => ?_))
   | exact ih0 _ _ _ _ _ _ _ _ _
   | exact ih1 _ _ _ _ _ _ _ _ _
   | exact laws_sameInts.mono _ _ _
   | exact laws_sameTexts.mono _ _ _
   | exact LeO.none _
   | refine LeO.ite ?_ ?_
   | refine LeO.bind ?_ (fun _ => ?_)
  ·intro y0 y1 y2 y3 y4 y5 y6 y7 y8
   unfold laws_sameSegment.l0
   repeat' first
   | (with_reducible exact ih0 _ _ _ _ _ _ _ _ _)
   | (with_reducible exact ih1 _ _ _ _ _ _ _ _ _)
   | (with_reducible exact laws_sameInts.mono _ _ _)
   | (with_reducible exact laws_sameTexts.mono _ _ _)
   | (with_reducible exact LeO.refl _)
   | (with_reducible exact LeO.none _)
   | (with_reducible refine LeO.ite ?_ ?_)
   | (with_reducible refine LeO.bind ?_ (fun _ => ?_))
   | exact ih0 _ _ _ _ _ _ _ _ _
   | exact ih1 _ _ _ _ _ _ _ _ _
   | exact laws_sameInts.mono _ _ _
   | exact laws_sameTexts.mono _ _ _
   | exact LeO.none _
   | refine LeO.ite ?_ ?_
   | refine LeO.bind ?_ (fun _ => ?_)
theorem laws_sameSegment.mono : ∀ a0 a1 a2 a3 a4 a5 a6 a7 k, LeO (laws_sameSegment.f k a0 a1 a2 a3 a4 a5 a6 a7) (laws_sameSegment.f (k + 1) a0 a1 a2 a3 a4 a5 a6 a7) := by
 intro a0 a1 a2 a3 a4 a5 a6 a7 k
 obtain ⟨ih0, ih1⟩ := laws_sameSegment.mono_l k
 unfold laws_sameSegment.f
 repeat' first
   | (with_reducible exact ih0 _ _ _ _ _ _ _ _ _)
   | (with_reducible exact ih1 _ _ _ _ _ _ _ _ _)
   | (with_reducible exact laws_sameInts.mono _ _ _)
   | (with_reducible exact laws_sameTexts.mono _ _ _)
   | (with_reducible exact LeO.refl _)
   | (with_reducible exact LeO.none _)
   | (with_reducible refine LeO.ite ?_ ?_)
   | (with_reducible refine LeO.bind ?_ (fun _ => ?_))
   | exact ih0 _ _ _ _ _ _ _ _ _
   | exact ih1 _ _ _ _ _ _ _ _ _
   | exact laws_sameInts.mono _ _ _
   | exact laws_sameTexts.mono _ _ _
   | exact LeO.none _
   | refine LeO.ite ?_ ?_
   | refine LeO.bind ?_ (fun _ => ?_)
end Go.Proofs.Ytmgmdnmfalepkaa.C

namespace Go.Proofs.Ytmgmdnmfalepkaa.PSame
open Go.RowKit Go.Proofs.YtmgmdnmfalepkaaW.PrintWords Go.Proofs.YtmgmdnmfalepkaaW.PrintMore Go.Proofs.Ytmgmdnmfalepkaa.Kit Go.Proofs.Ytmgmdnmfalepkaa.PKit Go.Proofs.Ytmgmdnmfalepkaa.C
set_option linter.unusedVariables false
set_option linter.unusedSimpArgs false
theorem bytes_ev (l : List Int) (hl : l.length ≤ 1099511627776) : Ev (fun k => laws_sameBytes.f k l l) true := by
 have key : ∀ (d i : Nat), i + d = l.length → Ev (fun k => laws_sameBytes.l0 k l l (i : Int)) true := by
  intro d
  induction d with
  | zero =>
   intro i hd
   refine Ev.step (f := fun _ => some true) (fun k => ?_) (Ev.now _)
   simp only [laws_sameBytes.l0]
   rw [if_neg zq3]
  | succ d ih =>
   intro i hd
   refine Ev.step (fun k => ?_) (ih (i + 1) zq3)
   simp only [laws_sameBytes.l0]
   rw [if_pos zq3, if_pos zq3, if_pos zq3, if_true, wrap_succ i zq3]
 exact Ev.congr (fun k => by simp only [laws_sameBytes.f, if_true]; rfl) (key l.length 0 zq3)
theorem ints_ev (l : List Int) (hl : l.length ≤ 1099511627776) : Ev (fun k => laws_sameInts.f k l l) true := by
 have key : ∀ (d i : Nat), i + d = l.length → Ev (fun k => laws_sameInts.l0 k l l (i : Int)) true := by
  intro d
  induction d with
  | zero =>
   intro i hd
   refine Ev.step (f := fun _ => some true) (fun k => ?_) (Ev.now _)
   simp only [laws_sameInts.l0]
   rw [if_neg zq3]
  | succ d ih =>
   intro i hd
   refine Ev.step (fun k => ?_) (ih (i + 1) zq3)
   simp only [laws_sameInts.l0]
   rw [if_pos zq3, if_pos zq3, if_pos zq3, if_true, wrap_succ i zq3]
 exact Ev.congr (fun k => by simp only [laws_sameInts.f, if_true]; rfl) (key l.length 0 zq3)
theorem getD_le (ls : List (List Int)) (i n : Nat) (h : ∀ l ∈ ls, l.length ≤ n) : (ls.getD i []).length ≤ n := by
 rw [List.getD]
 by_cases hi : i < ls.length
 ·rw [List.getElem?_eq_getElem hi]; exact h _ (List.getElem_mem hi)
 ·rw [List.getElem?_eq_none zq3]; exact Nat.zero_le _
theorem texts_ev (ls : List (List Int)) (hl : ls.length ≤ 1099511627776) (h : ∀ l ∈ ls, l.length ≤ 1099511627776) : Ev (fun k => laws_sameTexts.f k ls ls) true := by
 have key : ∀ (d i : Nat), i + d = ls.length → Ev (fun k => laws_sameTexts.l0 k ls ls (i : Int)) true := by
  intro d
  induction d with
  | zero =>
   intro i hd
   refine Ev.step (f := fun _ => some true) (fun k => ?_) (Ev.now _)
   simp only [laws_sameTexts.l0]
   rw [if_neg zq3]
  | succ d ih =>
   intro i hd
   refine Ev.step (f := fun k => (laws_sameBytes.f k (ls.getD i []) (ls.getD i [])).bind fun t => (if t = true then (laws_sameTexts.l0 k ls ls ((i + 1 : Nat) : Int)) else (some false))) (fun k => ?_) (Ev.bind (bytes_ev _ (getD_le ls i _ h)) (Ev.congr (fun k => if_pos rfl) (ih (i + 1) zq3)))
   simp only [laws_sameTexts.l0]
   rw [if_pos zq3, if_pos zq3, if_pos zq3, wrap_succ i zq3]
   rfl
 exact Ev.congr (fun k => by simp only [laws_sameTexts.f, if_true]; rfl) (key ls.length 0 zq3)
end Go.Proofs.Ytmgmdnmfalepkaa.PSame
