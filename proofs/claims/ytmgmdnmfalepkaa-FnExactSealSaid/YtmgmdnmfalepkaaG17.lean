/- Parts of the proof (see the row's own text): Decode, StoA, IdxBB, StoB. -/
import Derived.Test.YtmgmdnmfalepkaaG16
import Derived.Test.YtmgmdnmfalepkaaG14
import Derived.Test.YtmgmdnmfalepkaaG15
import Derived.Test.YtmgmdnmfalepkaaG2
namespace Go.Proofs.Ytmgmdnmfalepkaa.Decode
open Go.RowKit Go.Proofs.YtmgmdnmfalepkaaW.PrintWords Go.Proofs.YtmgmdnmfalepkaaW.PrintMore Go.Proofs.Ytmgmdnmfalepkaa.Kit Go.Proofs.Ytmgmdnmfalepkaa.PKit Go.Proofs.Ytmgmdnmfalepkaa.Ty Go.Proofs.Ytmgmdnmfalepkaa.PSeg Go.Proofs.Ytmgmdnmfalepkaa.PEnc Go.Proofs.Ytmgmdnmfalepkaa.PDec Go.Proofs.Ytmgmdnmfalepkaa.Build Go.Proofs.Ytmgmdnmfalepkaa.EncB Go.Proofs.Ytmgmdnmfalepkaa.HelpBB Go.Proofs.Ytmgmdnmfalepkaa.HelpSeg Go.Proofs.Ytmgmdnmfalepkaa.DecA Go.Proofs.Ytmgmdnmfalepkaa.DecB
set_option linter.unusedVariables false
theorem dec_none {b : List Int} (h : implP b = none) : dec b = ((0, [], [], []), 5) := by
  unfold dec decBy
  rw [h]
theorem dec_bad {b : List Int} {base : Int} {ls : List (List Int)} (h : implP b = some (base, ls)) (hf : ¬ (fits base ls = true ∧ code (seg base ls) = b)) : dec b = ((0, [], [], []), 5) := by
  unfold dec decBy
  rw [h]
  exact if_neg hf
theorem dec_good {b : List Int} {base : Int} {ls : List (List Int)} (h : implP b = some (base, ls)) (hf : fits base ls = true ∧ code (seg base ls) = b) : dec b = (seg base ls, 0) := by
  unfold dec decBy
  rw [h]
  exact if_pos hf
theorem implP_some {b : List Int} {base : Int} {ls : List (List Int)} (hb : ∀ x ∈ b, 0 ≤ x ∧ x ≤ 255) (h : implP b = some (base, ls)) : 0 ≤ base ∧ base < 34359738368 ∧ ls.length ≤ 1000 ∧ ls.length + totalB ls ≤ b.length ∧ Bytes ls := by
  unfold implP at h
  split at h
  · obtain ⟨h1, h2, h3, h4, h5⟩ := rdHead_some 5 (b.drop 2) base ls (bytes_drop hb 2) h
    rw [List.length_drop] at h4
    exact ⟨h1, Int.lt_of_lt_of_le h2 (by decide), h3, by omega, h5⟩
  · cases h
theorem gen_world (P : World → Prop) (w : World) (h : ∀ W, W = w → P W) : P w := h w rfl
theorem seg_form {w : World} {b : Int} {ls : List (List Int)} {v : Value} (h : tSeg.K w (seg b ls) v) : ∃ (A1 : Option Addr) (c1 : Nat) (A2 : Option Addr) (c2 : Nat) (A3 : Option Addr) (c3 : Nat), v = .agg #[.int .i64 b, .slice A1 ls.length c1, .slice A2 (keys ls).length c2, .slice A3 (keys ls).length c3] := by
  obtain ⟨A1, c1, A2, c2, A3, c3, e⟩ := HelpSeg.form h
  refine ⟨A1, c1, A2, c2, A3, c3, ?_⟩
  have e2 : ((keys ls).map (post b ls ls.length)).length = (keys ls).length := List.length_map ..
  rw [e]
  show Value.agg #[.int .i64 b, .slice A1 ls.length c1, .slice A2 (keys ls).length c2, .slice A3 ((keys ls).map (post b ls ls.length)).length c3] = _
  rw [e2]
theorem seg_parts {w : World} {b : Int} {ls : List (List Int)} {K : List Int} {Ps : List (List Int)} {v0 v1 v2 v3 : Value} (h : tSeg.K w (b, ls, K, Ps) (.agg #[v0, v1, v2, v3])) : HelpBB.tBB.K w ls v1 ∧ HelpI.tI.K w K v2 ∧ HelpII.tII.K w Ps v3 := by
  obtain ⟨l, el, u0, r0, e0, g0, u1, r1, e1, g1, u2, r2, e2, g2, u3, e3, g3⟩ := h
  subst e3 e2 e1 e0
  injection el with el
  have el' := congrArg Array.toList el
  simp only [List.cons.injEq, and_true] at el'
  obtain ⟨rfl, rfl, rfl, rfl⟩ := el'
  exact ⟨g1, g2, g3⟩
theorem enc_seg (base : Int) (ls : List (List Int)) (D1 D2 D3 : Option Addr) (d1 d2 d3 : Nat) (W : World) (h : tSeg.K W (seg base ls) (.agg #[.int .i64 base, .slice D1 ls.length d1, .slice D2 (keys ls).length d2, .slice D3 (keys ls).length d3])) (hok : EncOk (seg base ls)) (hby : Bytes ls) (h0 : 0 ≤ base) :
    Calls Try.prog 105 #[.agg #[.int .i64 base, .slice D1 ls.length d1, .slice D2 (keys ls).length d2, .slice D3 (keys ls).length d3]] W fun e w' => ∃ v', e = .returned v' ∧ HelpB.tB.M w' W.heap.size (fun _ => True) (code (seg base ls)) v' ∧ Grew W w' := by
  obtain ⟨bn, rfl⟩ : ∃ n : Nat, base = (n : Int) := ⟨base.toNat, by omega⟩
  obtain ⟨k1, k2, k3⟩ := seg_parts h
  have e : ((keys ls).map (post (bn : Int) ls ls.length)).length = (keys ls).length := List.length_map ..
  have h := encoded_calls bn ls (keys ls) ((keys ls).map (post (bn : Int) ls ls.length)) D1 D2 D3 d1 d2 d3 W k1 k2 (by rw [e]; exact k3) hok hby
  rw [e] at h
  exact h
set_option maxRecDepth 100000 in
set_option maxHeartbeats 4000000 in
theorem decode_calls (A : Option Addr) (c : Nat) (b : List Int) (w : World) (hr : Kd.C (Kd.int .u8) w A b.length b) (hc : b.length ≤ c) (hb : ∀ x ∈ b, 0 ≤ x ∧ x ≤ 255) (hl : b.length ≤ 1048576) :
    Calls Try.prog 45 #[.slice A b.length c] w fun e w' => ∃ v, e = .returned (.tuple #[v, .int .i64 (dec b).2]) ∧ tSeg.M w' w.heap.size (fun _ => True) (dec b).1 v ∧ Grew w w' := by
  have huI := Try.underlying50
  have huD := Try.underlying119
  have huR := Try.underlying117
  have HR := Aside0.mk hr
  have HC := Aside0.mk hc
  have HY := Aside0.mk hb
  clear hr hc hb
  go_enter Try.func45, Try.ntmps45
  go_wp2_with (first | ((with_reducible refine gate_dst (N := 2) rfl ?_); refine box_event ?hg (N := 2) ?hd (cs := #[.int .i64 0, .slice none 0 0, .slice none 0 0, .slice none 0 0]) (t := 50) ?hr ?_; (case hd => rfl); (case hg => rfl); (case hr => first | (go_simp; done) | (go_simp; rfl)); intro g1 hg_ w1 hbx hbb; have BKg1 := Aside0.mk hbx; have GEg1 := Aside0.mk (show w.heap.size ≤ g1 from Nat.le_of_eq hg_.symm); have HBw1 := Aside0.mk hbb; clear hg_ hbb; have hg1c0 : w1.cell? ⟨g1, 0, none⟩ = some (.int .i64 0) := (blk_cell hbx 0).trans rfl; have hg1f0 := blk_frozen hbx 0; have hg1c1 : w1.cell? ⟨g1, 1, none⟩ = some (.slice none 0 0) := (blk_cell hbx 1).trans rfl; have hg1f1 := blk_frozen hbx 1; have hg1c2 : w1.cell? ⟨g1, 2, none⟩ = some (.slice none 0 0) := (blk_cell hbx 2).trans rfl; have hg1f2 := blk_frozen hbx 2; have hg1c3 : w1.cell? ⟨g1, 3, none⟩ = some (.slice none 0 0) := (blk_cell hbx 3).trans rfl; have hg1f3 := blk_frozen hbx 3; clear hbx) | ((with_reducible refine gate_dst (N := 10) rfl ?_); refine box_event ?hg (N := 10) ?hd (cs := #[.slice A b.length c, .bool false, .int .i64 0, .slice none 0 0]) (t := 119) ?hr ?_; (case hd => rfl); (case hg => rfl); (case hr => first | (go_simp; done) | (go_simp; rfl)); intro gd hg_ w2 hbx hbb; have BKgd := Aside0.mk hbx; have GEgd := Aside0.mk (show w1.heap.size ≤ gd from Nat.le_of_eq hg_.symm); have HBw2 := Aside0.mk hbb; clear hg_ hbb; have hgdc0 : w2.cell? ⟨gd, 0, none⟩ = some (.slice A b.length c) := (blk_cell hbx 0).trans rfl; have hgdf0 := blk_frozen hbx 0; have hgdc1 : w2.cell? ⟨gd, 1, none⟩ = some (.bool false) := (blk_cell hbx 1).trans rfl; have hgdf1 := blk_frozen hbx 1; have hgdc2 : w2.cell? ⟨gd, 2, none⟩ = some (.int .i64 0) := (blk_cell hbx 2).trans rfl; have hgdf2 := blk_frozen hbx 2; have hgdc3 : w2.cell? ⟨gd, 3, none⟩ = some (.slice none 0 0) := (blk_cell hbx 3).trans rfl; have hgdf3 := blk_frozen hbx 3; clear hbx))
  have hst : St w1 w2 gd b false (.int .i64 0) (.slice none 0 0) := ⟨GEgd.out, HBw2.out, A, c, BKgd.out, Kd.C_below HR.out HBw1.out, HC.out⟩
  have hh := head_calls gd b w1 w2 hst HY.out hl
  clear hst
  go_at_call 103
  refine hh.mono ?_
  rintro e w3 ⟨hF, hB3⟩
  have BK1 := Aside0.mk (blk_below (g := g1) BKg1.out hB3)
  have HB3 := Aside0.mk (show Below w.heap.size w w3 from below_step HBw1.out hB3)
  have GL1 := Aside0.mk (blk_lt BKg1.out)
  clear hh hgdc0 hgdf0 hgdc1 hgdf1 hgdc2 hgdf2 hgdc3 hgdf3 hg1c0 hg1f0 hg1c1 hg1f1 hg1c2 hg1f2 hg1c3 hg1f3
  have k1c0 : w3.cell? ⟨g1, 0, none⟩ = some (.int .i64 0) := (blk_cell BK1.out 0).trans rfl; have k1f0 := blk_frozen BK1.out 0; have k1c1 : w3.cell? ⟨g1, 1, none⟩ = some (.slice none 0 0) := (blk_cell BK1.out 1).trans rfl; have k1f1 := blk_frozen BK1.out 1; have k1c2 : w3.cell? ⟨g1, 2, none⟩ = some (.slice none 0 0) := (blk_cell BK1.out 2).trans rfl; have k1f2 := blk_frozen BK1.out 2; have k1c3 : w3.cell? ⟨g1, 3, none⟩ = some (.slice none 0 0) := (blk_cell BK1.out 3).trans rfl; have k1f3 := blk_frozen BK1.out 3
  unfold DecB.Found at hF
  cases hP : implP b with
  | none =>
    rw [hP] at hF
    have hF : e = .returned (.bool false) := hF
    subst hF
    have HD := Aside0.mk (dec_none hP)
    clear hP
    go_wp2
    refine bodyPost_ret (results_ct rfl _ _ g1 50 #[.int .i64 0, .slice none 0 0, .slice none 0 0, .slice none 0 0] (0, 0) _ rfl (by (with_reducible repeat (first | refine blk_drewN ?_ _ | refine blk_drew ?_ | refine blk_alloc ?_ _)); refine blk_put (cs := #[.int .i64 0, .slice none 0 0, .slice none 0 0, .slice none 0 0]) ?_ 3 _ rfl; (with_reducible repeat (first | refine blk_drewN ?_ _ | refine blk_drew ?_ | refine blk_alloc ?_ _)); refine blk_put (cs := #[.int .i64 0, .slice none 0 0, .slice none 0 0, .slice none 0 0]) ?_ 2 _ rfl; (with_reducible repeat (first | refine blk_drewN ?_ _ | refine blk_drew ?_ | refine blk_alloc ?_ _)); refine blk_put (cs := #[.int .i64 0, .slice none 0 0, .slice none 0 0, .slice none 0 0]) ?_ 1 _ rfl; (with_reducible repeat (first | refine blk_drewN ?_ _ | refine blk_drew ?_ | refine blk_alloc ?_ _)); refine blk_put (cs := #[.int .i64 0, .slice none 0 0, .slice none 0 0, .slice none 0 0]) ?_ 0 _ rfl; (with_reducible repeat (first | refine blk_drewN ?_ _ | refine blk_drew ?_ | refine blk_alloc ?_ _)); exact BK1.out) Try.underlying50 rfl (by kernel_rfl)) rfl ?_
    rw [HD.out]
    exact ⟨_, rfl, bad_M _ _, below_set (below_set (below_set (below_set (HB3.out) GEg1.out) GEg1.out) GEg1.out) GEg1.out⟩
  | some q =>
    obtain ⟨base, ls⟩ := q
    rw [hP] at hF
    obtain ⟨he, r, f3, hS3, hK3⟩ := hF
    subst he
    obtain ⟨A3, c3, rfl, hc3, hr3⟩ := hK3
    obtain ⟨b0, b1, l1, l2, l3⟩ := implP_some HY.out hP
    have hS3 : St w1 w3 gd r false (.int .i64 base) (.slice A3 ls.length c3) := hS3
    obtain ⟨hd1, hf1, hd2, hf2, hd3, hf3⟩ := hS3.cell
    have HS3 := Aside0.mk hS3
    have hs : smallBB ls := by show ls.length + totalB ls ≤ 1048576; omega
    have HBY := Aside0.mk l3
    have HR3 := Aside0.mk hr3
    have HC3 := Aside0.mk hc3
    have HP := Aside0.mk hP
    have hbuild : ∀ W, Below w3.heap.size w3 W → Calls Try.prog 40 #[.int .i64 base, .slice A3 ls.length c3] W fun e w' => ∃ v, e = .returned (.tuple #[v, .int .i64 (build base ls).2]) ∧ tSeg.M w' W.heap.size (fun _ => True) (build base ls).1 v ∧ Grew W w' := fun W hW => build_calls base A3 c3 ls W (Kd.C_below HR3.out hW) HC3.out HBY.out hs
    have HBU := Aside0.mk hbuild
    clear hbuild hS3 hr3 hc3 l3 hs hP
    have HKP := Aside0.mk (show ∀ W, Below w3.heap.size w3 W → (W.cell? ⟨gd, 2, none⟩ = some (.int .i64 base) ∧ W.frozen? ⟨gd, 2, none⟩ = false ∧ W.cell? ⟨gd, 3, none⟩ = some (.slice A3 ls.length c3) ∧ W.frozen? ⟨gd, 3, none⟩ = false) from fun W hW => by
      obtain ⟨_, _, x1, x2, x3, x4⟩ := (HS3.out.below hW).cell
      exact ⟨x1, x2, x3, x4⟩)
    have HZ3 := Aside0.mk HB3.out.size
    have HG1 := Aside0.mk (blk_lt BK1.out)
    cases hft : fits base ls with
    | false =>
      have HBV := Aside0.mk (build_bad hft)
      have HD := Aside0.mk (dec_bad HP.out (fun h => by have := h.1; rw [hft] at this; cases this))
      clear hft
      go_wp2_with fail
      go_region_held3 (fun W_ => W_.cell? ⟨gd, 2, none⟩ = some (.int .i64 base) ∧ W_.frozen? ⟨gd, 2, none⟩ = false ∧ W_.cell? ⟨gd, 3, none⟩ = some (.slice A3 ls.length c3) ∧ W_.frozen? ⟨gd, 3, none⟩ = false) (exact HKP.out _ (by repeat (first | exact Below.refl _ _ | exact HG5.out | apply below_alloc | apply below_drew1 | apply pw_below_drewN | refine below_set ?_ (by first | exact Nat.le_refl _ | exact HZ5.out)))) (first | (go_at_call 40; refine (HBU.out _ ?hb).mono ?_; (case hb => repeat (first | exact Below.refl _ _ | apply below_alloc | apply below_drew1 | apply pw_below_drewN)); rintro e w5 ⟨v5, rfl, hM5, hg5⟩; rw [HBV.out] at hM5; have HG5 := Aside0.mk (show Below w3.heap.size w3 w5 from grew_trans (by repeat (first | exact Below.refl _ _ | apply below_alloc | apply below_drew1 | apply pw_below_drewN)) hg5); have HZ5 := Aside0.mk HG5.out.size; obtain ⟨D1, d1, D2, d2, D3, d3, ev5⟩ := HelpSeg.form (tSeg.K_of_M hM5); subst ev5; rw [HBV.out]; first | (have BKz := Aside0.mk (show w5.heap[w3.heap.size]? = some (.cells #[.int .i64 0, .slice none 0 0, .slice none 0 0, .slice none 0 0] 50 (0, 0)) from blk_below (by (with_reducible repeat (first | refine blk_drewN ?_ _ | refine blk_drew ?_)); exact heap_alloc_new _ _) hg5); have zc0 : w5.cell? ⟨w3.heap.size, 0, none⟩ = some (.int .i64 0) := (blk_cell BKz.out 0).trans rfl; have zf0 := blk_frozen BKz.out 0; have zc1 : w5.cell? ⟨w3.heap.size, 1, none⟩ = some (.slice none 0 0) := (blk_cell BKz.out 1).trans rfl; have zf1 := blk_frozen BKz.out 1; have zc2 : w5.cell? ⟨w3.heap.size, 2, none⟩ = some (.slice none 0 0) := (blk_cell BKz.out 2).trans rfl; have zf2 := blk_frozen BKz.out 2; have zc3 : w5.cell? ⟨w3.heap.size, 3, none⟩ = some (.slice none 0 0) := (blk_cell BKz.out 3).trans rfl; have zf3 := blk_frozen BKz.out 3) | (have BKz := Aside0.mk (heap_alloc_new w5 (.cells #[.int .i64 0, .slice none 0 0, .slice none 0 0, .slice none 0 0] 50 (0, 0))); have zc0 : (w5.alloc (.cells #[.int .i64 0, .slice none 0 0, .slice none 0 0, .slice none 0 0] 50 (0, 0))).cell? ⟨w5.heap.size, 0, none⟩ = some (.int .i64 0) := (blk_cell BKz.out 0).trans rfl; have zf0 := blk_frozen BKz.out 0; have zc1 : (w5.alloc (.cells #[.int .i64 0, .slice none 0 0, .slice none 0 0, .slice none 0 0] 50 (0, 0))).cell? ⟨w5.heap.size, 1, none⟩ = some (.slice none 0 0) := (blk_cell BKz.out 1).trans rfl; have zf1 := blk_frozen BKz.out 1; have zc2 : (w5.alloc (.cells #[.int .i64 0, .slice none 0 0, .slice none 0 0, .slice none 0 0] 50 (0, 0))).cell? ⟨w5.heap.size, 2, none⟩ = some (.slice none 0 0) := (blk_cell BKz.out 2).trans rfl; have zf2 := blk_frozen BKz.out 2; have zc3 : (w5.alloc (.cells #[.int .i64 0, .slice none 0 0, .slice none 0 0, .slice none 0 0] 50 (0, 0))).cell? ⟨w5.heap.size, 3, none⟩ = some (.slice none 0 0) := (blk_cell BKz.out 3).trans rfl; have zf3 := blk_frozen BKz.out 3); clear hg5 hM5))
      all_goals
        refine gen_world _ _ ?_
        intro W9 hW9
        have HB9 := Aside0.mk (show Below w3.heap.size w3 W9 from by rw [hW9]; repeat (first | exact HG5.out | apply below_alloc | refine below_set ?_ (by first | exact Nat.le_refl _ | exact HZ5.out)))
        clear hW9
        clear zc0 zf0 zc1 zf1 zc2 zf2 zc3 zf3 BKz
        clear hd1 hf1 hd2 hf2 hd3 hf3 k1c0 k1f0 k1c1 k1f1 k1c2 k1f2 k1c3 k1f3
        have BK19 := Aside0.mk (blk_below (g := g1) BK1.out HB9.out)
        have k2c0 : W9.cell? ⟨g1, 0, none⟩ = some (.int .i64 0) := (blk_cell BK19.out 0).trans rfl; have k2f0 := blk_frozen BK19.out 0; have k2c1 : W9.cell? ⟨g1, 1, none⟩ = some (.slice none 0 0) := (blk_cell BK19.out 1).trans rfl; have k2f1 := blk_frozen BK19.out 1; have k2c2 : W9.cell? ⟨g1, 2, none⟩ = some (.slice none 0 0) := (blk_cell BK19.out 2).trans rfl; have k2f2 := blk_frozen BK19.out 2; have k2c3 : W9.cell? ⟨g1, 3, none⟩ = some (.slice none 0 0) := (blk_cell BK19.out 3).trans rfl; have k2f3 := blk_frozen BK19.out 3
        go_wp2
        refine bodyPost_ret (results_ct rfl _ _ g1 50 #[.int .i64 0, .slice none 0 0, .slice none 0 0, .slice none 0 0] (0, 0) _ rfl (by (with_reducible repeat (first | refine blk_drewN ?_ _ | refine blk_drew ?_ | refine blk_alloc ?_ _)); refine blk_put (cs := #[.int .i64 0, .slice none 0 0, .slice none 0 0, .slice none 0 0]) ?_ 3 _ rfl; (with_reducible repeat (first | refine blk_drewN ?_ _ | refine blk_drew ?_ | refine blk_alloc ?_ _)); refine blk_put (cs := #[.int .i64 0, .slice none 0 0, .slice none 0 0, .slice none 0 0]) ?_ 2 _ rfl; (with_reducible repeat (first | refine blk_drewN ?_ _ | refine blk_drew ?_ | refine blk_alloc ?_ _)); refine blk_put (cs := #[.int .i64 0, .slice none 0 0, .slice none 0 0, .slice none 0 0]) ?_ 1 _ rfl; (with_reducible repeat (first | refine blk_drewN ?_ _ | refine blk_drew ?_ | refine blk_alloc ?_ _)); refine blk_put (cs := #[.int .i64 0, .slice none 0 0, .slice none 0 0, .slice none 0 0]) ?_ 0 _ rfl; (with_reducible repeat (first | refine blk_drewN ?_ _ | refine blk_drew ?_ | refine blk_alloc ?_ _)); exact BK19.out) Try.underlying50 rfl (by kernel_rfl)) rfl ?_
        rw [HD.out]
        exact ⟨_, rfl, bad_M _ _, below_set (below_set (below_set (below_set (below_step HB3.out HB9.out) GEg1.out) GEg1.out) GEg1.out) GEg1.out⟩
    | true =>
      have HBV := Aside0.mk (show build base ls = (seg base ls, 0) from by unfold build; rw [hft]; rfl)
      have HOK := Aside0.mk (encOk_seg hft HBY.out)
      have HF := Aside0.mk hft
      clear hft
      go_wp2_with fail
      go_region_held3 (fun W_ => W_.cell? ⟨gd, 2, none⟩ = some (.int .i64 base) ∧ W_.frozen? ⟨gd, 2, none⟩ = false ∧ W_.cell? ⟨gd, 3, none⟩ = some (.slice A3 ls.length c3) ∧ W_.frozen? ⟨gd, 3, none⟩ = false) (exact HKP.out _ (by repeat (first | exact Below.refl _ _ | exact HG5.out | apply below_alloc | apply below_drew1 | apply pw_below_drewN | refine below_set ?_ (by first | exact Nat.le_refl _ | exact HZ5.out)))) (first | (go_at_call 40; refine (HBU.out _ ?hb).mono ?_; (case hb => repeat (first | exact Below.refl _ _ | apply below_alloc | apply below_drew1 | apply pw_below_drewN)); rintro e w5 ⟨v5, rfl, hM5, hg5⟩; rw [HBV.out] at hM5; have HG5 := Aside0.mk (show Below w3.heap.size w3 w5 from grew_trans (by repeat (first | exact Below.refl _ _ | apply below_alloc | apply below_drew1 | apply pw_below_drewN)) hg5); have HZ5 := Aside0.mk HG5.out.size; obtain ⟨D1, d1, D2, d2, D3, d3, ev5⟩ := seg_form (tSeg.K_of_M hM5); subst ev5; rw [HBV.out]; first | (have BKz := Aside0.mk (show w5.heap[w3.heap.size]? = some (.cells #[.int .i64 0, .slice none 0 0, .slice none 0 0, .slice none 0 0] 50 (0, 0)) from blk_below (by (with_reducible repeat (first | refine blk_drewN ?_ _ | refine blk_drew ?_)); exact heap_alloc_new _ _) hg5); have zc0 : w5.cell? ⟨w3.heap.size, 0, none⟩ = some (.int .i64 0) := (blk_cell BKz.out 0).trans rfl; have zf0 := blk_frozen BKz.out 0; have zc1 : w5.cell? ⟨w3.heap.size, 1, none⟩ = some (.slice none 0 0) := (blk_cell BKz.out 1).trans rfl; have zf1 := blk_frozen BKz.out 1; have zc2 : w5.cell? ⟨w3.heap.size, 2, none⟩ = some (.slice none 0 0) := (blk_cell BKz.out 2).trans rfl; have zf2 := blk_frozen BKz.out 2; have zc3 : w5.cell? ⟨w3.heap.size, 3, none⟩ = some (.slice none 0 0) := (blk_cell BKz.out 3).trans rfl; have zf3 := blk_frozen BKz.out 3; have HM5 := Aside0.mk (show tSeg.M w5 w3.heap.size (fun k => w3.heap.size < k) (seg base ls) _ from tSeg.M_mono (fun k hk => by have h1 : (w3.alloc (.cells #[.int .i64 0, .slice none 0 0, .slice none 0 0, .slice none 0 0] 50 (0, 0))).heap.size ≤ k := hk.1; simp only [World.size_alloc] at h1; exact h1) (tSeg.M_lower (show w3.heap.size ≤ (w3.alloc (.cells #[.int .i64 0, .slice none 0 0, .slice none 0 0, .slice none 0 0] 50 (0, 0))).heap.size from by simp only [World.size_alloc]; exact Nat.le_succ _) (Ty.M_beyond (T := tSeg) hM5)))) | (have BKz := Aside0.mk (heap_alloc_new w5 (.cells #[.int .i64 0, .slice none 0 0, .slice none 0 0, .slice none 0 0] 50 (0, 0))); have zc0 : (w5.alloc (.cells #[.int .i64 0, .slice none 0 0, .slice none 0 0, .slice none 0 0] 50 (0, 0))).cell? ⟨w5.heap.size, 0, none⟩ = some (.int .i64 0) := (blk_cell BKz.out 0).trans rfl; have zf0 := blk_frozen BKz.out 0; have zc1 : (w5.alloc (.cells #[.int .i64 0, .slice none 0 0, .slice none 0 0, .slice none 0 0] 50 (0, 0))).cell? ⟨w5.heap.size, 1, none⟩ = some (.slice none 0 0) := (blk_cell BKz.out 1).trans rfl; have zf1 := blk_frozen BKz.out 1; have zc2 : (w5.alloc (.cells #[.int .i64 0, .slice none 0 0, .slice none 0 0, .slice none 0 0] 50 (0, 0))).cell? ⟨w5.heap.size, 2, none⟩ = some (.slice none 0 0) := (blk_cell BKz.out 2).trans rfl; have zf2 := blk_frozen BKz.out 2; have zc3 : (w5.alloc (.cells #[.int .i64 0, .slice none 0 0, .slice none 0 0, .slice none 0 0] 50 (0, 0))).cell? ⟨w5.heap.size, 3, none⟩ = some (.slice none 0 0) := (blk_cell BKz.out 3).trans rfl; have zf3 := blk_frozen BKz.out 3; have HM5 := Aside0.mk (show tSeg.M w5 w3.heap.size (fun k => w3.heap.size ≤ k ∧ k < w5.heap.size) (seg base ls) _ from Ty.M_beyond (T := tSeg) hM5)); clear hg5 hM5))
      all_goals
        refine gen_world _ _ ?_
        intro W9 hW9
        have HB9 := Aside0.mk (show Below w3.heap.size w3 W9 from by rw [hW9]; repeat (first | exact HG5.out | apply below_alloc | refine below_set ?_ (by first | exact Nat.le_refl _ | exact HZ5.out)))
        first | (have M9 := Aside0.mk (show tSeg.M W9 w3.heap.size (fun k => w3.heap.size ≤ k) (seg base ls) (.agg #[.int .i64 base, .slice D1 ls.length d1, .slice D2 (keys ls).length d2, .slice D3 (keys ls).length d3]) from by rw [hW9]; exact tSeg.M_mono (fun k hk => Nat.le_of_lt hk) (Ty.M_set (T := tSeg) (Ty.M_set (T := tSeg) (Ty.M_set (T := tSeg) (Ty.M_set (T := tSeg) HM5.out (fun k hk e => by omega) _) (fun k hk e => by omega) _) (fun k hk e => by omega) _) (fun k hk e => by omega) _)); obtain ⟨k9, hk9⟩ : ∃ k9, k9 = w3.heap.size := ⟨_, rfl⟩; rw [← hk9]; have BK9 := Aside0.mk (show W9.heap[k9]? = some (.cells #[.int .i64 base, .slice D1 ls.length d1, .slice D2 (keys ls).length d2, .slice D3 (keys ls).length d3] 50 (0, 0)) from by rw [hW9, hk9]; refine blk_put (cs := #[.int .i64 base, .slice D1 ls.length d1, .slice D2 (keys ls).length d2, .slice none 0 0]) ?_ 3 _ rfl; refine blk_put (cs := #[.int .i64 base, .slice D1 ls.length d1, .slice none 0 0, .slice none 0 0]) ?_ 2 _ rfl; refine blk_put (cs := #[.int .i64 base, .slice none 0 0, .slice none 0 0, .slice none 0 0]) ?_ 1 _ rfl; refine blk_put (cs := #[.int .i64 0, .slice none 0 0, .slice none 0 0, .slice none 0 0]) ?_ 0 _ rfl; exact BKz.out)) | (have M9 := Aside0.mk (show tSeg.M W9 w3.heap.size (fun k => w3.heap.size ≤ k) (seg base ls) (.agg #[.int .i64 base, .slice D1 ls.length d1, .slice D2 (keys ls).length d2, .slice D3 (keys ls).length d3]) from by rw [hW9]; exact tSeg.M_mono (fun k hk => hk.1) (Ty.M_below (T := tSeg) HM5.out (below_alloc (Below.refl _ _) _))); obtain ⟨k9, hk9⟩ : ∃ k9, k9 = w5.heap.size := ⟨_, rfl⟩; rw [← hk9]; have BK9 := Aside0.mk (show W9.heap[k9]? = some (.cells #[.int .i64 base, .slice D1 ls.length d1, .slice D2 (keys ls).length d2, .slice D3 (keys ls).length d3] 50 (0, 0)) from by rw [hW9, hk9]; exact heap_alloc_new _ _))
        clear hW9 hk9
        clear zc0 zf0 zc1 zf1 zc2 zf2 zc3 zf3 BKz
        clear hd1 hf1 hd2 hf2 hd3 hf3 k1c0 k1f0 k1c1 k1f1 k1c2 k1f2 k1c3 k1f3 HBV HKP
        have BK19 := Aside0.mk (blk_below (g := g1) BK1.out HB9.out)
        have k2c0 : W9.cell? ⟨g1, 0, none⟩ = some (.int .i64 0) := (blk_cell BK19.out 0).trans rfl; have k2f0 := blk_frozen BK19.out 0; have k2c1 : W9.cell? ⟨g1, 1, none⟩ = some (.slice none 0 0) := (blk_cell BK19.out 1).trans rfl; have k2f1 := blk_frozen BK19.out 1; have k2c2 : W9.cell? ⟨g1, 2, none⟩ = some (.slice none 0 0) := (blk_cell BK19.out 2).trans rfl; have k2f2 := blk_frozen BK19.out 2; have k2c3 : W9.cell? ⟨g1, 3, none⟩ = some (.slice none 0 0) := (blk_cell BK19.out 3).trans rfl; have k2f3 := blk_frozen BK19.out 3; have s9c0 : W9.cell? ⟨k9, 0, none⟩ = some (.int .i64 base) := (blk_cell BK9.out 0).trans rfl; have s9f0 := blk_frozen BK9.out 0; have s9c1 : W9.cell? ⟨k9, 1, none⟩ = some (.slice D1 ls.length d1) := (blk_cell BK9.out 1).trans rfl; have s9f1 := blk_frozen BK9.out 1; have s9c2 : W9.cell? ⟨k9, 2, none⟩ = some (.slice D2 (keys ls).length d2) := (blk_cell BK9.out 2).trans rfl; have s9f2 := blk_frozen BK9.out 2; have s9c3 : W9.cell? ⟨k9, 3, none⟩ = some (.slice D3 (keys ls).length d3) := (blk_cell BK9.out 3).trans rfl; have s9f3 := blk_frozen BK9.out 3
        have henc := enc_seg base ls D1 D2 D3 d1 d2 d3 W9 (tSeg.K_of_M M9.out) HOK.out HBY.out b0
        go_wp2_with fail
        go_at_call 105
        refine henc.mono ?_
        rintro e w6 ⟨vE, rfl, hME, hgE⟩
        obtain ⟨E, ec, rfl, hEc, hEr⟩ := HelpB.tB.K_of_M hME
        have M6 := Aside0.mk (Ty.M_below (T := tSeg) M9.out hgE)
        have BK16 := Aside0.mk (blk_below (g := g1) BK19.out hgE)
        have BK96 := Aside0.mk (blk_below (g := k9) BK9.out hgE)
        have HB6 := Aside0.mk (show Below w.heap.size w w6 from below_step (below_step HB3.out HB9.out) hgE)
        have heq := Try.bytes_Equal (.slice E (code (seg base ls)).length ec) (.slice A b.length c) (code (seg base ls)) b w6 (Kd.C_string Try.underlying33 Try.underlying5 Try.underlying9 hEr) (Kd.C_string Try.underlying33 Try.underlying5 Try.underlying9 (Kd.C_below HR.out HB6.out))
        have hsb := same_bytes (code (seg base ls)) b (code_bytes HBY.out) HY.out
        rw [Go.Lib.strOfNums_toList, Go.Lib.strOfNums_toList] at hsb
        rw [hsb] at heq
        clear hsb henc hME hgE hEc hEr k2c0 k2f0 k2c1 k2f1 k2c2 k2f2 k2c3 k2f3 s9c0 s9f0 s9c1 s9f1 s9c2 s9f2 s9c3 s9f3 M9 BK9 BK19
        have k6c0 : w6.cell? ⟨g1, 0, none⟩ = some (.int .i64 0) := (blk_cell BK16.out 0).trans rfl; have k6f0 := blk_frozen BK16.out 0; have k6c1 : w6.cell? ⟨g1, 1, none⟩ = some (.slice none 0 0) := (blk_cell BK16.out 1).trans rfl; have k6f1 := blk_frozen BK16.out 1; have k6c2 : w6.cell? ⟨g1, 2, none⟩ = some (.slice none 0 0) := (blk_cell BK16.out 2).trans rfl; have k6f2 := blk_frozen BK16.out 2; have k6c3 : w6.cell? ⟨g1, 3, none⟩ = some (.slice none 0 0) := (blk_cell BK16.out 3).trans rfl; have k6f3 := blk_frozen BK16.out 3; have t9c0 : w6.cell? ⟨k9, 0, none⟩ = some (.int .i64 base) := (blk_cell BK96.out 0).trans rfl; have t9f0 := blk_frozen BK96.out 0; have t9c1 : w6.cell? ⟨k9, 1, none⟩ = some (.slice D1 ls.length d1) := (blk_cell BK96.out 1).trans rfl; have t9f1 := blk_frozen BK96.out 1; have t9c2 : w6.cell? ⟨k9, 2, none⟩ = some (.slice D2 (keys ls).length d2) := (blk_cell BK96.out 2).trans rfl; have t9f2 := blk_frozen BK96.out 2; have t9c3 : w6.cell? ⟨k9, 3, none⟩ = some (.slice D3 (keys ls).length d3) := (blk_cell BK96.out 3).trans rfl; have t9f3 := blk_frozen BK96.out 3
        by_cases hcb : code (seg base ls) = b
        · rw [decide_eq_true hcb] at heq
          have HD := Aside0.mk (dec_good HP.out ⟨HF.out, hcb⟩)
          clear hcb
          go_wp2_with (go_at_call 104; refine heq.mono ?_; rintro e w7 ⟨rfl, hw7⟩; subst hw7)
          refine bodyPost_ret (results_ct rfl _ _ g1 50 #[.int .i64 base, .slice D1 ls.length d1, .slice D2 (keys ls).length d2, .slice D3 (keys ls).length d3] (0, 0) _ rfl (by (with_reducible repeat (first | refine blk_drewN ?_ _ | refine blk_drew ?_ | refine blk_alloc ?_ _)); refine blk_put (cs := #[.int .i64 base, .slice D1 ls.length d1, .slice D2 (keys ls).length d2, .slice none 0 0]) ?_ 3 _ rfl; (with_reducible repeat (first | refine blk_drewN ?_ _ | refine blk_drew ?_ | refine blk_alloc ?_ _)); refine blk_put (cs := #[.int .i64 base, .slice D1 ls.length d1, .slice none 0 0, .slice none 0 0]) ?_ 2 _ rfl; (with_reducible repeat (first | refine blk_drewN ?_ _ | refine blk_drew ?_ | refine blk_alloc ?_ _)); refine blk_put (cs := #[.int .i64 base, .slice none 0 0, .slice none 0 0, .slice none 0 0]) ?_ 1 _ rfl; (with_reducible repeat (first | refine blk_drewN ?_ _ | refine blk_drew ?_ | refine blk_alloc ?_ _)); refine blk_put (cs := #[.int .i64 0, .slice none 0 0, .slice none 0 0, .slice none 0 0]) ?_ 0 _ rfl; (with_reducible repeat (first | refine blk_drewN ?_ _ | refine blk_drew ?_ | refine blk_alloc ?_ _)); exact BK16.out) Try.underlying50 rfl (by kernel_rfl)) rfl ?_
          rw [HD.out]
          refine ⟨_, rfl, ?_, below_set (below_set (below_set (below_set (HB6.out) GEg1.out) GEg1.out) GEg1.out) GEg1.out⟩
          have hg1 := HG1.out
          exact tSeg.M_mono (fun _ _ => trivial) (Ty.M_set (T := tSeg) (Ty.M_set (T := tSeg) (Ty.M_set (T := tSeg) (Ty.M_set (T := tSeg) (tSeg.M_lower HZ3.out M6.out) (fun k hk e => by omega) _) (fun k hk e => by omega) _) (fun k hk e => by omega) _) (fun k hk e => by omega) _)
        · rw [decide_eq_false hcb] at heq
          have HD := Aside0.mk (dec_bad HP.out (fun h => hcb h.2))
          clear hcb
          go_wp2_with (go_at_call 104; refine heq.mono ?_; rintro e w7 ⟨rfl, hw7⟩; subst hw7)
          refine bodyPost_ret (results_ct rfl _ _ g1 50 #[.int .i64 0, .slice none 0 0, .slice none 0 0, .slice none 0 0] (0, 0) _ rfl (by (with_reducible repeat (first | refine blk_drewN ?_ _ | refine blk_drew ?_ | refine blk_alloc ?_ _)); refine blk_put (cs := #[.int .i64 0, .slice none 0 0, .slice none 0 0, .slice none 0 0]) ?_ 3 _ rfl; (with_reducible repeat (first | refine blk_drewN ?_ _ | refine blk_drew ?_ | refine blk_alloc ?_ _)); refine blk_put (cs := #[.int .i64 0, .slice none 0 0, .slice none 0 0, .slice none 0 0]) ?_ 2 _ rfl; (with_reducible repeat (first | refine blk_drewN ?_ _ | refine blk_drew ?_ | refine blk_alloc ?_ _)); refine blk_put (cs := #[.int .i64 0, .slice none 0 0, .slice none 0 0, .slice none 0 0]) ?_ 1 _ rfl; (with_reducible repeat (first | refine blk_drewN ?_ _ | refine blk_drew ?_ | refine blk_alloc ?_ _)); refine blk_put (cs := #[.int .i64 0, .slice none 0 0, .slice none 0 0, .slice none 0 0]) ?_ 0 _ rfl; (with_reducible repeat (first | refine blk_drewN ?_ _ | refine blk_drew ?_ | refine blk_alloc ?_ _)); exact BK16.out) Try.underlying50 rfl (by kernel_rfl)) rfl ?_
          rw [HD.out]
          exact ⟨_, rfl, bad_M _ _, below_set (below_set (below_set (below_set (HB6.out) GEg1.out) GEg1.out) GEg1.out) GEg1.out⟩
end Go.Proofs.Ytmgmdnmfalepkaa.Decode

namespace Go.Proofs.Ytmgmdnmfalepkaa.Sto
open Go.RowKit Go.Proofs.YtmgmdnmfalepkaaW.PrintWords Go.Proofs.YtmgmdnmfalepkaaW.PrintMore Go.Proofs.Ytmgmdnmfalepkaa.Kit Go.Proofs.Ytmgmdnmfalepkaa.PKit Go.Proofs.Ytmgmdnmfalepkaa.Ty Go.Proofs.Ytmgmdnmfalepkaa.PSeg Go.Proofs.Ytmgmdnmfalepkaa.PEnc Go.Proofs.Ytmgmdnmfalepkaa.PDec Go.Proofs.Ytmgmdnmfalepkaa.PSta Go.Proofs.Ytmgmdnmfalepkaa.HelpBB Go.Proofs.Ytmgmdnmfalepkaa.HelpSeg
open Go.Proofs.Ytmgmdnmfalepkaa.Build hiding code ans
set_option linter.unusedVariables false
set_option linter.unusedSimpArgs false
theorem enc_calls (s : SegT) (v : Value) (W : World) (h : tSeg.K W s v) (hG : Good s) :
    Calls Try.prog 105 #[v] W fun e w' => ∃ v', e = .returned v' ∧ Kd.R (Kd.int .u8) 5 w' W.heap.size (fun _ => True) v' (code s) ∧ Grew W w' := by
  obtain ⟨b, ls, K, Ps⟩ := s
  obtain ⟨h1, h2, h3⟩ := hG
  have h2 : fits b ls = true := h2
  have h3 : Bytes ls := h3
  have h1 : (b, ls, K, Ps) = seg b ls := h1
  rw [h1] at h ⊢
  obtain ⟨A1, c1, A2, c2, A3, c3, rfl⟩ := Decode.seg_form h
  exact Decode.enc_seg b ls A1 A2 A3 c1 c2 c3 W h (encOk_seg h2 h3) h3 (fits_parts h2).1
set_option maxRecDepth 100000 in
set_option maxHeartbeats 4000000 in
theorem sealed_calls (g : Nat) (Av : Option Addr) (cv n : Nat) (ss : List SegT) (hn : n = ss.length) (fo : Value) (w : World) (hg : w.heap[g]? = some (.cells #[.slice Av n cv, fo] 166 (0, 0))) (hs : Kd.C kSeg w Av ss.length ss) (hl : nlin ss ≤ 1000) (hL : ss.length ≤ 1048576) :
    Calls Try.prog 153 #[.pointer (some ⟨g, 0, none⟩)] w fun e w' => e = .returned (.int .i64 ((nlin ss : Nat) : Int)) ∧ Grew w w' := by
  subst hn
  have huS := Try.underlying166
  have huI := Try.underlying50
  have HS := Aside0.mk hs
  obtain ⟨⟨g0, f0⟩, ⟨g1, f1⟩⟩ := cells2 hg
  clear hs hg
  go_enter Try.func153, Try.ntmps153
  go_wp2
  go_loopg [3, 11] ss.length (fun gg s3 s11 wr => ∃ i : Nat, i ≤ ss.length ∧ ss.length - i ≤ gg ∧ s11 = .int .i64 (i : Int) ∧ s3 = .int .i64 ((nlin (ss.take i) : Nat) : Int) ∧ Aside0 (Below w.heap.size w wr))
  case atStart => exact ⟨0, by omega, by omega, rfl, rfl, ⟨by repeat (first | exact Below.refl _ _ | apply below_alloc | apply below_drew1 | apply pw_below_drewN)⟩⟩
  case round =>
    obtain ⟨i, hi, hg, rfl, rfl, HB⟩ := hrel
    by_cases hlt : i < ss.length
    · have hltz : (i : Int) < (ss.length : Int) := by omega
      obtain ⟨ad, A1, c1, A2, c2, A3, c3, rfl, hcc, hT⟩ := at_seg HS.out i hlt
      obtain ⟨hc0, hc1, hc2, hc3⟩ := cells_later HB.out hcc
      have hsn := nlin_append (ss.take i) [ss.getD i zS]
      rw [← seg_snoc ss i hlt, nlin_one] at hsn
      have hlt2 := nlin_take ss (i + 1)
      have HSN := Aside0.mk hsn
      have hb1 : nlin (ss.take i) ≤ 1000 := by omega
      have hb2 : (ss.getD i zS).2.1.length ≤ 1000 := by omega
      clear hcc hT hsn hlt2
      generalize ss.getD i zS = s at hc0 hc1 hc2 hc3 HSN hb2
      go_wp2
      go_roundg (ss.length - (i + 1))
      case measure => omega
      case rel => exact ⟨i + 1, by omega, by omega, by go_num, by rw [HSN.out]; go_num, ⟨by repeat (first | exact HB.out | apply below_alloc | apply below_drew1 | apply pw_below_drewN)⟩⟩
    · have hltz : ¬ (i : Int) < (ss.length : Int) := by omega
      obtain rfl : i = ss.length := by omega
      rw [List.take_length]
      go_wp2
      go_ret
      exact ⟨rfl, HB.out⟩
set_option maxRecDepth 100000 in
set_option maxHeartbeats 8000000 in
theorem state_calls (g : Nat) (Av Ao : Option Addr) (cv co n m : Nat) (ss : List SegT) (op : List (List Int)) (hn : n = ss.length) (hm : m = op.length) (w : World) (hg : w.heap[g]? = some (.cells #[.slice Av n cv, .slice Ao m co] 166 (0, 0))) (hs : Kd.C kSeg w Av ss.length ss) (ho : Kd.C kB w Ao op.length op) (hc : op.length ≤ co) (hso : smallBB op) (hG : ∀ s ∈ ss, Good s) (hL : ss.length ≤ 1048576) :
    Calls Try.prog 152 #[.pointer (some ⟨g, 0, none⟩)] w fun e w' => ∃ v', e = .returned v' ∧ HelpSta.tSta.M w' w.heap.size (fun _ => True) (ss.map code, op) v' ∧ Grew w w' := by
  subst hn hm
  have huS := Try.underlying166
  have huI := Try.underlying50
  have huT := Try.underlying73
  have HS := Aside0.mk hs
  have HO := Aside0.mk ho
  have HGD := Aside0.mk hG
  have HGG := Aside0.mk hg
  have hcp := fun (W : World) (hW : Below w.heap.size w W) => copy_calls Ao co op W (Kd.C_below HO.out hW) hc hso
  have HCP := Aside0.mk hcp
  clear hs ho hG hg hcp
  go_enter Try.func152, Try.ntmps152
  go_wp2_with (((with_reducible refine gate_dst (N := 2) rfl ?_); refine box_event ?hg (N := 2) ?hd (cs := #[.slice none 0 0, .slice none 0 0]) (t := 73) ?hr ?_; (case hd => rfl); (case hg => rfl); (case hr => first | (go_simp; done) | (go_simp; rfl)); intro gr hg_ w1 hbx hbb; have BKgr := Aside0.mk hbx; have GEgr := Aside0.mk (show w.heap.size ≤ gr from Nat.le_of_eq hg_.symm); have GLgr := Aside0.mk (blk_lt hbx); have HBw1 := Aside0.mk hbb; clear hg_ hbb; obtain ⟨⟨hgrc0, hgrf0⟩, ⟨hgrc1, hgrf1⟩⟩ := cells2 hbx; clear hbx; obtain ⟨⟨q0, r0⟩, ⟨q1, r1⟩⟩ := cells2 (blk_below HGG.out HBw1.out)))
  go_at_call 95
  refine (HCP.out _ HBw1.out).mono ?_
  rintro e w2 ⟨v2, rfl, hS2, hb2⟩
  obtain ⟨A1, c1, rfl⟩ := Kd.S_slice hS2
  have HC2 := Aside0.mk hS2
  have HB12 := Aside0.mk hb2
  have HB2 := Aside0.mk (show Below w.heap.size w w2 from grew_trans HBw1.out hb2)
  replace BKgr := Aside0.mk (blk_below BKgr.out hb2)
  clear hS2 hb2 hgrc0 hgrf0 hgrc1 hgrf1 q0 r0 q1 r1
  obtain ⟨⟨q0, r0⟩, ⟨q1, r1⟩⟩ := cells2 (blk_alloc (blk_below HGG.out HB2.out) (.cells #[.slice none 0 0, .slice A1 op.length c1] 73 (0, 0)))
  go_wp2_with fail
  obtain ⟨gs, hgs⟩ : ∃ g_, g_ = w2.heap.size := ⟨_, rfl⟩
  obtain ⟨w3, hw3⟩ : ∃ w_, w_ = w2.alloc (.cells #[.slice none 0 0, .slice A1 op.length c1] 73 (0, 0)) := ⟨_, rfl⟩
  rw [← hw3] at q0 r0 q1 r1
  rw [← hw3, ← hgs]
  have BKgs := Aside0.mk (show w3.heap[gs]? = some (.cells #[.slice none 0 0, .slice A1 op.length c1] 73 (0, 0)) from by rw [hw3, hgs]; exact blk_new w2 _)
  have hb3 : Below w2.heap.size w2 w3 := by rw [hw3]; exact below_alloc (Below.refl _ _) _
  have GS := Aside0.mk (show w2.heap.size ≤ gs from Nat.le_of_eq hgs.symm)
  have HB23 := Aside0.mk hb3
  have HB3 := Aside0.mk (show Below w.heap.size w w3 from grew_trans HB2.out hb3)
  replace BKgr := Aside0.mk (blk_below BKgr.out hb3)
  have GSL := Aside0.mk (blk_lt BKgs.out)
  have NEGR := Aside0.mk (show gr ≠ gs from fun e => by have h1 := GLgr.out; have h2 := GS.out; have h3 := HB12.out.size; omega)
  replace HC2 := Aside0.mk (show HelpBB.tBB.M w3 w.heap.size (fun k => gr < k ∧ k < gs) op (.slice A1 op.length c1) from
    HelpBB.tBB.M_mono (fun k hk => by have h1 := hk.2.2; have h2 := GS.out; have h3 := hk.2.1; have h4 := GLgr.out; exact ⟨by omega, by omega⟩) (Ty.M_below (T := HelpBB.tBB) (HelpBB.tBB.M_lower HBw1.out.size (HelpBB.tBB.M_bound HC2.out)) HB23.out))
  clear hgs hw3 hb3
  go_loopg [17] ss.length (fun gg s17 wr => ∃ (i : Nat) (Ap : Option Addr) (cp : Nat), i ≤ ss.length ∧ ss.length - i ≤ gg ∧ s17 = .int .i64 (i : Int) ∧ Aside0 (wr.heap[gs]? = some (.cells #[.slice Ap i cp, .slice A1 op.length c1] 73 (0, 0))) ∧ Aside0 (Kd.S kB 33 wr w.heap.size (fun k => w3.heap.size ≤ k) (.slice Ap i cp) ((ss.take i).map code)) ∧ Aside0 (∀ k, (Value.slice Ap i cp).ownBlock = some k → w3.heap.size ≤ k) ∧ Aside0 (Kept w3 wr (fun k => k = gs)) ∧ Aside0 (Below w.heap.size w wr))
  case atStart => exact ⟨0, none, 0, by omega, by omega, rfl, BKgs, ⟨Kd.S_nil _ _ _ _ _⟩, ⟨fun k hk => by simp [Value.ownBlock] at hk⟩, ⟨Kept.refl _ _⟩, HB3⟩
  case round =>
    obtain ⟨i, Ap, cp, hi, hgg, rfl, HG, HR, HOW, HK, HB⟩ := hrel
    by_cases hlt : i < ss.length
    · have hltz : (i : Int) < (ss.length : Int) := by omega
      obtain ⟨ad, B1, d1, B2, d2, B3, d3, rfl, hcc, hT⟩ := at_seg HS.out i hlt
      obtain ⟨hc0, hc1, hc2, hc3⟩ := cells_later HB.out hcc
      have hGs := HGD.out _ (getD_mem ss zS i hlt)
      have HTK := Aside0.mk (show (ss.take (i + 1)).map code = (ss.take i).map code ++ [code (ss.getD i zS)] from by rw [seg_snoc ss i hlt, List.map_append]; rfl)
      have HEN := Aside0.mk (fun (W : World) (hW : Below w.heap.size w W) => enc_calls (ss.getD i zS) _ W (tSeg.K_below hW hT) hGs)
      clear hcc hT hGs
      generalize ss.getD i zS = s at hc0 hc1 hc2 hc3 HTK HEN
      go_wp2_with fail
      obtain ⟨gq, hgq⟩ : ∃ g_, g_ = wr.heap.size := ⟨_, rfl⟩
      obtain ⟨wq, hwq⟩ : ∃ w_, w_ = wr.alloc (.cells #[.int .i64 s.1, .slice B1 s.2.1.length d1, .slice B2 s.2.2.1.length d2, .slice B3 s.2.2.2.length d3] 50 (0, 0)) := ⟨_, rfl⟩
      rw [← hwq, ← hgq]
      have BKgq := Aside0.mk (show wq.heap[gq]? = some (.cells #[.int .i64 s.1, .slice B1 s.2.1.length d1, .slice B2 s.2.2.1.length d2, .slice B3 s.2.2.2.length d3] 50 (0, 0)) from by rw [hwq, hgq]; exact blk_new wr _)
      have hbq : Below wr.heap.size wr wq := by rw [hwq]; exact below_alloc (Below.refl _ _) _
      have BKS := Aside0.mk (blk_below HG.out hbq)
      have HBQ := Aside0.mk (show Below w.heap.size w wq from grew_trans HB.out hbq)
      have HZQ := Aside0.mk (show wr.heap.size < wq.heap.size ∧ gq < wq.heap.size from ⟨by have h := blk_lt BKgq.out; rw [hgq] at h; exact h, blk_lt BKgq.out⟩)
      have HHQ := Aside0.mk (show ∀ k, k < wr.heap.size → wq.heap[k]? = wr.heap[k]? from fun k hk => hbq.block k hk)
      have HRQ := Aside0.mk (show HelpBB.tBB.M wq w.heap.size (fun k => w3.heap.size ≤ k ∧ k < wq.heap.size) ((ss.take i).map code) (.slice Ap i cp) from HelpBB.tBB.M_mono (fun k hk => ⟨hk.1, hk.2.2⟩) (HelpBB.tBB.M_bound (Ty.M_below (T := HelpBB.tBB) HR.out hbq)))
      have HOL := Aside0.mk (fun k (h : (Value.slice Ap i cp).ownBlock = some k) => Kd.S_lt HR.out k h)
      clear hgq hwq hbq hc0 hc1 hc2 hc3
      obtain ⟨⟨xc0, xf0⟩, ⟨xc1, xf1⟩, ⟨xc2, xf2⟩, ⟨xc3, xf3⟩⟩ := cells4 BKgq.out
      obtain ⟨⟨yc0, yf0⟩, ⟨yc1, yf1⟩⟩ := cells2 BKS.out
      go_region_law (first | (go_simp; go_at_call 105; (with_reducible refine (HEN.out _ (grew_trans HBQ.out (by repeat (first | exact Below.refl _ _ | apply below_alloc | apply below_drew1 | apply pw_below_drewN)))).mono ?_); rintro e w5 ⟨v5, rfl, hM5, hb5⟩; obtain ⟨A5, c5, rfl⟩ := Kd.R_slice hM5; have HB5 := Aside0.mk (show Below wq.heap.size wq w5 from grew_trans (by repeat (first | exact Below.refl _ _ | apply below_alloc | apply below_drew1 | apply pw_below_drewN)) hb5); have HM5 := Aside0.mk (show Kd.R (Kd.int .u8) 5 w5 wq.heap.size (fun _ => True) (.slice A5 (code s).length c5) (code s) from Kd.R_lower hM5 (below_size (by repeat (first | exact Below.refl _ _ | apply below_alloc | apply below_drew1 | apply pw_below_drewN)))); have BK5 := Aside0.mk (blk_below BKS.out HB5.out); obtain ⟨⟨zc0, zf0⟩, ⟨zc1, zf1⟩⟩ := cells2 BK5.out; obtain ⟨⟨tc0, tf0⟩, ⟨tc1, tf1⟩⟩ := cells2 (blk_alloc BK5.out (.cells #[.slice A5 (code s).length c5] 33 (0, 0))); clear hM5 hb5) | (refine Kd.S_append_step kB (w0 := w) w.heap.size (by first | rfl | simp [Region.wanted]) (.tmp 22) (.tmp 25) 41 33 (.slice none 0 0) 24 (by rfl) Try.underlying41 infoBB rfl (by decide) (by omega) (.slice Ap i cp) ((ss.take i).map code) (code s) [.slice A5 (code s).length c5] (fun k => w3.heap.size ≤ k) (fun k_ => some k_ = (.slice A5 (code s).length c5 : Value).ownBlock) (by first | rfl | (simp; done) | (simp; rfl)) (by first | rfl | (simp; done) | (simp; rfl)) ?aP ?aK ?aF ?aO ?aB ?aS ?aL ?_; (case aP => exact Kd.M_row (Kd.R_lower (Kd.R_below (Kd.R_tight rfl HM5.out) (by repeat (first | exact Below.refl _ _ | apply below_alloc | apply below_drew1 | apply pw_below_drewN))) HBQ.out.size)); (case aK => exact fun k hk => ⟨by have h1 := Kd.R_base HM5.out k hk.symm; have h2 := HK.out.1; have h3 := HZQ.out.1; omega, fun e => by have h1 := Kd.R_base HM5.out k hk.symm; have h2 := HOL.out k e.symm; have h3 := HZQ.out.1; omega⟩); (case aF => exact fun k hk => by have h1 := HK.out.1; have h2 := HZQ.out.1; have h3 := HB5.out.size; have h4 : w5.heap.size ≤ k := Nat.le_trans (below_size (by repeat (first | exact Below.refl _ _ | apply below_alloc | apply below_drew1 | apply pw_below_drewN))) hk; omega); (case aO => exact HelpBB.tBB.M_mono (fun k hk => ⟨hk.1, fun e => by have h1 := Kd.R_base HM5.out k e.symm; have h2 := hk.2; omega⟩) (Ty.M_below (T := HelpBB.tBB) (Ty.M_below (T := HelpBB.tBB) HRQ.out HB5.out) (by repeat (first | exact Below.refl _ _ | apply below_alloc | apply below_drew1 | apply pw_below_drewN)))); (case aB => exact grew_trans (grew_trans HBQ.out HB5.out) (by repeat (first | exact Below.refl _ _ | apply below_alloc | apply below_drew1 | apply pw_below_drewN))); (case aS => exact (grew_trans (grew_trans HBQ.out HB5.out) (by repeat (first | exact Below.refl _ _ | apply below_alloc | apply below_drew1 | apply pw_below_drewN))).size); (case aL => (rw [List.length_map, List.length_take]; omega)); intro v6 w6 hO6 hB6 hg6 hat6; obtain ⟨A6, c6, e6⟩ := Kd.S_slice hO6; rw [show ((ss.take i).map code ++ [code s]).length = i + 1 from by rw [List.length_append, List.length_map, List.length_take, List.length_singleton]; omega] at e6; subst e6; have HG6 := Aside0.mk (show w5.grownBy w6 (Value.slice Ap i cp).ownBlock from hg6); have BK6 := Aside0.mk (blk_grown (g := gs) BK5.out HG6.out (fun e => by have h1 := HOW.out _ e.symm; have h2 := GSL.out; omega)); obtain ⟨⟨rc0, rf0⟩, ⟨rc1, rf1⟩⟩ := cells2 BK6.out; have HO6 := Aside0.mk hO6; have HB6 := Aside0.mk hB6; clear hO6 hB6 hg6 hat6))
      all_goals
        go_wp2
        go_roundg (ss.length - (i + 1))
        case measure => omega
        case rel =>
          have hz1 := HK.out.1
          have hz2 := HZQ.out.1
          have hz3 := HB5.out.size
          have hz6 := HG6.out.size
          refine ⟨i + 1, A6, c6, by omega, by omega, by go_num, ⟨blk_put (cs := #[.slice Ap i cp, .slice A1 op.length c1]) BK6.out 0 _ rfl⟩, ⟨?_⟩, ⟨fun k hk => (Kd.S_R HO6.out).1 k hk⟩, ⟨?_⟩, ⟨below_set HB6.out (Nat.le_trans HB2.out.size GS.out)⟩⟩
          · rw [HTK.out]
            exact Ty.M_set (T := HelpBB.tBB) HO6.out (fun k hk e => by have h1 : w3.heap.size ≤ k := hk; have h2 := GSL.out; omega) _
          · exact ⟨by simp [World.setCell]; omega, fun k hk hne => (Below.heap_setCell w6 ⟨gs, 0, none⟩ _ k hne).trans ((HG6.out.block k (by omega) (fun e => by have h1 := HOW.out _ e.symm; omega)).trans ((HB5.out.block k (by omega)).trans ((HHQ.out k (by omega)).trans (HK.out.2 k hk hne))))⟩
    · have hltz : ¬ (i : Int) < (ss.length : Int) := by omega
      obtain rfl : i = ss.length := by omega
      have hR := HR.out
      rw [List.take_length] at hR
      have HS9 := Aside0.mk hR
      have BR9 := Aside0.mk (blk_kept BKgr.out HK.out NEGR.out)
      clear hR HR
      obtain ⟨⟨pc0, pf0⟩, ⟨pc1, pf1⟩⟩ := cells2 HG.out
      obtain ⟨⟨uc0, uf0⟩, ⟨uc1, uf1⟩⟩ := cells2 BR9.out
      have hz9 := HK.out.1
      go_wp2
      refine bodyPost_ret (results_cell_row rfl _ _ gr 73 #[.slice Ap ss.length cp, .slice A1 op.length c1] (0, 0) _ rfl (by (with_reducible repeat (first | refine blk_drewN ?_ _ | refine blk_drew ?_ | refine blk_alloc ?_ _)); refine blk_put (cs := #[.slice Ap ss.length cp, .slice none 0 0]) ?_ 1 _ rfl; (with_reducible repeat (first | refine blk_drewN ?_ _ | refine blk_drew ?_ | refine blk_alloc ?_ _)); refine blk_put (cs := #[.slice none 0 0, .slice none 0 0]) ?_ 0 _ rfl; (with_reducible repeat (first | refine blk_drewN ?_ _ | refine blk_drew ?_ | refine blk_alloc ?_ _)); exact BR9.out) Try.underlying73 rfl (by kernel_rfl)) rfl ?_
      refine ⟨_, rfl, ?_, below_set (below_set (HB.out) GEgr.out) GEgr.out⟩
      refine HelpSta.tSta.M_mono (fun _ _ => trivial) ⟨[_, _], rfl, Tys.cons_apart (ok1 := fun k => w3.heap.size ≤ k) (ok2 := fun k => gr < k ∧ k < gs) ?_ (Tys.M_one ?_) (fun k h1 h2 => by have h3 := GSL.out; omega)⟩
      · exact ((Ty.M_set (T := HelpBB.tBB) (Ty.M_set (T := HelpBB.tBB) HS9.out (fun k hk e => by have h1 : w3.heap.size ≤ k := hk; have h2 := GSL.out; have h3 := GLgr.out; have h4 := GS.out; have h5 := HB12.out.size; omega) _) (fun k hk e => by have h1 : w3.heap.size ≤ k := hk; have h2 := GSL.out; have h3 := GLgr.out; have h4 := GS.out; have h5 := HB12.out.size; omega) _))
      · exact ((Ty.M_set (T := HelpBB.tBB) (Ty.M_set (T := HelpBB.tBB) (Ty.M_kept (T := HelpBB.tBB) HC2.out HK.out (fun k hk e => by have h1 := hk.2; omega)) (fun k hk e => by have h1 := hk.1; omega) _) (fun k hk e => by have h1 := hk.1; omega) _))
end Go.Proofs.Ytmgmdnmfalepkaa.Sto

namespace Go.Proofs.Ytmgmdnmfalepkaa.IdxBB
open Go.RowKit Go.Proofs.YtmgmdnmfalepkaaW.PrintWords Go.Proofs.Ytmgmdnmfalepkaa.Kit
set_option linter.unusedVariables false
set_option maxHeartbeats 2000000 in
theorem index_calls {α : Type} (d : Kd α) (hs : d.sz = 1) (z : α) (p : α → Bool) (g : Nat) (cap : Array Value) (eg : ∀ args w, (callFunc g args).run Try.prog w = .ok (.enter g args) w)
    (A : Option Addr) (c : Nat) (xs : List α) (w : World) (hr : d.C w A xs.length xs) (hp : PredK Try.prog d g cap p xs w) :
    Calls Try.prog 181 #[.slice A xs.length c, .func (.func g) #[] cap] w fun e w' => e = .returned (.int .i64 (idxB p xs)) ∧ Grew w w' := by
  have hbig : xs.length ≤ 9223372036854775807 := hr.2.1
  have HR := Aside0.mk hr
  have HP := Aside0.mk hp
  clear hr hp
  go_enter Try.func181, Try.ntmps181
  go_wp2
  go_loopg [5, 8] xs.length (fun gg _ s8 wr => ∃ kk : Nat, kk ≤ xs.length ∧ xs.length - kk ≤ gg ∧ s8 = .int .i64 kk ∧ Aside0 (Below w.heap.size w wr) ∧ Aside0 (∀ j, j < kk → p (xs.getD j z) = false))
  case atStart => exact ⟨0, Nat.zero_le _, by omega, rfl, ⟨Below.refl _ w⟩, ⟨fun j hj => absurd hj (Nat.not_lt_zero _)⟩⟩
  case round =>
    obtain ⟨kk, hkk, hg, rfl, BW, HA⟩ := hrel
    by_cases hlt : kk < xs.length
    · have hltz : (kk : Int) < (xs.length : Int) := by omega
      obtain ⟨ad, u, rfl, hc0, hK⟩ := get_one hs HR.out z kk hlt
      have hcell : wr.cell? (ad.add kk) = some u := (BW.out.cell (World.block_lt_of_cell? w _ hc0)).trans hc0
      have hcall := HP.out wr (xs.getD kk z) u (getD_mem xs z kk hlt) BW.out (d.K_below (pw_grow BW.out) hK)
      clear hc0 hK
      cases hq : p (xs.getD kk z) with
      | true =>
        rw [hq] at hcall
        have HQ := Aside0.mk hq
        clear hq
        go_wp2_with (go_at_fn g; refine hcall.mono ?_; rintro e w' ⟨rfl, hb'⟩)
        go_ret
        refine ⟨?_, below_then BW.out BW.out.size hb'⟩
        rw [idxB_hit p xs z kk hlt HQ.out HA.out]; rfl
      | false =>
        rw [hq] at hcall
        have HQ := Aside0.mk hq
        clear hq
        go_wp2_with (go_at_fn g; refine hcall.mono ?_; rintro e w' ⟨rfl, hb'⟩)
        go_roundg (xs.length - (kk + 1))
        case measure => omega
        case rel =>
          refine ⟨kk + 1, by omega, by omega, by go_num, ⟨below_then BW.out BW.out.size hb'⟩, ⟨fun j hj => ?_⟩⟩
          by_cases e : j = kk
          · subst e
            exact HQ.out
          · exact HA.out j (by omega)
    · have hltz : ¬ (kk : Int) < (xs.length : Int) := by omega
      go_wp2
      go_ret
      refine ⟨?_, BW.out⟩
      rw [idxB_none p xs z (fun j hj => HA.out j (by omega))]; rfl
set_option maxHeartbeats 2000000 in
theorem contains_calls {α : Type} (d : Kd α) (hs : d.sz = 1) (z : α) (p : α → Bool) (g : Nat) (cap : Array Value) (eg : ∀ args w, (callFunc g args).run Try.prog w = .ok (.enter g args) w)
    (A : Option Addr) (c : Nat) (xs : List α) (w : World) (hr : d.C w A xs.length xs) (hp : PredK Try.prog d g cap p xs w) :
    Calls Try.prog 172 #[.slice A xs.length c, .func (.func g) #[] cap] w fun e w' => e = .returned (.bool (xs.any p)) ∧ Grew w w' := by
  have hcall := index_calls d hs z p g cap eg A c xs w hr hp
  have HB := Aside0.mk (idxB_any p xs)
  clear hr hp
  go_enter Try.func172, Try.ntmps172
  generalize hi : idxB p xs = i at hcall HB
  clear hi
  go_wp2_with (go_at_call 181; refine hcall.mono ?_; rintro e w' ⟨rfl, hb'⟩)
  go_ret
  exact ⟨by rw [← HB.out]; rfl, hb'⟩
end Go.Proofs.Ytmgmdnmfalepkaa.IdxBB

namespace Go.Proofs.Ytmgmdnmfalepkaa.Sto
open Go.RowKit Go.Proofs.YtmgmdnmfalepkaaW.PrintWords Go.Proofs.YtmgmdnmfalepkaaW.PrintMore Go.Proofs.Ytmgmdnmfalepkaa.Kit Go.Proofs.Ytmgmdnmfalepkaa.PKit Go.Proofs.Ytmgmdnmfalepkaa.Ty Go.Proofs.Ytmgmdnmfalepkaa.PSeg Go.Proofs.Ytmgmdnmfalepkaa.PEnc Go.Proofs.Ytmgmdnmfalepkaa.PDec Go.Proofs.Ytmgmdnmfalepkaa.PSta Go.Proofs.Ytmgmdnmfalepkaa.HelpBB Go.Proofs.Ytmgmdnmfalepkaa.HelpSeg
open Go.Proofs.Ytmgmdnmfalepkaa.Build hiding code ans
set_option linter.unusedVariables false
set_option linter.unusedSimpArgs false
theorem dec_bytes {b : List Int} (hb : ∀ x ∈ b, 0 ≤ x ∧ x ≤ 255) (h : (dec b).2 = 0) : Bytes (dec b).1.2.1 := by
  rcases decBy_or implP b with ⟨base, ls, h1, h2, h3, h4⟩ | h4
  · have e : dec b = (seg base ls, 0) := h4
    rw [e]
    exact (Decode.implP_some hb h3).2.2.2.2
  · have e : dec b = ((0, [], [], []), 5) := h4
    rw [e] at h
    cases h
theorem chain_good {base : Int} {ss : List SegT} {bs : List (List Int)} (h : Chain base ss bs) (hb : Bytes bs) : ∀ s ∈ ss, Good s := by
  induction h with
  | nil base => intro s hs; cases hs
  | cons h t ih =>
    intro s' hs'
    rcases List.mem_cons.1 hs' with rfl | hs'
    · obtain ⟨h1, h2, h3, h4, h5⟩ := h
      have h6 := dec_bytes (hb _ List.mem_cons_self) (by rw [h5])
      rw [h5] at h6
      exact ⟨h3, h2, h6⟩
    · exact ih (fun l hl => hb l (List.mem_cons_of_mem _ hl)) s' hs'
def Got (w w' : World) (st : StaT) (e : Ending) : Prop := match segsOf st with
  | none => e = .returned (.tuple #[.pointer none, .bool false])
  | some ss => ∃ (g : Nat) (Av : Option Addr) (cv : Nat) (Ao : Option Addr) (co N : Nat), e = .returned (.tuple #[.pointer (some ⟨g, 0, none⟩), .bool true]) ∧ w'.heap[g]? = some (.cells #[.slice Av ss.length cv, .slice Ao st.2.length co] 166 (0, 0)) ∧ w.heap.size ≤ g ∧ g < N ∧ N ≤ w'.heap.size ∧ Kd.R kSeg 50 w' w.heap.size (fun k => g < k ∧ k < N) (.slice Av ss.length cv) ss ∧ Kd.S kB 33 w' w.heap.size (fun k => N ≤ k) (.slice Ao st.2.length co) st.2
theorem got_none {w w' : World} {st : StaT} {e : Ending} (h : segsOf st = none) (he : e = .returned (.tuple #[.pointer none, .bool false])) : Got w w' st e := by
  unfold Got; rw [h]; exact he
theorem one_pred (ls : List (List Int)) (w : World) (hb : Bytes ls) : PredK Try.prog kB 173 #[] (fun l => decide (10 ∈ l)) ls w := by
  rintro W x u hx hW ⟨A, c, e, hl, hr⟩
  obtain rfl : u = .slice A x.length c := by injection e
  have hone := one_calls A c x W hr hl (hb x hx)
  have hd : decide (10 ∈ x) = !decide (10 ∉ x) := by by_cases h : 10 ∈ x <;> simp [h]
  show Calls Try.prog 173 #[.slice A x.length c] W (fun e w' => e = .returned (.bool (decide (10 ∈ x))) ∧ Grew W w')
  rw [hd]
  generalize decide (10 ∉ x) = q at hone
  go_enter Try.func173, Try.ntmps173
  go_wp2_with (go_at_call 93; refine hone.mono ?_; rintro e w' ⟨rfl, rfl⟩)
  go_ret
  exact ⟨rfl, Below.refl _ _⟩
theorem any_plain (ls : List (List Int)) : (ls.any fun l => decide (10 ∈ l)) = !plain ls := by
  unfold plain
  rw [List.not_all_eq_any_not]
  congr 1
  funext l
  by_cases h : 10 ∈ l <;> simp [h]
set_option maxRecDepth 100000 in
set_option maxHeartbeats 8000000 in
theorem storeOf_calls (st : StaT) (A0 A1 : Option Addr) (c0 c1 : Nat) (w : World) (h0 : Kd.C kB w A0 st.1.length st.1) (l0 : st.1.length ≤ c0) (h1 : Kd.C kB w A1 st.2.length st.2) (l1 : st.2.length ≤ c1) (hb0 : Bytes st.1) (hb1 : Bytes st.2) (s0 : smallBB st.1) (s1 : smallBB st.2) :
    Calls Try.prog 151 #[.agg #[.slice A0 st.1.length c0, .slice A1 st.2.length c1]] w fun e w' => Got w w' st e ∧ Grew w w' := by
  have huS := Try.underlying166
  have huI := Try.underlying50
  have huT := Try.underlying73
  have q0 : st.1.length + totalB st.1 ≤ 1048576 := s0
  have q1 : st.2.length + totalB st.2 ≤ 1048576 := s1
  have H0 := Aside0.mk h0
  have H1 := Aside0.mk h1
  have HY0 := Aside0.mk hb0
  have HY1 := Aside0.mk hb1
  have htt := fun (W : World) (hW : Below w.heap.size w W) => total_calls A1 c1 st.2 W (Kd.C_below H1.out hW) l1 s1
  have HTT := Aside0.mk htt
  have HCP := Aside0.mk (fun (W : World) (hW : Below w.heap.size w W) => copy_calls A1 c1 st.2 W (Kd.C_below H1.out hW) l1 s1)
  have eg := enters_of Try.func173 (by kernel_rfl) rfl
  have hct := fun (W : World) (hW : Below w.heap.size w W) => IdxBB.contains_calls kB rfl [] (fun l => decide (10 ∈ l)) 173 #[] eg A1 c1 st.2 W (Kd.C_below H1.out hW) (one_pred st.2 W hb1)
  rw [any_plain] at hct
  have HCT := Aside0.mk hct
  clear h0 h1 hb0 hb1 htt hct eg s0 s1
  go_enter Try.func151, Try.ntmps151
  go_wp2_with (first | ((with_reducible refine gate_dst (N := 1) rfl ?_); refine box_event ?hg (N := 1) ?hd (cs := #[.slice A0 st.1.length c0, .slice A1 st.2.length c1]) (t := 73) ?hr ?_; (case hd => rfl); (case hg => rfl); (case hr => first | (go_simp; done) | (go_simp; rfl)); intro gp hg_ w1 hbx hbb; have BKgp := Aside0.mk hbx; have GEgp := Aside0.mk (show w.heap.size ≤ gp from Nat.le_of_eq hg_.symm); have GLgp := Aside0.mk (blk_lt hbx); have HBw1 := Aside0.mk hbb; clear hg_ hbb; obtain ⟨⟨hgpc0, hgpf0⟩, ⟨hgpc1, hgpf1⟩⟩ := cells2 hbx; clear hbx) | ((with_reducible refine gate_dst (N := 12) rfl ?_); refine box_event ?hg (N := 12) ?hd (cs := #[.slice none 0 0, .slice none 0 0]) (t := 166) ?hr ?_; (case hd => rfl); (case hg => rfl); (case hr => first | (go_simp; done) | (go_simp; rfl)); intro gs hg_ w2 hbx hbb; have BKgs := Aside0.mk hbx; have GEgs := Aside0.mk (show w1.heap.size ≤ gs from Nat.le_of_eq hg_.symm); have GLgs := Aside0.mk (blk_lt hbx); have HBw2 := Aside0.mk hbb; clear hg_ hbb; obtain ⟨⟨hgsc0, hgsf0⟩, ⟨hgsc1, hgsf1⟩⟩ := cells2 hbx; clear hbx; have BKp_ := Aside0.mk (blk_below BKgp.out HBw2.out); clear BKgp hgpc0 hgpf0 hgpc1 hgpf1; have BKgp := BKp_; clear BKp_; obtain ⟨⟨pc0, pf0⟩, ⟨pc1, pf1⟩⟩ := cells2 BKgp.out))
  have HG2 := Aside0.mk (show Below w.heap.size w w2 from grew_trans HBw1.out HBw2.out)
  go_at_call 94
  refine (HTT.out _ HG2.out).mono ?_
  rintro e w3 ⟨rfl, hw3⟩
  subst hw3
  go_wp2_with fail
  have HB3 := Aside0.mk HG2.out
  have GSL := Aside0.mk (blk_lt BKgs.out)
  have GPL := Aside0.mk (blk_lt BKgp.out)
  have NEP := Aside0.mk (show gp ≠ gs from fun e => by have h1 := GLgp.out; have h2 := GEgs.out; omega)
  clear HG2 hgsc0 hgsf0 hgsc1 hgsf1 pc0 pf0 pc1 pf1
  go_loopg [5, 6, 19] st.1.length (fun gg s5 s6 s19 wr => ∃ (i : Nat) (acc : List SegT) (Ap : Option Addr) (cp : Nat), i ≤ st.1.length ∧ st.1.length - i ≤ gg ∧ s19 = .int .i64 (i : Int) ∧ s5 = .int .i64 ((nlin acc : Nat) : Int) ∧ s6 = .int .i64 (((tots acc : Nat) : Int) + (totalB st.2 : Int)) ∧ Aside0 (Chain 0 acc (st.1.take i)) ∧ Aside0 (wr.heap[gs]? = some (.cells #[.slice Ap i cp, .slice none 0 0] 166 (0, 0))) ∧ Aside0 (Kd.R kSeg 50 wr w.heap.size (fun k => w3.heap.size ≤ k) (.slice Ap i cp) acc) ∧ Aside0 (∀ k, (Value.slice Ap i cp).ownBlock = some k → w3.heap.size ≤ k) ∧ Aside0 (Kept w3 wr (fun k => k = gs)) ∧ Aside0 (Below w.heap.size w wr))
  case atStart => exact ⟨0, [], none, 0, by omega, by omega, rfl, rfl, by simp [tots], ⟨.nil 0⟩, BKgs, ⟨Kd.R_nil _ _ _ _ _⟩, ⟨fun k hk => by simp [Value.ownBlock] at hk⟩, ⟨Kept.refl _ _⟩, HB3⟩
  case round =>
    obtain ⟨i, acc, Ap, cp, hi, hgg, rfl, rfl, rfl, HC, HG, HR, HOW, HK, HB⟩ := hrel
    obtain ⟨n1, n2, n3⟩ := chain_len0 HC.out
    have n4 : acc.length = i := by have h := chain_len HC.out; rw [List.length_take] at h; omega
    have HN4 := Aside0.mk n4
    clear n4
    by_cases hlt : i < st.1.length
    · have hltz : (i : Int) < (st.1.length : Int) := by omega
      obtain ⟨ad, u, rfl, hcell0, hK⟩ := get_one (d := kB) rfl H0.out [] i hlt
      obtain ⟨A', c', e', hc', hr'⟩ := hK
      obtain rfl : u = .slice A' (st.1.getD i []).length c' := by injection e'
      have hcell : wr.cell? (ad.add i) = some (.slice A' (st.1.getD i []).length c') := (HB.out.cell (World.block_lt_of_cell? w _ hcell0)).trans hcell0
      have hgl := getD_len st.1 i
      have HBY := Aside0.mk (getD_bytes HY0.out i)
      have HDE := Aside0.mk (fun (W : World) (hW : Below w.heap.size w W) => Decode.decode_calls A' c' (st.1.getD i []) W (Kd.C_below hr' hW) hc' HBY.out (by omega))
      have HST := Aside0.mk (fun h => segs_stop (st := st) HC.out hlt h)
      have HNX := Aside0.mk (fun h0 h1 => segs_next (st := st) HC.out hlt h0 h1)
      clear e' hr' hcell0 hgl
      generalize st.1.getD i [] = b at hcell hc' HDE HST HNX HBY
      go_wp2_with fail
      go_at_call 45
      refine (HDE.out _ HB.out).mono ?_
      rintro e w5 ⟨v5, rfl, hM5, hb5⟩
      obtain ⟨B1, d1, B2, d2, B3, d3, rfl, hK5⟩ := kSeg_mk hM5
      have HFS := Aside0.mk (fun h => (dec_at (b := b) h).2.1)
      have HM5 := Aside0.mk hK5
      have HB5 := Aside0.mk hb5
      clear hM5 hK5 hb5
      generalize (dec b).1 = s at HM5 HST HNX HFS
      generalize (dec b).2 = cd at HST HNX HFS
      obtain ⟨⟨x0, x0f⟩, ⟨x1, x1f⟩, ⟨x2, x2f⟩, ⟨x3, x3f⟩⟩ := cells4 (blk_new w5 (.cells #[.int .i64 s.1, .slice B1 s.2.1.length d1, .slice B2 s.2.2.1.length d2, .slice B3 s.2.2.2.length d3] 50 (0, 0)))
      by_cases hgood : cd = 0 ∧ s.1 = ((nlin acc : Nat) : Int)
      case neg =>
        have hno := HST.out hgood
        have HNO := Aside0.mk hno
        clear hno
        by_cases hcd : cd = 0
        · subst hcd
          have hne : (s.1 != ((nlin acc : Nat) : Int)) = true := by simp; intro e; exact hgood ⟨rfl, e⟩
          clear hgood
          go_wp2
          go_ret2
          exact ⟨got_none HNO.out rfl, by have h1 := HB.out; have h2 := HB5.out; refine grew_trans (grew_trans h1 h2) ?_; repeat (first | exact Below.refl _ _ | apply below_alloc | apply below_drew1 | apply pw_below_drewN)⟩
        · have hne : (cd != 0) = true := by simpa using hcd
          clear hgood hcd
          go_wp2
          go_ret2
          exact ⟨got_none HNO.out rfl, by have h1 := HB.out; have h2 := HB5.out; refine grew_trans (grew_trans h1 h2) ?_; repeat (first | exact Below.refl _ _ | apply below_alloc | apply below_drew1 | apply pw_below_drewN)⟩
      case pos =>
        obtain ⟨hcd, hs1⟩ := hgood
        subst hcd
        have HS1 := Aside0.mk hs1
        have HCN := Aside0.mk (HNX.out rfl hs1)
        obtain ⟨f1, f2, f3, f4, f5, f6⟩ := fits_parts (HFS.out rfl)
        have hne : (s.1 != ((nlin acc : Nat) : Int)) = false := by simp [hs1]
        have f7 : s.2.1.length ≤ 1000 := by omega
        clear HST HNX HFS hs1 f1 f2 f3 f4 f5
        go_wp2_with fail
        obtain ⟨gq, hgq⟩ : ∃ g_, g_ = w5.heap.size := ⟨_, rfl⟩
        obtain ⟨w6, hw6⟩ : ∃ w_, w_ = w5.alloc (.cells #[.int .i64 s.1, .slice B1 s.2.1.length d1, .slice B2 s.2.2.1.length d2, .slice B3 s.2.2.2.length d3] 50 (0, 0)) := ⟨_, rfl⟩
        rw [← hw6, ← hgq] at x0 x0f x1 x1f x2 x2f x3 x3f
        rw [← hw6]
        (try rw [← hgq])
        have BKgq := Aside0.mk (show w6.heap[gq]? = some (.cells #[.int .i64 s.1, .slice B1 s.2.1.length d1, .slice B2 s.2.2.1.length d2, .slice B3 s.2.2.2.length d3] 50 (0, 0)) from by rw [hw6, hgq]; exact blk_new w5 _)
        have hb6 : Below w5.heap.size w5 w6 := by rw [hw6]; exact below_alloc (Below.refl _ _) _
        have HB6 := Aside0.mk (show Below wr.heap.size wr w6 from grew_trans HB5.out hb6)
        have HZ6 := Aside0.mk HB6.out.size
        have HM6 := Aside0.mk (show kSeg.M w6 wr.heap.size (fun k => wr.heap.size ≤ k) s [.int .i64 s.1, .slice B1 s.2.1.length d1, .slice B2 s.2.2.1.length d2, .slice B3 s.2.2.2.length d3] from kSeg.M_mono (fun k hk => hk.2.1) (kSeg.M_bound (Kd.M_below HM5.out hb6)))
        have hk6 := kSeg_open (kSeg.K_of_M HM6.out)
        have hct : Kd.C kB w6 B1 s.2.1.length s.2.1 ∧ s.2.1.length ≤ d1 := by
          obtain ⟨E1, e1, E2, e2, E3, e3, ee, hT⟩ := hk6
          simp only [List.cons.injEq, and_true, Value.slice.injEq, true_and] at ee
          obtain ⟨⟨rfl, rfl⟩, ⟨rfl, rfl⟩, rfl, rfl⟩ := ee
          obtain ⟨⟨F1, e1, ee, hl, hr⟩, _, _⟩ := Decode.seg_parts hT
          obtain ⟨rfl, rfl⟩ : B1 = F1 ∧ d1 = e1 := by injection ee with x1 x2 x3; exact ⟨x1, x3⟩
          exact ⟨hr, hl⟩
        have htt := total_calls B1 d1 s.2.1 w6 hct.1 hct.2 (by show _ ≤ _; omega)
        have BKS := Aside0.mk (blk_below HG.out HB6.out)
        clear hgq hw6 hb6 hk6 hct
        go_at_call 94
        refine htt.mono ?_
        rintro e w7 ⟨rfl, hw7⟩
        have hw7' := hw7.symm
        subst hw7'
        clear hw7
        have HOL := Aside0.mk (fun k (h : (Value.slice Ap i cp).ownBlock = some k) => Kd.R_lt HR.out k h)
        obtain ⟨⟨y0, y0f⟩, ⟨y1, y1f⟩⟩ := cells2 BKS.out
        obtain ⟨⟨z0, z0f⟩, ⟨z1, z1f⟩⟩ := cells2 (blk_alloc BKS.out (.cells #[.int .i64 s.1, .slice B1 s.2.1.length d1, .slice B2 s.2.2.1.length d2, .slice B3 s.2.2.2.length d3] 50 (0, 0)))
        clear htt
        go_wp2_with fail
        go_region_law (rw [← World.alloc_drew]; refine Kd.R_append_step kSeg (w0 := w) w.heap.size (by first | rfl | simp [Region.wanted]) (.tmp 50) (.tmp 52) 123 50 (.agg #[.int .i64 0, .slice none 0 0, .slice none 0 0, .slice none 0 0]) 80 (by rfl) Try.underlying123 infoSeg rfl (by decide) (by omega) (.slice Ap i cp) acc s [.int .i64 s.1, .slice B1 s.2.1.length d1, .slice B2 s.2.2.1.length d2, .slice B3 s.2.2.2.length d3] (fun k => w3.heap.size ≤ k) (fun k => wr.heap.size ≤ k) (by first | rfl | (simp; done) | (simp; rfl)) (by first | rfl | (simp; done) | (simp; rfl)) ?aP ?aK ?aF ?aO ?aB ?aS ?aL ?_; (case aP => exact kSeg.M_lower HB.out.size (Kd.M_below HM6.out (by repeat (first | exact Below.refl _ _ | apply below_alloc | apply below_drew1 | apply pw_below_drewN)))); (case aK => exact fun k hk => ⟨by have h1 := HK.out.1; have h2 : wr.heap.size ≤ k := hk; omega, fun e => by have h2 : wr.heap.size ≤ k := hk; have h3 := HOL.out k e.symm; omega⟩); (case aF => exact fun k hk => by have h1 := HK.out.1; have h2 := HZ6.out; have h4 : w6.heap.size ≤ k := Nat.le_trans (below_size (by repeat (first | exact Below.refl _ _ | apply below_alloc | apply below_drew1 | apply pw_below_drewN))) hk; omega); (case aO => exact Kd.R_below (Kd.R_below HR.out HB6.out) (by repeat (first | exact Below.refl _ _ | apply below_alloc | apply below_drew1 | apply pw_below_drewN))); (case aB => exact grew_trans (grew_trans HB.out HB6.out) (by repeat (first | exact Below.refl _ _ | apply below_alloc | apply below_drew1 | apply pw_below_drewN))); (case aS => exact (grew_trans (grew_trans HB.out HB6.out) (by repeat (first | exact Below.refl _ _ | apply below_alloc | apply below_drew1 | apply pw_below_drewN))).size); (case aL => omega); intro v7 w7 hO7 hB7 hg7 hat7; obtain ⟨A7, c7, e7⟩ := Kd.R_slice hO7; rw [show (acc ++ [s]).length = i + 1 from by have h4 := HN4.out; rw [List.length_append, List.length_singleton]; omega] at e7; subst e7; have HG7 := Aside0.mk (show w6.drew.grownBy w7 (Value.slice Ap i cp).ownBlock from hg7); have BK7 := Aside0.mk (blk_grown (g := gs) (blk_drew BKS.out) HG7.out (fun e => by have h1 := HOW.out _ e.symm; have h2 := GSL.out; omega)); obtain ⟨⟨rc0, rf0⟩, ⟨rc1, rf1⟩⟩ := cells2 BK7.out; have HO7 := Aside0.mk hO7; have HB7 := Aside0.mk hB7; clear hO7 hB7 hg7 hat7)
        all_goals
          go_wp2
          go_roundg (st.1.length - (i + 1))
          case measure => omega
          case rel =>
            have hz1 := HK.out.1
            have hz2 := HZ6.out
            have hz7 : w6.heap.size ≤ w7.heap.size := HG7.out.size
            refine ⟨i + 1, acc ++ [s], A7, c7, by omega, by omega, by go_num, ?_, ?_, ⟨HCN.out⟩, ⟨blk_put (cs := #[.slice Ap i cp, .slice none 0 0]) BK7.out 0 _ rfl⟩, ⟨?_⟩, ⟨fun k hk => HO7.out.1 k hk⟩, ⟨?_⟩, ⟨below_set HB7.out (Nat.le_trans HBw1.out.size GEgs.out)⟩⟩
            · rw [nlin_append, nlin_one]; go_num
            · rw [tots_append, tots_one]
              congr 1
              omega
            · exact Kd.R_far HO7.out (fun k hk => by have h1 : w3.heap.size ≤ k := hk; have h2 := GSL.out; show k ≠ gs; omega) _
            · exact ⟨by simp [World.setCell]; omega, fun k hk hne => (Below.heap_setCell w7 ⟨gs, 0, none⟩ _ k hne).trans ((HG7.out.block k (show k < w6.heap.size from by omega) (fun e => by have h1 := HOW.out _ e.symm; omega)).trans ((HB6.out.block k (by omega)).trans (HK.out.2 k hk hne)))⟩
    · have hltz : ¬ (i : Int) < (st.1.length : Int) := by omega
      obtain rfl : i = st.1.length := by omega
      have hC := HC.out
      rw [List.take_length] at hC
      have HC9 := Aside0.mk hC
      have HSA := Aside0.mk (segs_all (st := st) hC)
      have BP9 := Aside0.mk (blk_kept BKgp.out HK.out NEP.out)
      clear hC HC
      obtain ⟨⟨p0, p0f⟩, ⟨p1, p1f⟩⟩ := cells2 BP9.out
      have hct := HCT.out wr HB.out
      cases hp : plain st.2 with
      | false =>
        rw [hp] at hct
        have HNO := Aside0.mk (show segsOf st = none from by rw [HSA.out, if_neg (fun h => by rw [hp] at h; exact Bool.noConfusion h.1)])
        clear hp
        go_wp2_with (go_at_call 172; refine hct.mono ?_; rintro e w8 ⟨rfl, hb8⟩)
        go_ret2
        exact ⟨got_none HNO.out rfl, grew_trans HB.out hb8⟩
      | true =>
        rw [hp] at hct
        have HP := Aside0.mk hp
        clear hp
        have ARMC := True.intro
        by_cases hlen : nlin acc + st.2.length ≤ 1000
        case neg =>
          have hlz : ¬ (((nlin acc : Nat) : Int) + (st.2.length : Int) ≤ 1000) := by omega
          have HNO := Aside0.mk (show segsOf st = none from by rw [HSA.out, if_neg (fun h => hlen h.2.1)])
          go_wp2_with (go_at_call 172; refine hct.mono ?_; rintro e w8 ⟨rfl, hb8⟩; have HB8 := Aside0.mk hb8; obtain ⟨⟨t0, t0f⟩, ⟨t1, t1f⟩⟩ := cells2 (blk_below BP9.out hb8); clear hb8)
          go_ret2
          exact ⟨got_none HNO.out rfl, grew_trans HB.out HB8.out⟩
        case pos =>
          have hlz : ((nlin acc : Nat) : Int) + (st.2.length : Int) ≤ 1000 := by omega
          by_cases htot : tots acc + totalB st.2 ≤ 20000
          case neg =>
            have htz : ¬ (((tots acc : Nat) : Int) + (totalB st.2 : Int) ≤ 20000) := by omega
            have HNO := Aside0.mk (show segsOf st = none from by rw [HSA.out, if_neg (fun h => htot h.2.2)])
            go_wp2_with (go_at_call 172; refine hct.mono ?_; rintro e w8 ⟨rfl, hb8⟩; have HB8 := Aside0.mk hb8; obtain ⟨⟨t0, t0f⟩, ⟨t1, t1f⟩⟩ := cells2 (blk_below BP9.out hb8); clear hb8)
            go_ret2
            exact ⟨got_none HNO.out rfl, grew_trans HB.out HB8.out⟩
          case pos =>
            have htz : ((tots acc : Nat) : Int) + (totalB st.2 : Int) ≤ 20000 := by omega
            have HYES := Aside0.mk (show segsOf st = some acc from by rw [HSA.out, if_pos ⟨HP.out, hlen, htot⟩])
            go_wp2_with (first | (go_at_call 172; refine hct.mono ?_; rintro e w8 ⟨rfl, hb8⟩; have HB8 := Aside0.mk hb8; obtain ⟨⟨t0, t0f⟩, ⟨t1, t1f⟩⟩ := cells2 (blk_below BP9.out hb8); clear hb8) | (go_at_call 95; refine (HCP.out _ (grew_trans HB.out HB8.out)).mono ?_; rintro e w9 ⟨v9, rfl, hS9, hb9⟩; obtain ⟨Ao, co, rfl⟩ := Kd.S_slice hS9; have BK9 := Aside0.mk (blk_below (blk_below HG.out HB8.out) hb9); obtain ⟨⟨s0, s0f⟩, ⟨s1, s1f⟩⟩ := cells2 BK9.out; have HS9 := Aside0.mk hS9; have HB9 := Aside0.mk hb9; clear hS9 hb9))
            go_ret2
            have hz8 := HB8.out.size
            have hz9 := HB9.out.size
            have hz := HB.out.size
            have hzk := HK.out.1
            have hgs := GSL.out
            refine ⟨?_, below_set (grew_trans (grew_trans HB.out HB8.out) HB9.out) (Nat.le_trans HBw1.out.size GEgs.out)⟩
            unfold Got
            rw [HYES.out, ← HN4.out]
            rw [← HN4.out] at BK9
            refine ⟨gs, Ap, cp, Ao, co, w8.heap.size, rfl, blk_put (cs := #[.slice Ap acc.length cp, .slice none 0 0]) BK9.out 1 _ rfl, Nat.le_trans HBw1.out.size GEgs.out, by omega, by simp [World.setCell]; omega, ?_, ?_⟩
            · have hR := HR.out
              rw [← HN4.out] at hR
              exact Kd.R_far (Kd.R_mono (Kd.R_below (Kd.R_below (Kd.R_bound hR) HB8.out) HB9.out) (fun k hk => by have h1 : w3.heap.size ≤ k := hk.1; have h2 := hk.2.2.1; exact ⟨by omega, by omega⟩)) (fun k hk => by have h1 := hk.1; show k ≠ gs; omega) _
            · exact Ty.M_set (T := HelpBB.tBB) (HelpBB.tBB.M_mono (fun k hk => hk.2.1) (HelpBB.tBB.M_lower (by omega) (HelpBB.tBB.M_bound HS9.out))) (fun k hk e => by have h1 : w8.heap.size ≤ k := hk; omega) _
end Go.Proofs.Ytmgmdnmfalepkaa.Sto
