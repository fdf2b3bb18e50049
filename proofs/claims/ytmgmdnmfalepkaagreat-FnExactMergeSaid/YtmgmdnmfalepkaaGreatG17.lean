/- Parts of the proof (see the row's own text): Mrg. -/
import Derived.Test.YtmgmdnmfalepkaaGreatG00
import Derived.Test.YtmgmdnmfalepkaaGreatG16
import Derived.Deep.RegionHeld3
namespace Go.Proofs.YtmgmdnmfalepkaaGreat.Mrg
open Go.RowKit Go.Proofs.YtmgmdnmfalepkaaGreatW.PrintWords Go.Proofs.YtmgmdnmfalepkaaGreatW.PrintMore Go.Proofs.YtmgmdnmfalepkaaGreat.Kit Go.Proofs.YtmgmdnmfalepkaaGreat.PKit Go.Proofs.YtmgmdnmfalepkaaGreat.Ty Go.Proofs.YtmgmdnmfalepkaaGreat.PSeg Go.Proofs.YtmgmdnmfalepkaaGreat.PEnc Go.Proofs.YtmgmdnmfalepkaaGreat.Build Go.Proofs.YtmgmdnmfalepkaaGreat.HelpBB Go.Proofs.YtmgmdnmfalepkaaGreat.HelpSeg Go.Proofs.YtmgmdnmfalepkaaGreat.Far
set_option linter.unusedVariables false
set_option linter.unusedSimpArgs false
theorem segOk' (x : SegT) (v : Value) (w : World) (h : tSeg.K w x v) (s : HelpSeg.smallSeg x) (hb : Bytes x.2.1) :
  Calls Tryz.prog 82 #[v] w fun e w' => e = .returned (.bool (valid x)) ∧ Below w.heap.size w w' := by
 obtain ⟨p1, p2, p3⟩ := small_parts' s
 obtain ⟨A1, c1, A2, c2, A3, c3, rfl⟩ := HelpSeg.form h
 obtain ⟨k1, k2, k3⟩ := seg_parts h
 exact SegOk.segOk_calls x.1 x.2.1 x.2.2.1 x.2.2.2 A1 A2 A3 c1 c2 c3 w k1 k2 k3 hb p1 p2 p3
theorem fits_merge {a b : SegT} (ha : fits a.1 a.2.1 = true) (hb : fits b.1 b.2.1 = true) (h : b.1 = a.1 + (a.2.1.length : Int)) (ht : totalB a.2.1 + totalB b.2.1 ≤ 20000) : fits a.1 (a.2.1 ++ b.2.1) = true := by
 obtain ⟨a1, a2, a3, a4, a5, a6⟩ := fits_parts ha
 obtain ⟨b1, b2, b3, b4, b5, b6⟩ := fits_parts hb
 unfold fits
 simp only [Bool.and_eq_true, decide_eq_true_eq]
 rw [List.length_append, total_append]
 refine ⟨⟨⟨⟨⟨a1, a2⟩, zq1⟩, zq1⟩, ?_⟩, ht⟩
 unfold plain at a5 b5 ⊢
 rw [List.all_append, a5, b5]
 rfl
theorem build_n (b : Int) (A : Option Addr) (n c : Nat) (ls : List (List Int)) (hn : n = ls.length) (w : World) (hr : Kd.C kB w A ls.length ls) (hc : ls.length ≤ c) (hb : Bytes ls) (hs : smallBB ls) (hf : fits b ls = true) :
  Calls Tryz.prog 83 #[.int .i64 b, .slice A n c] w fun e w' => ∃ (A1 : Option Addr) (c1 : Nat) (A2 : Option Addr) (c2 : Nat) (A3 : Option Addr) (c3 : Nat), e = .returned (.tuple #[.agg #[.int .i64 b, .slice A1 n c1, .slice A2 (keys ls).length c2, .slice A3 (keys ls).length c3], .int .i64 0]) ∧ tSeg.M w' w.heap.size (fun _ => True) (seg b ls) (.agg #[.int .i64 b, .slice A1 n c1, .slice A2 (keys ls).length c2, .slice A3 (keys ls).length c3]) ∧ Grew w w' := by
 subst hn
 have e0 : build b ls = (seg b ls, 0) := by unfold build; rw [hf]; rfl
 have h := build_calls b A c ls w hr hc hb hs
 rw [e0] at h
 refine h.mono ?_
 rintro e w' ⟨v, rfl, hM, hg⟩
 obtain ⟨A1, c1, A2, c2, A3, c3, ev⟩ := HelpSeg.form (tSeg.K_of_M hM)
 have ev : v = .agg #[.int .i64 b, .slice A1 ls.length c1, .slice A2 (keys ls).length c2, .slice A3 ((keys ls).map (post b ls ls.length)).length c3] := ev
 rw [List.length_map] at ev
 subst ev
 exact ⟨A1, c1, A2, c2, A3, c3, rfl, hM, hg⟩
set_option maxRecDepth 100000 in
set_option maxHeartbeats 16000000 in
theorem implC (a b : SegT) (va vb : Value) (w : World) (ha : tSeg.K w a va) (hb : tSeg.K w b vb) (sa : HelpSeg.smallSeg a) (sb : HelpSeg.smallSeg b) (ya : Bytes a.2.1) (yb : Bytes b.2.1) :
  Calls Tryz.prog 61 #[va, vb] w fun e w' => ∃ v', e = .returned (.tuple #[v', .int .i64 (mrg a b).2]) ∧ tSeg.M w' w.heap.size (fun _ => True) (mrg a b).1 v' ∧ Grew w w' := by
 have huI := Tryz.underlying59
 have hva := fun (W : World) (hW : Below w.heap.size w W) => segOk' a va W (tSeg.K_below hW ha) sa ya
 have hvb := fun (W : World) (hW : Below w.heap.size w W) => segOk' b vb W (tSeg.K_below hW hb) sb yb
 obtain ⟨A1a, c1a, A2a, c2a, A3a, c3a, ea⟩ := HelpSeg.form ha
 subst ea
 obtain ⟨k1a, k2a, k3a⟩ := seg_parts ha
 obtain ⟨B1a, d1a, e1a, q1a, r1a⟩ := k1a
 obtain ⟨rfl, rfl⟩ : A1a = B1a ∧ c1a = d1a := by injection e1a with x1 x2 x3; exact ⟨x1, x3⟩
 have k1a : HelpBB.tBB.K w a.2.1 (.slice A1a a.2.1.length c1a) := ⟨A1a, c1a, rfl, q1a, r1a⟩
 have C1a := zA r1a
 clear e1a q1a r1a
 have K1a := zA k1a
 have K2a := zA k2a
 have K3a := zA k3a
 clear k1a k2a k3a
 obtain ⟨A1b, c1b, A2b, c2b, A3b, c3b, eb⟩ := HelpSeg.form hb
 subst eb
 obtain ⟨k1b, k2b, k3b⟩ := seg_parts hb
 obtain ⟨B1b, d1b, e1b, q1b, r1b⟩ := k1b
 obtain ⟨rfl, rfl⟩ : A1b = B1b ∧ c1b = d1b := by injection e1b with x1 x2 x3; exact ⟨x1, x3⟩
 have k1b : HelpBB.tBB.K w b.2.1 (.slice A1b b.2.1.length c1b) := ⟨A1b, c1b, rfl, q1b, r1b⟩
 have C1b := zA r1b
 clear e1b q1b r1b
 have K1b := zA k1b
 have K2b := zA k2b
 have K3b := zA k3b
 clear k1b k2b k3b
 clear ha hb
 obtain ⟨pa1, pa2, pa3⟩ := small_parts' sa
 obtain ⟨pb1, pb2, pb3⟩ := small_parts' sb
 have pa1 : a.2.1.length + totalB a.2.1 ≤ 1048576 := pa1
 have pb1 : b.2.1.length + totalB b.2.1 ≤ 1048576 := pb1
 have HVA := zA hva
 have HVB := zA hvb
 have HYA := zA ya
 have HYB := zA yb
 clear hva hvb sa sb pa2 pa3 pb2 pb3 ya yb
 cases xa : valid a with
 | false =>
  have HXA := zA xa
  clear xa
  go_enter Tryz.func61, Tryz.ntmps61
  go_wp2_with (first | ((with_reducible refine gate_dst (N := 2) rfl ?_); refine box_event ?hg (N := 2) ?hd (cs := #[.int .i64 a.1, .slice A1a a.2.1.length c1a, .slice A2a a.2.2.1.length c2a, .slice A3a a.2.2.2.length c3a]) (t := 59) ?hr ?_; (case hd => rfl); (case hg => rfl); (case hr => first | (go_simp; done) | (go_simp; rfl)); intro ga hg_ w1 hbx hbb; have BKga := zA hbx; have GEga := zA (show w.heap.size ≤ ga from Nat.le_of_eq hg_.symm); have GLga := zA (blk_lt hbx); have HBw1 := zA hbb; clear hg_ hbb; obtain ⟨⟨hgac0, hgaf0⟩, ⟨hgac1, hgaf1⟩, ⟨hgac2, hgaf2⟩, ⟨hgac3, hgaf3⟩⟩ := cells4 hbx; clear hbx) | ((with_reducible refine gate_dst (N := 3) rfl ?_); refine box_event ?hg (N := 3) ?hd (cs := #[.int .i64 b.1, .slice A1b b.2.1.length c1b, .slice A2b b.2.2.1.length c2b, .slice A3b b.2.2.2.length c3b]) (t := 59) ?hr ?_; (case hd => rfl); (case hg => rfl); (case hr => first | (go_simp; done) | (go_simp; rfl)); intro gb hg_ w2 hbx hbb; have BKgb := zA hbx; have GEgb := zA (show w1.heap.size ≤ gb from Nat.le_of_eq hg_.symm); have GLgb := zA (blk_lt hbx); have HBw2 := zA hbb; clear hg_ hbb; obtain ⟨⟨hgbc0, hgbf0⟩, ⟨hgbc1, hgbf1⟩, ⟨hgbc2, hgbf2⟩, ⟨hgbc3, hgbf3⟩⟩ := cells4 hbx; clear hbx; have n_ := zA (blk_below (g := ga) BKga.out HBw2.out); clear BKga hgac0 hgaf0 hgac1 hgaf1 hgac2 hgaf2 hgac3 hgaf3; have BKga := n_; clear n_) | ((with_reducible refine gate_dst (N := 4) rfl ?_); refine box_event ?hg (N := 4) ?hd (cs := #[.int .i64 0, .slice none 0 0, .slice none 0 0, .slice none 0 0]) (t := 59) ?hr ?_; (case hd => rfl); (case hg => rfl); (case hr => first | (go_simp; done) | (go_simp; rfl)); intro gr hg_ w3 hbx hbb; have BKgr := zA hbx; have GEgr := zA (show w2.heap.size ≤ gr from Nat.le_of_eq hg_.symm); have GLgr := zA (blk_lt hbx); have HBw3 := zA hbb; clear hg_ hbb; obtain ⟨⟨hgrc0, hgrf0⟩, ⟨hgrc1, hgrf1⟩, ⟨hgrc2, hgrf2⟩, ⟨hgrc3, hgrf3⟩⟩ := cells4 hbx; clear hbx; have n_ := zA (blk_below (g := ga) BKga.out HBw3.out); clear BKga; have BKga := n_; clear n_; have n_ := zA (blk_below (g := gb) BKgb.out HBw3.out); clear BKgb hgbc0 hgbf0 hgbc1 hgbf1 hgbc2 hgbf2 hgbc3 hgbf3; have BKgb := n_; clear n_; have HG3 := zA (show Below w.heap.size w w3 from grew_trans (grew_trans HBw1.out HBw2.out) HBw3.out); obtain ⟨⟨x0c0, x0f0⟩, ⟨x0c1, x0f1⟩, ⟨x0c2, x0f2⟩, ⟨x0c3, x0f3⟩⟩ := cells4 BKga.out; obtain ⟨⟨y0c0, y0f0⟩, ⟨y0c1, y0f1⟩, ⟨y0c2, y0f2⟩, ⟨y0c3, y0f3⟩⟩ := cells4 BKgb.out; have GEr := zA (show w.heap.size ≤ gr from Nat.le_trans (grew_trans HBw1.out HBw2.out).size GEgr.out)))
  have HKP := zA (show ∀ W : World, W.heap[ga]? = some (.cells #[.int .i64 a.1, .slice A1a a.2.1.length c1a, .slice A2a a.2.2.1.length c2a, .slice A3a a.2.2.2.length c3a] 59 (0, 0)) → W.heap[gb]? = some (.cells #[.int .i64 b.1, .slice A1b b.2.1.length c1b, .slice A2b b.2.2.1.length c2b, .slice A3b b.2.2.2.length c3b] 59 (0, 0)) → (W.cell? ⟨ga, 0, none⟩ = some (.int .i64 a.1) ∧ W.cell? ⟨ga, 1, none⟩ = some (.slice A1a a.2.1.length c1a) ∧ W.cell? ⟨ga, 2, none⟩ = some (.slice A2a a.2.2.1.length c2a) ∧ W.cell? ⟨ga, 3, none⟩ = some (.slice A3a a.2.2.2.length c3a) ∧ W.cell? ⟨gb, 0, none⟩ = some (.int .i64 b.1) ∧ W.cell? ⟨gb, 1, none⟩ = some (.slice A1b b.2.1.length c1b) ∧ W.cell? ⟨gb, 2, none⟩ = some (.slice A2b b.2.2.1.length c2b) ∧ W.cell? ⟨gb, 3, none⟩ = some (.slice A3b b.2.2.2.length c3b) ∧ W.frozen? ⟨ga, 0, none⟩ = false ∧ W.frozen? ⟨ga, 1, none⟩ = false ∧ W.frozen? ⟨ga, 2, none⟩ = false ∧ W.frozen? ⟨ga, 3, none⟩ = false ∧ W.frozen? ⟨gb, 0, none⟩ = false ∧ W.frozen? ⟨gb, 1, none⟩ = false ∧ W.frozen? ⟨gb, 2, none⟩ = false ∧ W.frozen? ⟨gb, 3, none⟩ = false) from fun W h1 h2 => ⟨(blk_cell h1 0).trans rfl, (blk_cell h1 1).trans rfl, (blk_cell h1 2).trans rfl, (blk_cell h1 3).trans rfl, (blk_cell h2 0).trans rfl, (blk_cell h2 1).trans rfl, (blk_cell h2 2).trans rfl, (blk_cell h2 3).trans rfl, blk_frozen h1 0, blk_frozen h1 1, blk_frozen h1 2, blk_frozen h1 3, blk_frozen h2 0, blk_frozen h2 1, blk_frozen h2 2, blk_frozen h2 3⟩)
  have NEa := zA (show ga ≠ gr from fun e => by have h1 := GLga.out; have h2 := GEgb.out; have h3 := HBw2.out.size; have h4 := GEgr.out; omega)
  have NEb := zA (show gb ≠ gr from fun e => by have h1 := GLgb.out; have h4 := GEgr.out; omega)
  clear x0c0 x0f0 x0c1 x0f1 x0c2 x0f2 x0c3 x0f3 y0c0 y0f0 y0c1 y0f1 y0c2 y0f2 y0c3 y0f3 hgrc0 hgrf0 hgrc1 hgrf1 hgrc2 hgrf2 hgrc3 hgrf3
  refine wp_region_held_drew (S := (fun W_ => W_.cell? ⟨ga, 0, none⟩ = some (.int .i64 a.1) ∧ W_.cell? ⟨ga, 1, none⟩ = some (.slice A1a a.2.1.length c1a) ∧ W_.cell? ⟨ga, 2, none⟩ = some (.slice A2a a.2.2.1.length c2a) ∧ W_.cell? ⟨ga, 3, none⟩ = some (.slice A3a a.2.2.2.length c3a) ∧ W_.cell? ⟨gb, 0, none⟩ = some (.int .i64 b.1) ∧ W_.cell? ⟨gb, 1, none⟩ = some (.slice A1b b.2.1.length c1b) ∧ W_.cell? ⟨gb, 2, none⟩ = some (.slice A2b b.2.2.1.length c2b) ∧ W_.cell? ⟨gb, 3, none⟩ = some (.slice A3b b.2.2.2.length c3b) ∧ W_.frozen? ⟨ga, 0, none⟩ = false ∧ W_.frozen? ⟨ga, 1, none⟩ = false ∧ W_.frozen? ⟨ga, 2, none⟩ = false ∧ W_.frozen? ⟨ga, 3, none⟩ = false ∧ W_.frozen? ⟨gb, 0, none⟩ = false ∧ W_.frozen? ⟨gb, 1, none⟩ = false ∧ W_.frozen? ⟨gb, 2, none⟩ = false ∧ W_.frozen? ⟨gb, 3, none⟩ = false)) zq5 (by (try dsimp only); (refine HKP.out _ ?_ ?_ <;> (repeat (with_reducible first | exact BKga.out | exact BKgb.out | refine blk_alloc ?_ _ | refine blk_drew ?_ | refine blk_drewN ?_ _ | refine blk_far ?_ NEa.out _ | refine blk_far ?_ NEb.out _)))) (fun hHeld => ?_)
  refine wpAnyH_take (i := 0) (v := ?_) rfl zq5 zq5 zq5 (fun _ _ _ h => h) (Or.inl ⟨zq16, ?_⟩) hHeld ?_
  rotate_left
  ·intro w_ hSw; (try dsimp only at hSw); go_simp; try with_reducible rfl
  simp only [Act.put, List.setIfInBounds_toArray, List.set_cons_zero, List.set_cons_succ, List.getElem_toArray, List.getElem_cons_zero, List.getElem_cons_succ, Array.getInternal_eq_getElem]
  refine wpAnyH_ready (rs := [1]) zq5 zq12 ?_
  refine AllReadyH.cons rfl (fun K hK => ?_) AllReadyH.nil
  simp only [List.getElem_toArray, List.getElem_cons_zero, List.getElem_cons_succ, Array.getInternal_eq_getElem]
  go_simp
  go_at_call 82; (with_reducible refine (HVA.out _ ?hw4_).mono ?_); (case hw4_ => repeat (first | exact HG3.out | exact Below.refl _ _ | apply below_alloc | apply below_drew1 | apply pw_below_drewN)); rintro e w4 ⟨rfl, hb_⟩; have hq_ : Below w3.heap.size w3 w4 := grew_trans zq19 hb_; have HG4 := zA (show Below w.heap.size w w4 from grew_trans HG3.out hq_); replace BKga := zA (blk_below BKga.out hq_); replace BKgb := zA (blk_below BKgb.out hq_); replace BKgr := zA (blk_below BKgr.out hq_); rw [HXA.out]; clear hb_ hq_
  go_wp2_with fail
  clear hHeld
  refine hK.out _ _ (by (try dsimp only); (refine HKP.out _ ?_ ?_ <;> (repeat (with_reducible first | exact BKga.out | exact BKgb.out | refine blk_alloc ?_ _ | refine blk_drew ?_ | refine blk_drewN ?_ _ | refine blk_far ?_ NEa.out _ | refine blk_far ?_ NEb.out _)))) (fun hHeld => ?_)
  clear hK K
  (try simp only [Act.put, List.setIfInBounds_toArray, List.set_cons_zero, List.set_cons_succ, List.getElem_toArray, List.getElem_cons_zero, List.getElem_cons_succ, Array.getInternal_eq_getElem])
  refine wpAnyH_take (i := 2) (v := ?_) rfl zq5 zq5 zq5 (fun _ _ _ h => h) (Or.inl ⟨zq16, ?_⟩) hHeld ?_
  rotate_left
  ·intro w_ hSw; (try dsimp only at hSw); go_simp; try with_reducible rfl
  simp only [Act.put, List.setIfInBounds_toArray, List.set_cons_zero, List.set_cons_succ, List.getElem_toArray, List.getElem_cons_zero, List.getElem_cons_succ, Array.getInternal_eq_getElem]
  refine wpAnyH_take (i := 3) (v := ?_) rfl zq5 zq5 zq5 (fun _ _ _ h => h) (Or.inl ⟨zq16, ?_⟩) hHeld ?_
  rotate_left
  ·intro w_ hSw; (try dsimp only at hSw); go_simp; try with_reducible rfl
  simp only [Act.put, List.setIfInBounds_toArray, List.set_cons_zero, List.set_cons_succ, List.getElem_toArray, List.getElem_cons_zero, List.getElem_cons_succ, Array.getInternal_eq_getElem]
  refine wpAnyH_take (i := 4) (v := undef) rfl zq5 zq5 zq5 (fun _ _ _ h => h) (Or.inr ⟨zq16, rfl⟩) hHeld ?_
  simp only [Act.put, List.setIfInBounds_toArray, List.set_cons_zero, List.set_cons_succ, List.getElem_toArray, List.getElem_cons_zero, List.getElem_cons_succ, Array.getInternal_eq_getElem]
  refine wpAnyH_take (i := 5) (v := undef) rfl zq5 zq5 zq5 (fun _ _ _ h => h) (Or.inr ⟨zq16, rfl⟩) hHeld ?_
  simp only [Act.put, List.setIfInBounds_toArray, List.set_cons_zero, List.set_cons_succ, List.getElem_toArray, List.getElem_cons_zero, List.getElem_cons_succ, Array.getInternal_eq_getElem]
  refine wpAnyH_take (i := 6) (v := undef) rfl zq5 zq5 zq5 (fun _ _ _ h => h) (Or.inr ⟨zq16, rfl⟩) hHeld ?_
  simp only [Act.put, List.setIfInBounds_toArray, List.set_cons_zero, List.set_cons_succ, List.getElem_toArray, List.getElem_cons_zero, List.getElem_cons_succ, Array.getInternal_eq_getElem]
  refine wpAnyH_take (i := 7) (v := ?_) rfl zq5 zq5 zq5 (fun _ _ _ h => h) (Or.inl ⟨zq16, ?_⟩) hHeld ?_
  rotate_left
  ·intro w_ hSw; (try dsimp only at hSw); go_simp; try with_reducible rfl
  simp only [Act.put, List.setIfInBounds_toArray, List.set_cons_zero, List.set_cons_succ, List.getElem_toArray, List.getElem_cons_zero, List.getElem_cons_succ, Array.getInternal_eq_getElem]
  refine wpAnyH_take (i := 8) (v := ?_) rfl zq5 zq5 zq5 (fun _ _ _ h => h) (Or.inl ⟨zq16, ?_⟩) hHeld ?_
  rotate_left
  ·intro w_ hSw; (try dsimp only at hSw); go_simp; try with_reducible rfl
  simp only [Act.put, List.setIfInBounds_toArray, List.set_cons_zero, List.set_cons_succ, List.getElem_toArray, List.getElem_cons_zero, List.getElem_cons_succ, Array.getInternal_eq_getElem]
  refine wpAnyH_take (i := 9) (v := undef) rfl zq5 zq5 zq5 (fun _ _ _ h => h) (Or.inr ⟨zq16, rfl⟩) hHeld ?_
  simp only [Act.put, List.setIfInBounds_toArray, List.set_cons_zero, List.set_cons_succ, List.getElem_toArray, List.getElem_cons_zero, List.getElem_cons_succ, Array.getInternal_eq_getElem]
  refine wpAnyH_take (i := 10) (v := undef) rfl zq5 zq5 zq5 (fun _ _ _ h => h) (Or.inr ⟨zq16, rfl⟩) hHeld ?_
  simp only [Act.put, List.setIfInBounds_toArray, List.set_cons_zero, List.set_cons_succ, List.getElem_toArray, List.getElem_cons_zero, List.getElem_cons_succ, Array.getInternal_eq_getElem]
  refine wpAnyH_take (i := 11) (v := undef) rfl zq5 zq5 zq5 (fun _ _ _ h => h) (Or.inr ⟨zq16, rfl⟩) hHeld ?_
  simp only [Act.put, List.setIfInBounds_toArray, List.set_cons_zero, List.set_cons_succ, List.getElem_toArray, List.getElem_cons_zero, List.getElem_cons_succ, Array.getInternal_eq_getElem]
  refine wpAnyH_take (i := 12) (v := undef) rfl zq5 zq5 zq5 (fun _ _ _ h => h) (Or.inr ⟨zq16, rfl⟩) hHeld ?_
  simp only [Act.put, List.setIfInBounds_toArray, List.set_cons_zero, List.set_cons_succ, List.getElem_toArray, List.getElem_cons_zero, List.getElem_cons_succ, Array.getInternal_eq_getElem]
  refine wpAnyH_take (i := 13) (v := undef) rfl zq5 zq5 zq5 (fun _ _ _ h => h) (Or.inr ⟨zq16, rfl⟩) hHeld ?_
  simp only [Act.put, List.setIfInBounds_toArray, List.set_cons_zero, List.set_cons_succ, List.getElem_toArray, List.getElem_cons_zero, List.getElem_cons_succ, Array.getInternal_eq_getElem]
  refine wpAnyH_take (i := 14) (v := undef) rfl zq5 zq5 zq5 (fun _ _ _ h => h) (Or.inr ⟨zq16, rfl⟩) hHeld ?_
  simp only [Act.put, List.setIfInBounds_toArray, List.set_cons_zero, List.set_cons_succ, List.getElem_toArray, List.getElem_cons_zero, List.getElem_cons_succ, Array.getInternal_eq_getElem]
  refine wpAnyH_take (i := 15) (v := undef) rfl zq5 zq5 zq5 (fun _ _ _ h => h) (Or.inr ⟨zq16, rfl⟩) hHeld ?_
  simp only [Act.put, List.setIfInBounds_toArray, List.set_cons_zero, List.set_cons_succ, List.getElem_toArray, List.getElem_cons_zero, List.getElem_cons_succ, Array.getInternal_eq_getElem]
  refine wpAnyH_take (i := 16) (v := undef) rfl zq5 zq5 zq5 (fun _ _ _ h => h) (Or.inr ⟨zq16, rfl⟩) hHeld ?_
  simp only [Act.put, List.setIfInBounds_toArray, List.set_cons_zero, List.set_cons_succ, List.getElem_toArray, List.getElem_cons_zero, List.getElem_cons_succ, Array.getInternal_eq_getElem]
  refine wpAnyH_take (i := 17) (v := undef) rfl zq5 zq5 zq5 (fun _ _ _ h => h) (Or.inr ⟨zq16, rfl⟩) hHeld ?_
  simp only [Act.put, List.setIfInBounds_toArray, List.set_cons_zero, List.set_cons_succ, List.getElem_toArray, List.getElem_cons_zero, List.getElem_cons_succ, Array.getInternal_eq_getElem]
  refine wpAnyH_take (i := 18) (v := ?_) rfl zq5 zq5 zq5 (fun _ _ _ h => h) (Or.inl ⟨zq16, ?_⟩) hHeld ?_
  rotate_left
  ·intro w_ hSw; (try dsimp only at hSw); go_simp; try with_reducible rfl
  simp only [Act.put, List.setIfInBounds_toArray, List.set_cons_zero, List.set_cons_succ, List.getElem_toArray, List.getElem_cons_zero, List.getElem_cons_succ, Array.getInternal_eq_getElem]
  refine wpAnyH_take (i := 19) (v := ?_) rfl zq5 zq5 zq5 (fun _ _ _ h => h) (Or.inl ⟨zq16, ?_⟩) hHeld ?_
  rotate_left
  ·intro w_ hSw; (try dsimp only at hSw); go_simp; try with_reducible rfl
  simp only [Act.put, List.setIfInBounds_toArray, List.set_cons_zero, List.set_cons_succ, List.getElem_toArray, List.getElem_cons_zero, List.getElem_cons_succ, Array.getInternal_eq_getElem]
  refine wpAnyH_take (i := 20) (v := undef) rfl zq5 zq5 zq5 (fun _ _ _ h => h) (Or.inr ⟨zq16, rfl⟩) hHeld ?_
  simp only [Act.put, List.setIfInBounds_toArray, List.set_cons_zero, List.set_cons_succ, List.getElem_toArray, List.getElem_cons_zero, List.getElem_cons_succ, Array.getInternal_eq_getElem]
  refine wpAnyH_take (i := 21) (v := undef) rfl zq5 zq5 zq5 (fun _ _ _ h => h) (Or.inr ⟨zq16, rfl⟩) hHeld ?_
  simp only [Act.put, List.setIfInBounds_toArray, List.set_cons_zero, List.set_cons_succ, List.getElem_toArray, List.getElem_cons_zero, List.getElem_cons_succ, Array.getInternal_eq_getElem]
  refine wpAnyH_take (i := 22) (v := undef) rfl zq5 zq5 zq5 (fun _ _ _ h => h) (Or.inr ⟨zq16, rfl⟩) hHeld ?_
  simp only [Act.put, List.setIfInBounds_toArray, List.set_cons_zero, List.set_cons_succ, List.getElem_toArray, List.getElem_cons_zero, List.getElem_cons_succ, Array.getInternal_eq_getElem]
  refine wpAnyH_take (i := 23) (v := undef) rfl zq5 zq5 zq5 (fun _ _ _ h => h) (Or.inr ⟨zq16, rfl⟩) hHeld ?_
  simp only [Act.put, List.setIfInBounds_toArray, List.set_cons_zero, List.set_cons_succ, List.getElem_toArray, List.getElem_cons_zero, List.getElem_cons_succ, Array.getInternal_eq_getElem]
  refine wpAnyH_take (i := 24) (v := undef) rfl zq5 zq5 zq5 (fun _ _ _ h => h) (Or.inr ⟨zq16, rfl⟩) hHeld ?_
  simp only [Act.put, List.setIfInBounds_toArray, List.set_cons_zero, List.set_cons_succ, List.getElem_toArray, List.getElem_cons_zero, List.getElem_cons_succ, Array.getInternal_eq_getElem]
  refine wpAnyH_take (i := 25) (v := undef) rfl zq5 zq5 zq5 (fun _ _ _ h => h) (Or.inr ⟨zq16, rfl⟩) hHeld ?_
  simp only [Act.put, List.setIfInBounds_toArray, List.set_cons_zero, List.set_cons_succ, List.getElem_toArray, List.getElem_cons_zero, List.getElem_cons_succ, Array.getInternal_eq_getElem]
  refine wpAnyH_take (i := 26) (v := undef) rfl zq5 zq5 zq5 (fun _ _ _ h => h) (Or.inr ⟨zq16, rfl⟩) hHeld ?_
  simp only [Act.put, List.setIfInBounds_toArray, List.set_cons_zero, List.set_cons_succ, List.getElem_toArray, List.getElem_cons_zero, List.getElem_cons_succ, Array.getInternal_eq_getElem]
  refine wpAnyH_take (i := 27) (v := undef) rfl zq5 zq5 zq5 (fun _ _ _ h => h) (Or.inr ⟨zq16, rfl⟩) hHeld ?_
  simp only [Act.put, List.setIfInBounds_toArray, List.set_cons_zero, List.set_cons_succ, List.getElem_toArray, List.getElem_cons_zero, List.getElem_cons_succ, Array.getInternal_eq_getElem]
  refine wpAnyH_take (i := 28) (v := ?_) rfl zq5 zq5 zq5 (fun _ _ _ h => h) (Or.inl ⟨zq16, ?_⟩) hHeld ?_
  rotate_left
  ·intro w_ hSw; (try dsimp only at hSw); go_simp; try with_reducible rfl
  simp only [Act.put, List.setIfInBounds_toArray, List.set_cons_zero, List.set_cons_succ, List.getElem_toArray, List.getElem_cons_zero, List.getElem_cons_succ, Array.getInternal_eq_getElem]
  refine wpAnyH_done zq5 ?_ _
  have BKR := zA BKgr.out
  obtain ⟨⟨zc0, zf0⟩, ⟨zc1, zf1⟩, ⟨zc2, zf2⟩, ⟨zc3, zf3⟩⟩ := cells4 BKR.out
  go_wp2
  refine bodyPost_ret (results_ct rfl _ _ gr 59 #[.int .i64 0, .slice none 0 0, .slice none 0 0, .slice none 0 0] (0, 0) _ rfl (by (with_reducible repeat (first | refine blk_drewN ?_ _ | refine blk_drew ?_ | refine blk_alloc ?_ _)); refine blk_put (cs := #[.int .i64 0, .slice none 0 0, .slice none 0 0, .slice none 0 0]) ?_ 3 _ rfl; (with_reducible repeat (first | refine blk_drewN ?_ _ | refine blk_drew ?_ | refine blk_alloc ?_ _)); refine blk_put (cs := #[.int .i64 0, .slice none 0 0, .slice none 0 0, .slice none 0 0]) ?_ 2 _ rfl; (with_reducible repeat (first | refine blk_drewN ?_ _ | refine blk_drew ?_ | refine blk_alloc ?_ _)); refine blk_put (cs := #[.int .i64 0, .slice none 0 0, .slice none 0 0, .slice none 0 0]) ?_ 1 _ rfl; (with_reducible repeat (first | refine blk_drewN ?_ _ | refine blk_drew ?_ | refine blk_alloc ?_ _)); refine blk_put (cs := #[.int .i64 0, .slice none 0 0, .slice none 0 0, .slice none 0 0]) ?_ 0 _ rfl; (with_reducible repeat (first | refine blk_drewN ?_ _ | refine blk_drew ?_ | refine blk_alloc ?_ _)); exact BKR.out) Tryz.underlying59 rfl zq5) rfl ?_
  rw [mrg_bad (by unfold mrgOk; rw [HXA.out]; rfl)]
  exact ⟨_, rfl, bad_M _ _, below_set (below_set (below_set (below_set (HG4.out) GEr.out) GEr.out) GEr.out) GEr.out⟩
 | true =>
  have HXA := zA xa
  obtain ⟨fa, ea⟩ := valid_seg xa
  obtain ⟨fa1, fa2, fa3, fa4, fa5, fa6⟩ := fits_parts fa
  have HFA := zA fa
  clear fa ea fa5
  cases xb : valid b with
  | false =>
   have HXB := zA xb
   clear xa xb
   go_enter Tryz.func61, Tryz.ntmps61
   go_wp2_with (first | ((with_reducible refine gate_dst (N := 2) rfl ?_); refine box_event ?hg (N := 2) ?hd (cs := #[.int .i64 a.1, .slice A1a a.2.1.length c1a, .slice A2a a.2.2.1.length c2a, .slice A3a a.2.2.2.length c3a]) (t := 59) ?hr ?_; (case hd => rfl); (case hg => rfl); (case hr => first | (go_simp; done) | (go_simp; rfl)); intro ga hg_ w1 hbx hbb; have BKga := zA hbx; have GEga := zA (show w.heap.size ≤ ga from Nat.le_of_eq hg_.symm); have GLga := zA (blk_lt hbx); have HBw1 := zA hbb; clear hg_ hbb; obtain ⟨⟨hgac0, hgaf0⟩, ⟨hgac1, hgaf1⟩, ⟨hgac2, hgaf2⟩, ⟨hgac3, hgaf3⟩⟩ := cells4 hbx; clear hbx) | ((with_reducible refine gate_dst (N := 3) rfl ?_); refine box_event ?hg (N := 3) ?hd (cs := #[.int .i64 b.1, .slice A1b b.2.1.length c1b, .slice A2b b.2.2.1.length c2b, .slice A3b b.2.2.2.length c3b]) (t := 59) ?hr ?_; (case hd => rfl); (case hg => rfl); (case hr => first | (go_simp; done) | (go_simp; rfl)); intro gb hg_ w2 hbx hbb; have BKgb := zA hbx; have GEgb := zA (show w1.heap.size ≤ gb from Nat.le_of_eq hg_.symm); have GLgb := zA (blk_lt hbx); have HBw2 := zA hbb; clear hg_ hbb; obtain ⟨⟨hgbc0, hgbf0⟩, ⟨hgbc1, hgbf1⟩, ⟨hgbc2, hgbf2⟩, ⟨hgbc3, hgbf3⟩⟩ := cells4 hbx; clear hbx; have n_ := zA (blk_below (g := ga) BKga.out HBw2.out); clear BKga hgac0 hgaf0 hgac1 hgaf1 hgac2 hgaf2 hgac3 hgaf3; have BKga := n_; clear n_) | ((with_reducible refine gate_dst (N := 4) rfl ?_); refine box_event ?hg (N := 4) ?hd (cs := #[.int .i64 0, .slice none 0 0, .slice none 0 0, .slice none 0 0]) (t := 59) ?hr ?_; (case hd => rfl); (case hg => rfl); (case hr => first | (go_simp; done) | (go_simp; rfl)); intro gr hg_ w3 hbx hbb; have BKgr := zA hbx; have GEgr := zA (show w2.heap.size ≤ gr from Nat.le_of_eq hg_.symm); have GLgr := zA (blk_lt hbx); have HBw3 := zA hbb; clear hg_ hbb; obtain ⟨⟨hgrc0, hgrf0⟩, ⟨hgrc1, hgrf1⟩, ⟨hgrc2, hgrf2⟩, ⟨hgrc3, hgrf3⟩⟩ := cells4 hbx; clear hbx; have n_ := zA (blk_below (g := ga) BKga.out HBw3.out); clear BKga; have BKga := n_; clear n_; have n_ := zA (blk_below (g := gb) BKgb.out HBw3.out); clear BKgb hgbc0 hgbf0 hgbc1 hgbf1 hgbc2 hgbf2 hgbc3 hgbf3; have BKgb := n_; clear n_; have HG3 := zA (show Below w.heap.size w w3 from grew_trans (grew_trans HBw1.out HBw2.out) HBw3.out); obtain ⟨⟨x0c0, x0f0⟩, ⟨x0c1, x0f1⟩, ⟨x0c2, x0f2⟩, ⟨x0c3, x0f3⟩⟩ := cells4 BKga.out; obtain ⟨⟨y0c0, y0f0⟩, ⟨y0c1, y0f1⟩, ⟨y0c2, y0f2⟩, ⟨y0c3, y0f3⟩⟩ := cells4 BKgb.out; have GEr := zA (show w.heap.size ≤ gr from Nat.le_trans (grew_trans HBw1.out HBw2.out).size GEgr.out)))
   have HKP := zA (show ∀ W : World, W.heap[ga]? = some (.cells #[.int .i64 a.1, .slice A1a a.2.1.length c1a, .slice A2a a.2.2.1.length c2a, .slice A3a a.2.2.2.length c3a] 59 (0, 0)) → W.heap[gb]? = some (.cells #[.int .i64 b.1, .slice A1b b.2.1.length c1b, .slice A2b b.2.2.1.length c2b, .slice A3b b.2.2.2.length c3b] 59 (0, 0)) → (W.cell? ⟨ga, 0, none⟩ = some (.int .i64 a.1) ∧ W.cell? ⟨ga, 1, none⟩ = some (.slice A1a a.2.1.length c1a) ∧ W.cell? ⟨ga, 2, none⟩ = some (.slice A2a a.2.2.1.length c2a) ∧ W.cell? ⟨ga, 3, none⟩ = some (.slice A3a a.2.2.2.length c3a) ∧ W.cell? ⟨gb, 0, none⟩ = some (.int .i64 b.1) ∧ W.cell? ⟨gb, 1, none⟩ = some (.slice A1b b.2.1.length c1b) ∧ W.cell? ⟨gb, 2, none⟩ = some (.slice A2b b.2.2.1.length c2b) ∧ W.cell? ⟨gb, 3, none⟩ = some (.slice A3b b.2.2.2.length c3b) ∧ W.frozen? ⟨ga, 0, none⟩ = false ∧ W.frozen? ⟨ga, 1, none⟩ = false ∧ W.frozen? ⟨ga, 2, none⟩ = false ∧ W.frozen? ⟨ga, 3, none⟩ = false ∧ W.frozen? ⟨gb, 0, none⟩ = false ∧ W.frozen? ⟨gb, 1, none⟩ = false ∧ W.frozen? ⟨gb, 2, none⟩ = false ∧ W.frozen? ⟨gb, 3, none⟩ = false) from fun W h1 h2 => ⟨(blk_cell h1 0).trans rfl, (blk_cell h1 1).trans rfl, (blk_cell h1 2).trans rfl, (blk_cell h1 3).trans rfl, (blk_cell h2 0).trans rfl, (blk_cell h2 1).trans rfl, (blk_cell h2 2).trans rfl, (blk_cell h2 3).trans rfl, blk_frozen h1 0, blk_frozen h1 1, blk_frozen h1 2, blk_frozen h1 3, blk_frozen h2 0, blk_frozen h2 1, blk_frozen h2 2, blk_frozen h2 3⟩)
   have NEa := zA (show ga ≠ gr from fun e => by have h1 := GLga.out; have h2 := GEgb.out; have h3 := HBw2.out.size; have h4 := GEgr.out; omega)
   have NEb := zA (show gb ≠ gr from fun e => by have h1 := GLgb.out; have h4 := GEgr.out; omega)
   clear x0c0 x0f0 x0c1 x0f1 x0c2 x0f2 x0c3 x0f3 y0c0 y0f0 y0c1 y0f1 y0c2 y0f2 y0c3 y0f3 hgrc0 hgrf0 hgrc1 hgrf1 hgrc2 hgrf2 hgrc3 hgrf3
   refine wp_region_held_drew (S := (fun W_ => W_.cell? ⟨ga, 0, none⟩ = some (.int .i64 a.1) ∧ W_.cell? ⟨ga, 1, none⟩ = some (.slice A1a a.2.1.length c1a) ∧ W_.cell? ⟨ga, 2, none⟩ = some (.slice A2a a.2.2.1.length c2a) ∧ W_.cell? ⟨ga, 3, none⟩ = some (.slice A3a a.2.2.2.length c3a) ∧ W_.cell? ⟨gb, 0, none⟩ = some (.int .i64 b.1) ∧ W_.cell? ⟨gb, 1, none⟩ = some (.slice A1b b.2.1.length c1b) ∧ W_.cell? ⟨gb, 2, none⟩ = some (.slice A2b b.2.2.1.length c2b) ∧ W_.cell? ⟨gb, 3, none⟩ = some (.slice A3b b.2.2.2.length c3b) ∧ W_.frozen? ⟨ga, 0, none⟩ = false ∧ W_.frozen? ⟨ga, 1, none⟩ = false ∧ W_.frozen? ⟨ga, 2, none⟩ = false ∧ W_.frozen? ⟨ga, 3, none⟩ = false ∧ W_.frozen? ⟨gb, 0, none⟩ = false ∧ W_.frozen? ⟨gb, 1, none⟩ = false ∧ W_.frozen? ⟨gb, 2, none⟩ = false ∧ W_.frozen? ⟨gb, 3, none⟩ = false)) zq5 (by (try dsimp only); (refine HKP.out _ ?_ ?_ <;> (repeat (with_reducible first | exact BKga.out | exact BKgb.out | refine blk_alloc ?_ _ | refine blk_drew ?_ | refine blk_drewN ?_ _ | refine blk_far ?_ NEa.out _ | refine blk_far ?_ NEb.out _)))) (fun hHeld => ?_)
   refine wpAnyH_take (i := 0) (v := ?_) rfl zq5 zq5 zq5 (fun _ _ _ h => h) (Or.inl ⟨zq16, ?_⟩) hHeld ?_
   rotate_left
   ·intro w_ hSw; (try dsimp only at hSw); go_simp; try with_reducible rfl
   simp only [Act.put, List.setIfInBounds_toArray, List.set_cons_zero, List.set_cons_succ, List.getElem_toArray, List.getElem_cons_zero, List.getElem_cons_succ, Array.getInternal_eq_getElem]
   refine wpAnyH_ready (rs := [1]) zq5 zq12 ?_
   refine AllReadyH.cons rfl (fun K hK => ?_) AllReadyH.nil
   simp only [List.getElem_toArray, List.getElem_cons_zero, List.getElem_cons_succ, Array.getInternal_eq_getElem]
   go_simp
   go_at_call 82; (with_reducible refine (HVA.out _ ?hw4_).mono ?_); (case hw4_ => repeat (first | exact HG3.out | exact Below.refl _ _ | apply below_alloc | apply below_drew1 | apply pw_below_drewN)); rintro e w4 ⟨rfl, hb_⟩; have hq_ : Below w3.heap.size w3 w4 := grew_trans zq19 hb_; have HG4 := zA (show Below w.heap.size w w4 from grew_trans HG3.out hq_); replace BKga := zA (blk_below BKga.out hq_); replace BKgb := zA (blk_below BKgb.out hq_); replace BKgr := zA (blk_below BKgr.out hq_); rw [HXA.out]; clear hb_ hq_
   go_wp2_with fail
   clear hHeld
   refine hK.out _ _ (by (try dsimp only); (refine HKP.out _ ?_ ?_ <;> (repeat (with_reducible first | exact BKga.out | exact BKgb.out | refine blk_alloc ?_ _ | refine blk_drew ?_ | refine blk_drewN ?_ _ | refine blk_far ?_ NEa.out _ | refine blk_far ?_ NEb.out _)))) (fun hHeld => ?_)
   clear hK K
   (try simp only [Act.put, List.setIfInBounds_toArray, List.set_cons_zero, List.set_cons_succ, List.getElem_toArray, List.getElem_cons_zero, List.getElem_cons_succ, Array.getInternal_eq_getElem])
   refine wpAnyH_take (i := 2) (v := ?_) rfl zq5 zq5 zq5 (fun _ _ _ h => h) (Or.inl ⟨zq16, ?_⟩) hHeld ?_
   rotate_left
   ·intro w_ hSw; (try dsimp only at hSw); go_simp; try with_reducible rfl
   simp only [Act.put, List.setIfInBounds_toArray, List.set_cons_zero, List.set_cons_succ, List.getElem_toArray, List.getElem_cons_zero, List.getElem_cons_succ, Array.getInternal_eq_getElem]
   refine wpAnyH_take (i := 3) (v := ?_) rfl zq5 zq5 zq5 (fun _ _ _ h => h) (Or.inl ⟨zq16, ?_⟩) hHeld ?_
   rotate_left
   ·intro w_ hSw; (try dsimp only at hSw); go_simp; try with_reducible rfl
   simp only [Act.put, List.setIfInBounds_toArray, List.set_cons_zero, List.set_cons_succ, List.getElem_toArray, List.getElem_cons_zero, List.getElem_cons_succ, Array.getInternal_eq_getElem]
   refine wpAnyH_take (i := 4) (v := ?_) rfl zq5 zq5 zq5 (fun _ _ _ h => h) (Or.inl ⟨zq16, ?_⟩) hHeld ?_
   rotate_left
   ·intro w_ hSw; (try dsimp only at hSw); go_simp; try with_reducible rfl
   simp only [Act.put, List.setIfInBounds_toArray, List.set_cons_zero, List.set_cons_succ, List.getElem_toArray, List.getElem_cons_zero, List.getElem_cons_succ, Array.getInternal_eq_getElem]
   refine wpAnyH_ready (rs := [5]) zq5 zq12 ?_
   refine AllReadyH.cons rfl (fun K hK => ?_) AllReadyH.nil
   simp only [List.getElem_toArray, List.getElem_cons_zero, List.getElem_cons_succ, Array.getInternal_eq_getElem]
   go_simp
   go_at_call 82; (with_reducible refine (HVB.out _ ?hw5_).mono ?_); (case hw5_ => repeat (first | exact HG4.out | exact Below.refl _ _ | apply below_alloc | apply below_drew1 | apply pw_below_drewN)); rintro e w5 ⟨rfl, hb_⟩; have hq_ : Below w4.heap.size w4 w5 := grew_trans zq26 hb_; have HG5 := zA (show Below w.heap.size w w5 from grew_trans HG4.out hq_); replace BKga := zA (blk_below BKga.out hq_); replace BKgb := zA (blk_below BKgb.out hq_); replace BKgr := zA (blk_below BKgr.out hq_); rw [HXB.out]; clear hb_ hq_
   go_wp2_with fail
   clear hHeld
   refine hK.out _ _ (by (try dsimp only); (refine HKP.out _ ?_ ?_ <;> (repeat (with_reducible first | exact BKga.out | exact BKgb.out | refine blk_alloc ?_ _ | refine blk_drew ?_ | refine blk_drewN ?_ _ | refine blk_far ?_ NEa.out _ | refine blk_far ?_ NEb.out _)))) (fun hHeld => ?_)
   clear hK K
   (try simp only [Act.put, List.setIfInBounds_toArray, List.set_cons_zero, List.set_cons_succ, List.getElem_toArray, List.getElem_cons_zero, List.getElem_cons_succ, Array.getInternal_eq_getElem])
   refine wpAnyH_take (i := 6) (v := ?_) rfl zq5 zq5 zq5 (fun _ _ _ h => h) (Or.inl ⟨zq16, ?_⟩) hHeld ?_
   rotate_left
   ·intro w_ hSw; (try dsimp only at hSw); go_simp; try with_reducible rfl
   simp only [Act.put, List.setIfInBounds_toArray, List.set_cons_zero, List.set_cons_succ, List.getElem_toArray, List.getElem_cons_zero, List.getElem_cons_succ, Array.getInternal_eq_getElem]
   refine wpAnyH_take (i := 7) (v := ?_) rfl zq5 zq5 zq5 (fun _ _ _ h => h) (Or.inl ⟨zq16, ?_⟩) hHeld ?_
   rotate_left
   ·intro w_ hSw; (try dsimp only at hSw); go_simp; try with_reducible rfl
   simp only [Act.put, List.setIfInBounds_toArray, List.set_cons_zero, List.set_cons_succ, List.getElem_toArray, List.getElem_cons_zero, List.getElem_cons_succ, Array.getInternal_eq_getElem]
   refine wpAnyH_take (i := 8) (v := ?_) rfl zq5 zq5 zq5 (fun _ _ _ h => h) (Or.inl ⟨zq16, ?_⟩) hHeld ?_
   rotate_left
   ·intro w_ hSw; (try dsimp only at hSw); go_simp; try with_reducible rfl
   simp only [Act.put, List.setIfInBounds_toArray, List.set_cons_zero, List.set_cons_succ, List.getElem_toArray, List.getElem_cons_zero, List.getElem_cons_succ, Array.getInternal_eq_getElem]
   refine wpAnyH_take (i := 9) (v := undef) rfl zq5 zq5 zq5 (fun _ _ _ h => h) (Or.inr ⟨zq16, rfl⟩) hHeld ?_
   simp only [Act.put, List.setIfInBounds_toArray, List.set_cons_zero, List.set_cons_succ, List.getElem_toArray, List.getElem_cons_zero, List.getElem_cons_succ, Array.getInternal_eq_getElem]
   refine wpAnyH_take (i := 10) (v := undef) rfl zq5 zq5 zq5 (fun _ _ _ h => h) (Or.inr ⟨zq16, rfl⟩) hHeld ?_
   simp only [Act.put, List.setIfInBounds_toArray, List.set_cons_zero, List.set_cons_succ, List.getElem_toArray, List.getElem_cons_zero, List.getElem_cons_succ, Array.getInternal_eq_getElem]
   refine wpAnyH_take (i := 11) (v := undef) rfl zq5 zq5 zq5 (fun _ _ _ h => h) (Or.inr ⟨zq16, rfl⟩) hHeld ?_
   simp only [Act.put, List.setIfInBounds_toArray, List.set_cons_zero, List.set_cons_succ, List.getElem_toArray, List.getElem_cons_zero, List.getElem_cons_succ, Array.getInternal_eq_getElem]
   refine wpAnyH_take (i := 12) (v := undef) rfl zq5 zq5 zq5 (fun _ _ _ h => h) (Or.inr ⟨zq16, rfl⟩) hHeld ?_
   simp only [Act.put, List.setIfInBounds_toArray, List.set_cons_zero, List.set_cons_succ, List.getElem_toArray, List.getElem_cons_zero, List.getElem_cons_succ, Array.getInternal_eq_getElem]
   refine wpAnyH_take (i := 13) (v := undef) rfl zq5 zq5 zq5 (fun _ _ _ h => h) (Or.inr ⟨zq16, rfl⟩) hHeld ?_
   simp only [Act.put, List.setIfInBounds_toArray, List.set_cons_zero, List.set_cons_succ, List.getElem_toArray, List.getElem_cons_zero, List.getElem_cons_succ, Array.getInternal_eq_getElem]
   refine wpAnyH_take (i := 14) (v := undef) rfl zq5 zq5 zq5 (fun _ _ _ h => h) (Or.inr ⟨zq16, rfl⟩) hHeld ?_
   simp only [Act.put, List.setIfInBounds_toArray, List.set_cons_zero, List.set_cons_succ, List.getElem_toArray, List.getElem_cons_zero, List.getElem_cons_succ, Array.getInternal_eq_getElem]
   refine wpAnyH_take (i := 15) (v := undef) rfl zq5 zq5 zq5 (fun _ _ _ h => h) (Or.inr ⟨zq16, rfl⟩) hHeld ?_
   simp only [Act.put, List.setIfInBounds_toArray, List.set_cons_zero, List.set_cons_succ, List.getElem_toArray, List.getElem_cons_zero, List.getElem_cons_succ, Array.getInternal_eq_getElem]
   refine wpAnyH_take (i := 16) (v := undef) rfl zq5 zq5 zq5 (fun _ _ _ h => h) (Or.inr ⟨zq16, rfl⟩) hHeld ?_
   simp only [Act.put, List.setIfInBounds_toArray, List.set_cons_zero, List.set_cons_succ, List.getElem_toArray, List.getElem_cons_zero, List.getElem_cons_succ, Array.getInternal_eq_getElem]
   refine wpAnyH_take (i := 17) (v := undef) rfl zq5 zq5 zq5 (fun _ _ _ h => h) (Or.inr ⟨zq16, rfl⟩) hHeld ?_
   simp only [Act.put, List.setIfInBounds_toArray, List.set_cons_zero, List.set_cons_succ, List.getElem_toArray, List.getElem_cons_zero, List.getElem_cons_succ, Array.getInternal_eq_getElem]
   refine wpAnyH_take (i := 18) (v := ?_) rfl zq5 zq5 zq5 (fun _ _ _ h => h) (Or.inl ⟨zq16, ?_⟩) hHeld ?_
   rotate_left
   ·intro w_ hSw; (try dsimp only at hSw); go_simp; try with_reducible rfl
   simp only [Act.put, List.setIfInBounds_toArray, List.set_cons_zero, List.set_cons_succ, List.getElem_toArray, List.getElem_cons_zero, List.getElem_cons_succ, Array.getInternal_eq_getElem]
   refine wpAnyH_take (i := 19) (v := ?_) rfl zq5 zq5 zq5 (fun _ _ _ h => h) (Or.inl ⟨zq16, ?_⟩) hHeld ?_
   rotate_left
   ·intro w_ hSw; (try dsimp only at hSw); go_simp; try with_reducible rfl
   simp only [Act.put, List.setIfInBounds_toArray, List.set_cons_zero, List.set_cons_succ, List.getElem_toArray, List.getElem_cons_zero, List.getElem_cons_succ, Array.getInternal_eq_getElem]
   refine wpAnyH_take (i := 20) (v := undef) rfl zq5 zq5 zq5 (fun _ _ _ h => h) (Or.inr ⟨zq16, rfl⟩) hHeld ?_
   simp only [Act.put, List.setIfInBounds_toArray, List.set_cons_zero, List.set_cons_succ, List.getElem_toArray, List.getElem_cons_zero, List.getElem_cons_succ, Array.getInternal_eq_getElem]
   refine wpAnyH_take (i := 21) (v := undef) rfl zq5 zq5 zq5 (fun _ _ _ h => h) (Or.inr ⟨zq16, rfl⟩) hHeld ?_
   simp only [Act.put, List.setIfInBounds_toArray, List.set_cons_zero, List.set_cons_succ, List.getElem_toArray, List.getElem_cons_zero, List.getElem_cons_succ, Array.getInternal_eq_getElem]
   refine wpAnyH_take (i := 22) (v := undef) rfl zq5 zq5 zq5 (fun _ _ _ h => h) (Or.inr ⟨zq16, rfl⟩) hHeld ?_
   simp only [Act.put, List.setIfInBounds_toArray, List.set_cons_zero, List.set_cons_succ, List.getElem_toArray, List.getElem_cons_zero, List.getElem_cons_succ, Array.getInternal_eq_getElem]
   refine wpAnyH_take (i := 23) (v := undef) rfl zq5 zq5 zq5 (fun _ _ _ h => h) (Or.inr ⟨zq16, rfl⟩) hHeld ?_
   simp only [Act.put, List.setIfInBounds_toArray, List.set_cons_zero, List.set_cons_succ, List.getElem_toArray, List.getElem_cons_zero, List.getElem_cons_succ, Array.getInternal_eq_getElem]
   refine wpAnyH_take (i := 24) (v := undef) rfl zq5 zq5 zq5 (fun _ _ _ h => h) (Or.inr ⟨zq16, rfl⟩) hHeld ?_
   simp only [Act.put, List.setIfInBounds_toArray, List.set_cons_zero, List.set_cons_succ, List.getElem_toArray, List.getElem_cons_zero, List.getElem_cons_succ, Array.getInternal_eq_getElem]
   refine wpAnyH_take (i := 25) (v := undef) rfl zq5 zq5 zq5 (fun _ _ _ h => h) (Or.inr ⟨zq16, rfl⟩) hHeld ?_
   simp only [Act.put, List.setIfInBounds_toArray, List.set_cons_zero, List.set_cons_succ, List.getElem_toArray, List.getElem_cons_zero, List.getElem_cons_succ, Array.getInternal_eq_getElem]
   refine wpAnyH_take (i := 26) (v := undef) rfl zq5 zq5 zq5 (fun _ _ _ h => h) (Or.inr ⟨zq16, rfl⟩) hHeld ?_
   simp only [Act.put, List.setIfInBounds_toArray, List.set_cons_zero, List.set_cons_succ, List.getElem_toArray, List.getElem_cons_zero, List.getElem_cons_succ, Array.getInternal_eq_getElem]
   refine wpAnyH_take (i := 27) (v := undef) rfl zq5 zq5 zq5 (fun _ _ _ h => h) (Or.inr ⟨zq16, rfl⟩) hHeld ?_
   simp only [Act.put, List.setIfInBounds_toArray, List.set_cons_zero, List.set_cons_succ, List.getElem_toArray, List.getElem_cons_zero, List.getElem_cons_succ, Array.getInternal_eq_getElem]
   refine wpAnyH_take (i := 28) (v := ?_) rfl zq5 zq5 zq5 (fun _ _ _ h => h) (Or.inl ⟨zq16, ?_⟩) hHeld ?_
   rotate_left
   ·intro w_ hSw; (try dsimp only at hSw); go_simp; try with_reducible rfl
   simp only [Act.put, List.setIfInBounds_toArray, List.set_cons_zero, List.set_cons_succ, List.getElem_toArray, List.getElem_cons_zero, List.getElem_cons_succ, Array.getInternal_eq_getElem]
   refine wpAnyH_done zq5 ?_ _
   have BKR := zA BKgr.out
   obtain ⟨⟨zc0, zf0⟩, ⟨zc1, zf1⟩, ⟨zc2, zf2⟩, ⟨zc3, zf3⟩⟩ := cells4 BKR.out
   go_wp2
   refine bodyPost_ret (results_ct rfl _ _ gr 59 #[.int .i64 0, .slice none 0 0, .slice none 0 0, .slice none 0 0] (0, 0) _ rfl (by (with_reducible repeat (first | refine blk_drewN ?_ _ | refine blk_drew ?_ | refine blk_alloc ?_ _)); refine blk_put (cs := #[.int .i64 0, .slice none 0 0, .slice none 0 0, .slice none 0 0]) ?_ 3 _ rfl; (with_reducible repeat (first | refine blk_drewN ?_ _ | refine blk_drew ?_ | refine blk_alloc ?_ _)); refine blk_put (cs := #[.int .i64 0, .slice none 0 0, .slice none 0 0, .slice none 0 0]) ?_ 2 _ rfl; (with_reducible repeat (first | refine blk_drewN ?_ _ | refine blk_drew ?_ | refine blk_alloc ?_ _)); refine blk_put (cs := #[.int .i64 0, .slice none 0 0, .slice none 0 0, .slice none 0 0]) ?_ 1 _ rfl; (with_reducible repeat (first | refine blk_drewN ?_ _ | refine blk_drew ?_ | refine blk_alloc ?_ _)); refine blk_put (cs := #[.int .i64 0, .slice none 0 0, .slice none 0 0, .slice none 0 0]) ?_ 0 _ rfl; (with_reducible repeat (first | refine blk_drewN ?_ _ | refine blk_drew ?_ | refine blk_alloc ?_ _)); exact BKR.out) Tryz.underlying59 rfl zq5) rfl ?_
   rw [mrg_bad (by unfold mrgOk; rw [HXA.out, HXB.out]; rfl)]
   exact ⟨_, rfl, bad_M _ _, below_set (below_set (below_set (below_set (HG5.out) GEr.out) GEr.out) GEr.out) GEr.out⟩
  | true =>
   have HXB := zA xb
   obtain ⟨fb, eb⟩ := valid_seg xb
   obtain ⟨fb1, fb2, fb3, fb4, fb5, fb6⟩ := fits_parts fb
   have HFB := zA fb
   clear fb eb fb5 xa xb
   by_cases hbase : b.1 = a.1 + (a.2.1.length : Int)
   case neg =>
    have hne : (b.1 == a.1 + (a.2.1.length : Int)) = false := by simpa using hbase
    have hne2 : (b.1 != a.1 + (a.2.1.length : Int)) = true := by simpa using hbase
    go_enter Tryz.func61, Tryz.ntmps61
    go_wp2_with (first | ((with_reducible refine gate_dst (N := 2) rfl ?_); refine box_event ?hg (N := 2) ?hd (cs := #[.int .i64 a.1, .slice A1a a.2.1.length c1a, .slice A2a a.2.2.1.length c2a, .slice A3a a.2.2.2.length c3a]) (t := 59) ?hr ?_; (case hd => rfl); (case hg => rfl); (case hr => first | (go_simp; done) | (go_simp; rfl)); intro ga hg_ w1 hbx hbb; have BKga := zA hbx; have GEga := zA (show w.heap.size ≤ ga from Nat.le_of_eq hg_.symm); have GLga := zA (blk_lt hbx); have HBw1 := zA hbb; clear hg_ hbb; obtain ⟨⟨hgac0, hgaf0⟩, ⟨hgac1, hgaf1⟩, ⟨hgac2, hgaf2⟩, ⟨hgac3, hgaf3⟩⟩ := cells4 hbx; clear hbx) | ((with_reducible refine gate_dst (N := 3) rfl ?_); refine box_event ?hg (N := 3) ?hd (cs := #[.int .i64 b.1, .slice A1b b.2.1.length c1b, .slice A2b b.2.2.1.length c2b, .slice A3b b.2.2.2.length c3b]) (t := 59) ?hr ?_; (case hd => rfl); (case hg => rfl); (case hr => first | (go_simp; done) | (go_simp; rfl)); intro gb hg_ w2 hbx hbb; have BKgb := zA hbx; have GEgb := zA (show w1.heap.size ≤ gb from Nat.le_of_eq hg_.symm); have GLgb := zA (blk_lt hbx); have HBw2 := zA hbb; clear hg_ hbb; obtain ⟨⟨hgbc0, hgbf0⟩, ⟨hgbc1, hgbf1⟩, ⟨hgbc2, hgbf2⟩, ⟨hgbc3, hgbf3⟩⟩ := cells4 hbx; clear hbx; have n_ := zA (blk_below (g := ga) BKga.out HBw2.out); clear BKga hgac0 hgaf0 hgac1 hgaf1 hgac2 hgaf2 hgac3 hgaf3; have BKga := n_; clear n_) | ((with_reducible refine gate_dst (N := 4) rfl ?_); refine box_event ?hg (N := 4) ?hd (cs := #[.int .i64 0, .slice none 0 0, .slice none 0 0, .slice none 0 0]) (t := 59) ?hr ?_; (case hd => rfl); (case hg => rfl); (case hr => first | (go_simp; done) | (go_simp; rfl)); intro gr hg_ w3 hbx hbb; have BKgr := zA hbx; have GEgr := zA (show w2.heap.size ≤ gr from Nat.le_of_eq hg_.symm); have GLgr := zA (blk_lt hbx); have HBw3 := zA hbb; clear hg_ hbb; obtain ⟨⟨hgrc0, hgrf0⟩, ⟨hgrc1, hgrf1⟩, ⟨hgrc2, hgrf2⟩, ⟨hgrc3, hgrf3⟩⟩ := cells4 hbx; clear hbx; have n_ := zA (blk_below (g := ga) BKga.out HBw3.out); clear BKga; have BKga := n_; clear n_; have n_ := zA (blk_below (g := gb) BKgb.out HBw3.out); clear BKgb hgbc0 hgbf0 hgbc1 hgbf1 hgbc2 hgbf2 hgbc3 hgbf3; have BKgb := n_; clear n_; have HG3 := zA (show Below w.heap.size w w3 from grew_trans (grew_trans HBw1.out HBw2.out) HBw3.out); obtain ⟨⟨x0c0, x0f0⟩, ⟨x0c1, x0f1⟩, ⟨x0c2, x0f2⟩, ⟨x0c3, x0f3⟩⟩ := cells4 BKga.out; obtain ⟨⟨y0c0, y0f0⟩, ⟨y0c1, y0f1⟩, ⟨y0c2, y0f2⟩, ⟨y0c3, y0f3⟩⟩ := cells4 BKgb.out; have GEr := zA (show w.heap.size ≤ gr from Nat.le_trans (grew_trans HBw1.out HBw2.out).size GEgr.out)))
    have HKP := zA (show ∀ W : World, W.heap[ga]? = some (.cells #[.int .i64 a.1, .slice A1a a.2.1.length c1a, .slice A2a a.2.2.1.length c2a, .slice A3a a.2.2.2.length c3a] 59 (0, 0)) → W.heap[gb]? = some (.cells #[.int .i64 b.1, .slice A1b b.2.1.length c1b, .slice A2b b.2.2.1.length c2b, .slice A3b b.2.2.2.length c3b] 59 (0, 0)) → (W.cell? ⟨ga, 0, none⟩ = some (.int .i64 a.1) ∧ W.cell? ⟨ga, 1, none⟩ = some (.slice A1a a.2.1.length c1a) ∧ W.cell? ⟨ga, 2, none⟩ = some (.slice A2a a.2.2.1.length c2a) ∧ W.cell? ⟨ga, 3, none⟩ = some (.slice A3a a.2.2.2.length c3a) ∧ W.cell? ⟨gb, 0, none⟩ = some (.int .i64 b.1) ∧ W.cell? ⟨gb, 1, none⟩ = some (.slice A1b b.2.1.length c1b) ∧ W.cell? ⟨gb, 2, none⟩ = some (.slice A2b b.2.2.1.length c2b) ∧ W.cell? ⟨gb, 3, none⟩ = some (.slice A3b b.2.2.2.length c3b) ∧ W.frozen? ⟨ga, 0, none⟩ = false ∧ W.frozen? ⟨ga, 1, none⟩ = false ∧ W.frozen? ⟨ga, 2, none⟩ = false ∧ W.frozen? ⟨ga, 3, none⟩ = false ∧ W.frozen? ⟨gb, 0, none⟩ = false ∧ W.frozen? ⟨gb, 1, none⟩ = false ∧ W.frozen? ⟨gb, 2, none⟩ = false ∧ W.frozen? ⟨gb, 3, none⟩ = false) from fun W h1 h2 => ⟨(blk_cell h1 0).trans rfl, (blk_cell h1 1).trans rfl, (blk_cell h1 2).trans rfl, (blk_cell h1 3).trans rfl, (blk_cell h2 0).trans rfl, (blk_cell h2 1).trans rfl, (blk_cell h2 2).trans rfl, (blk_cell h2 3).trans rfl, blk_frozen h1 0, blk_frozen h1 1, blk_frozen h1 2, blk_frozen h1 3, blk_frozen h2 0, blk_frozen h2 1, blk_frozen h2 2, blk_frozen h2 3⟩)
    have NEa := zA (show ga ≠ gr from fun e => by have h1 := GLga.out; have h2 := GEgb.out; have h3 := HBw2.out.size; have h4 := GEgr.out; omega)
    have NEb := zA (show gb ≠ gr from fun e => by have h1 := GLgb.out; have h4 := GEgr.out; omega)
    clear x0c0 x0f0 x0c1 x0f1 x0c2 x0f2 x0c3 x0f3 y0c0 y0f0 y0c1 y0f1 y0c2 y0f2 y0c3 y0f3 hgrc0 hgrf0 hgrc1 hgrf1 hgrc2 hgrf2 hgrc3 hgrf3
    have hwr : IntKind.i64.wrap (a.1 + (a.2.1.length : Int)) = a.1 + (a.2.1.length : Int) := by rw [IntKind.wrap_i64]; omega
    refine wp_region_held_drew (S := (fun W_ => W_.cell? ⟨ga, 0, none⟩ = some (.int .i64 a.1) ∧ W_.cell? ⟨ga, 1, none⟩ = some (.slice A1a a.2.1.length c1a) ∧ W_.cell? ⟨ga, 2, none⟩ = some (.slice A2a a.2.2.1.length c2a) ∧ W_.cell? ⟨ga, 3, none⟩ = some (.slice A3a a.2.2.2.length c3a) ∧ W_.cell? ⟨gb, 0, none⟩ = some (.int .i64 b.1) ∧ W_.cell? ⟨gb, 1, none⟩ = some (.slice A1b b.2.1.length c1b) ∧ W_.cell? ⟨gb, 2, none⟩ = some (.slice A2b b.2.2.1.length c2b) ∧ W_.cell? ⟨gb, 3, none⟩ = some (.slice A3b b.2.2.2.length c3b) ∧ W_.frozen? ⟨ga, 0, none⟩ = false ∧ W_.frozen? ⟨ga, 1, none⟩ = false ∧ W_.frozen? ⟨ga, 2, none⟩ = false ∧ W_.frozen? ⟨ga, 3, none⟩ = false ∧ W_.frozen? ⟨gb, 0, none⟩ = false ∧ W_.frozen? ⟨gb, 1, none⟩ = false ∧ W_.frozen? ⟨gb, 2, none⟩ = false ∧ W_.frozen? ⟨gb, 3, none⟩ = false)) zq5 (by (try dsimp only); (refine HKP.out _ ?_ ?_ <;> (repeat (with_reducible first | exact BKga.out | exact BKgb.out | refine blk_alloc ?_ _ | refine blk_drew ?_ | refine blk_drewN ?_ _ | refine blk_far ?_ NEa.out _ | refine blk_far ?_ NEb.out _)))) (fun hHeld => ?_)
    refine wpAnyH_take (i := 0) (v := ?_) rfl zq5 zq5 zq5 (fun _ _ _ h => h) (Or.inl ⟨zq16, ?_⟩) hHeld ?_
    rotate_left
    ·intro w_ hSw; (try dsimp only at hSw); go_simp; try with_reducible rfl
    simp only [Act.put, List.setIfInBounds_toArray, List.set_cons_zero, List.set_cons_succ, List.getElem_toArray, List.getElem_cons_zero, List.getElem_cons_succ, Array.getInternal_eq_getElem]
    refine wpAnyH_ready (rs := [1]) zq5 zq12 ?_
    refine AllReadyH.cons rfl (fun K hK => ?_) AllReadyH.nil
    simp only [List.getElem_toArray, List.getElem_cons_zero, List.getElem_cons_succ, Array.getInternal_eq_getElem]
    go_simp
    go_at_call 82; (with_reducible refine (HVA.out _ ?hw4_).mono ?_); (case hw4_ => repeat (first | exact HG3.out | exact Below.refl _ _ | apply below_alloc | apply below_drew1 | apply pw_below_drewN)); rintro e w4 ⟨rfl, hb_⟩; have hq_ : Below w3.heap.size w3 w4 := grew_trans zq19 hb_; have HG4 := zA (show Below w.heap.size w w4 from grew_trans HG3.out hq_); replace BKga := zA (blk_below BKga.out hq_); replace BKgb := zA (blk_below BKgb.out hq_); replace BKgr := zA (blk_below BKgr.out hq_); rw [HXA.out]; clear hb_ hq_
    go_wp2_with fail
    clear hHeld
    refine hK.out _ _ (by (try dsimp only); (refine HKP.out _ ?_ ?_ <;> (repeat (with_reducible first | exact BKga.out | exact BKgb.out | refine blk_alloc ?_ _ | refine blk_drew ?_ | refine blk_drewN ?_ _ | refine blk_far ?_ NEa.out _ | refine blk_far ?_ NEb.out _)))) (fun hHeld => ?_)
    clear hK K
    (try simp only [Act.put, List.setIfInBounds_toArray, List.set_cons_zero, List.set_cons_succ, List.getElem_toArray, List.getElem_cons_zero, List.getElem_cons_succ, Array.getInternal_eq_getElem])
    refine wpAnyH_take (i := 2) (v := ?_) rfl zq5 zq5 zq5 (fun _ _ _ h => h) (Or.inl ⟨zq16, ?_⟩) hHeld ?_
    rotate_left
    ·intro w_ hSw; (try dsimp only at hSw); go_simp; try with_reducible rfl
    simp only [Act.put, List.setIfInBounds_toArray, List.set_cons_zero, List.set_cons_succ, List.getElem_toArray, List.getElem_cons_zero, List.getElem_cons_succ, Array.getInternal_eq_getElem]
    refine wpAnyH_take (i := 3) (v := ?_) rfl zq5 zq5 zq5 (fun _ _ _ h => h) (Or.inl ⟨zq16, ?_⟩) hHeld ?_
    rotate_left
    ·intro w_ hSw; (try dsimp only at hSw); go_simp; try with_reducible rfl
    simp only [Act.put, List.setIfInBounds_toArray, List.set_cons_zero, List.set_cons_succ, List.getElem_toArray, List.getElem_cons_zero, List.getElem_cons_succ, Array.getInternal_eq_getElem]
    refine wpAnyH_take (i := 4) (v := ?_) rfl zq5 zq5 zq5 (fun _ _ _ h => h) (Or.inl ⟨zq16, ?_⟩) hHeld ?_
    rotate_left
    ·intro w_ hSw; (try dsimp only at hSw); go_simp; try with_reducible rfl
    simp only [Act.put, List.setIfInBounds_toArray, List.set_cons_zero, List.set_cons_succ, List.getElem_toArray, List.getElem_cons_zero, List.getElem_cons_succ, Array.getInternal_eq_getElem]
    refine wpAnyH_ready (rs := [5]) zq5 zq12 ?_
    refine AllReadyH.cons rfl (fun K hK => ?_) AllReadyH.nil
    simp only [List.getElem_toArray, List.getElem_cons_zero, List.getElem_cons_succ, Array.getInternal_eq_getElem]
    go_simp
    go_at_call 82; (with_reducible refine (HVB.out _ ?hw5_).mono ?_); (case hw5_ => repeat (first | exact HG4.out | exact Below.refl _ _ | apply below_alloc | apply below_drew1 | apply pw_below_drewN)); rintro e w5 ⟨rfl, hb_⟩; have hq_ : Below w4.heap.size w4 w5 := grew_trans zq26 hb_; have HG5 := zA (show Below w.heap.size w w5 from grew_trans HG4.out hq_); replace BKga := zA (blk_below BKga.out hq_); replace BKgb := zA (blk_below BKgb.out hq_); replace BKgr := zA (blk_below BKgr.out hq_); rw [HXB.out]; clear hb_ hq_
    go_wp2_with fail
    clear hHeld
    refine hK.out _ _ (by (try dsimp only); (refine HKP.out _ ?_ ?_ <;> (repeat (with_reducible first | exact BKga.out | exact BKgb.out | refine blk_alloc ?_ _ | refine blk_drew ?_ | refine blk_drewN ?_ _ | refine blk_far ?_ NEa.out _ | refine blk_far ?_ NEb.out _)))) (fun hHeld => ?_)
    clear hK K
    (try simp only [Act.put, List.setIfInBounds_toArray, List.set_cons_zero, List.set_cons_succ, List.getElem_toArray, List.getElem_cons_zero, List.getElem_cons_succ, Array.getInternal_eq_getElem])
    refine wpAnyH_take (i := 6) (v := ?_) rfl zq5 zq5 zq5 (fun _ _ _ h => h) (Or.inl ⟨zq16, ?_⟩) hHeld ?_
    rotate_left
    ·intro w_ hSw; (try dsimp only at hSw); go_simp; try with_reducible rfl
    simp only [Act.put, List.setIfInBounds_toArray, List.set_cons_zero, List.set_cons_succ, List.getElem_toArray, List.getElem_cons_zero, List.getElem_cons_succ, Array.getInternal_eq_getElem]
    refine wpAnyH_take (i := 7) (v := ?_) rfl zq5 zq5 zq5 (fun _ _ _ h => h) (Or.inl ⟨zq16, ?_⟩) hHeld ?_
    rotate_left
    ·intro w_ hSw; (try dsimp only at hSw); go_simp; try with_reducible rfl
    simp only [Act.put, List.setIfInBounds_toArray, List.set_cons_zero, List.set_cons_succ, List.getElem_toArray, List.getElem_cons_zero, List.getElem_cons_succ, Array.getInternal_eq_getElem]
    refine wpAnyH_take (i := 8) (v := ?_) rfl zq5 zq5 zq5 (fun _ _ _ h => h) (Or.inl ⟨zq16, ?_⟩) hHeld ?_
    rotate_left
    ·intro w_ hSw; (try dsimp only at hSw); go_simp; try with_reducible rfl
    simp only [Act.put, List.setIfInBounds_toArray, List.set_cons_zero, List.set_cons_succ, List.getElem_toArray, List.getElem_cons_zero, List.getElem_cons_succ, Array.getInternal_eq_getElem]
    refine wpAnyH_take (i := 9) (v := ?_) rfl zq5 zq5 zq5 (fun _ _ _ h => h) (Or.inl ⟨zq16, ?_⟩) hHeld ?_
    rotate_left
    ·intro w_ hSw; (try dsimp only at hSw); go_simp; try with_reducible rfl
    simp only [Act.put, List.setIfInBounds_toArray, List.set_cons_zero, List.set_cons_succ, List.getElem_toArray, List.getElem_cons_zero, List.getElem_cons_succ, Array.getInternal_eq_getElem]
    refine wpAnyH_take (i := 10) (v := ?_) rfl zq5 zq5 zq5 (fun _ _ _ h => h) (Or.inl ⟨zq16, ?_⟩) hHeld ?_
    rotate_left
    ·intro w_ hSw; (try dsimp only at hSw); go_simp; try with_reducible rfl
    simp only [Act.put, List.setIfInBounds_toArray, List.set_cons_zero, List.set_cons_succ, List.getElem_toArray, List.getElem_cons_zero, List.getElem_cons_succ, Array.getInternal_eq_getElem]
    refine wpAnyH_take (i := 11) (v := ?_) rfl zq5 zq5 zq5 (fun _ _ _ h => h) (Or.inl ⟨zq16, ?_⟩) hHeld ?_
    rotate_left
    ·intro w_ hSw; (try dsimp only at hSw); go_simp; try with_reducible rfl
    simp only [Act.put, List.setIfInBounds_toArray, List.set_cons_zero, List.set_cons_succ, List.getElem_toArray, List.getElem_cons_zero, List.getElem_cons_succ, Array.getInternal_eq_getElem]
    refine wpAnyH_take (i := 12) (v := ?_) rfl zq5 zq5 zq5 (fun _ _ _ h => h) (Or.inl ⟨zq16, ?_⟩) hHeld ?_
    rotate_left
    ·intro w_ hSw; (try dsimp only at hSw); go_simp; try with_reducible rfl
    simp only [Act.put, List.setIfInBounds_toArray, List.set_cons_zero, List.set_cons_succ, List.getElem_toArray, List.getElem_cons_zero, List.getElem_cons_succ, Array.getInternal_eq_getElem]
    refine wpAnyH_take (i := 13) (v := ?_) rfl zq5 zq5 zq5 (fun _ _ _ h => h) (Or.inl ⟨zq16, ?_⟩) hHeld ?_
    rotate_left
    ·intro w_ hSw; (try dsimp only at hSw); go_simp; try with_reducible rfl
    simp only [Act.put, List.setIfInBounds_toArray, List.set_cons_zero, List.set_cons_succ, List.getElem_toArray, List.getElem_cons_zero, List.getElem_cons_succ, Array.getInternal_eq_getElem]
    refine wpAnyH_take (i := 14) (v := ?_) rfl zq5 zq5 zq5 (fun _ _ _ h => h) (Or.inl ⟨zq16, ?_⟩) hHeld ?_
    rotate_left
    ·intro w_ hSw; (try dsimp only at hSw); go_simp; try with_reducible rfl
    simp only [Act.put, List.setIfInBounds_toArray, List.set_cons_zero, List.set_cons_succ, List.getElem_toArray, List.getElem_cons_zero, List.getElem_cons_succ, Array.getInternal_eq_getElem]
    refine wpAnyH_take (i := 15) (v := ?_) rfl zq5 zq5 zq5 (fun _ _ _ h => h) (Or.inl ⟨zq16, ?_⟩) hHeld ?_
    rotate_left
    ·intro w_ hSw; (try dsimp only at hSw); go_simp; try with_reducible rfl
    simp only [Act.put, List.setIfInBounds_toArray, List.set_cons_zero, List.set_cons_succ, List.getElem_toArray, List.getElem_cons_zero, List.getElem_cons_succ, Array.getInternal_eq_getElem]
    refine wpAnyH_take (i := 16) (v := ?_) rfl zq5 zq5 zq5 (fun _ _ _ h => h) (Or.inl ⟨zq16, ?_⟩) hHeld ?_
    rotate_left
    ·intro w_ hSw; (try dsimp only at hSw); go_simp; try with_reducible rfl
    simp only [Act.put, List.setIfInBounds_toArray, List.set_cons_zero, List.set_cons_succ, List.getElem_toArray, List.getElem_cons_zero, List.getElem_cons_succ, Array.getInternal_eq_getElem]
    refine wpAnyH_take (i := 17) (v := ?_) rfl zq5 zq5 zq5 (fun _ _ _ h => h) (Or.inl ⟨zq16, ?_⟩) hHeld ?_
    rotate_left
    ·intro w_ hSw; (try dsimp only at hSw); go_simp; try with_reducible rfl
    simp only [Act.put, List.setIfInBounds_toArray, List.set_cons_zero, List.set_cons_succ, List.getElem_toArray, List.getElem_cons_zero, List.getElem_cons_succ, Array.getInternal_eq_getElem]
    refine wpAnyH_take (i := 18) (v := ?_) rfl zq5 zq5 zq5 (fun _ _ _ h => h) (Or.inl ⟨zq16, ?_⟩) hHeld ?_
    rotate_left
    ·intro w_ hSw; (try dsimp only at hSw); go_simp; try with_reducible rfl
    simp only [Act.put, List.setIfInBounds_toArray, List.set_cons_zero, List.set_cons_succ, List.getElem_toArray, List.getElem_cons_zero, List.getElem_cons_succ, Array.getInternal_eq_getElem]
    refine wpAnyH_take (i := 19) (v := ?_) rfl zq5 zq5 zq5 (fun _ _ _ h => h) (Or.inl ⟨zq16, ?_⟩) hHeld ?_
    rotate_left
    ·intro w_ hSw; (try dsimp only at hSw); go_simp; try with_reducible rfl
    simp only [Act.put, List.setIfInBounds_toArray, List.set_cons_zero, List.set_cons_succ, List.getElem_toArray, List.getElem_cons_zero, List.getElem_cons_succ, Array.getInternal_eq_getElem]
    refine wpAnyH_take (i := 20) (v := undef) rfl zq5 zq5 zq5 (fun _ _ _ h => h) (Or.inr ⟨zq16, rfl⟩) hHeld ?_
    simp only [Act.put, List.setIfInBounds_toArray, List.set_cons_zero, List.set_cons_succ, List.getElem_toArray, List.getElem_cons_zero, List.getElem_cons_succ, Array.getInternal_eq_getElem]
    refine wpAnyH_take (i := 21) (v := undef) rfl zq5 zq5 zq5 (fun _ _ _ h => h) (Or.inr ⟨zq16, rfl⟩) hHeld ?_
    simp only [Act.put, List.setIfInBounds_toArray, List.set_cons_zero, List.set_cons_succ, List.getElem_toArray, List.getElem_cons_zero, List.getElem_cons_succ, Array.getInternal_eq_getElem]
    refine wpAnyH_take (i := 22) (v := undef) rfl zq5 zq5 zq5 (fun _ _ _ h => h) (Or.inr ⟨zq16, rfl⟩) hHeld ?_
    simp only [Act.put, List.setIfInBounds_toArray, List.set_cons_zero, List.set_cons_succ, List.getElem_toArray, List.getElem_cons_zero, List.getElem_cons_succ, Array.getInternal_eq_getElem]
    refine wpAnyH_take (i := 23) (v := undef) rfl zq5 zq5 zq5 (fun _ _ _ h => h) (Or.inr ⟨zq16, rfl⟩) hHeld ?_
    simp only [Act.put, List.setIfInBounds_toArray, List.set_cons_zero, List.set_cons_succ, List.getElem_toArray, List.getElem_cons_zero, List.getElem_cons_succ, Array.getInternal_eq_getElem]
    refine wpAnyH_take (i := 24) (v := undef) rfl zq5 zq5 zq5 (fun _ _ _ h => h) (Or.inr ⟨zq16, rfl⟩) hHeld ?_
    simp only [Act.put, List.setIfInBounds_toArray, List.set_cons_zero, List.set_cons_succ, List.getElem_toArray, List.getElem_cons_zero, List.getElem_cons_succ, Array.getInternal_eq_getElem]
    refine wpAnyH_take (i := 25) (v := undef) rfl zq5 zq5 zq5 (fun _ _ _ h => h) (Or.inr ⟨zq16, rfl⟩) hHeld ?_
    simp only [Act.put, List.setIfInBounds_toArray, List.set_cons_zero, List.set_cons_succ, List.getElem_toArray, List.getElem_cons_zero, List.getElem_cons_succ, Array.getInternal_eq_getElem]
    refine wpAnyH_take (i := 26) (v := undef) rfl zq5 zq5 zq5 (fun _ _ _ h => h) (Or.inr ⟨zq16, rfl⟩) hHeld ?_
    simp only [Act.put, List.setIfInBounds_toArray, List.set_cons_zero, List.set_cons_succ, List.getElem_toArray, List.getElem_cons_zero, List.getElem_cons_succ, Array.getInternal_eq_getElem]
    refine wpAnyH_take (i := 27) (v := undef) rfl zq5 zq5 zq5 (fun _ _ _ h => h) (Or.inr ⟨zq16, rfl⟩) hHeld ?_
    simp only [Act.put, List.setIfInBounds_toArray, List.set_cons_zero, List.set_cons_succ, List.getElem_toArray, List.getElem_cons_zero, List.getElem_cons_succ, Array.getInternal_eq_getElem]
    refine wpAnyH_take (i := 28) (v := ?_) rfl zq5 zq5 zq5 (fun _ _ _ h => h) (Or.inl ⟨zq16, ?_⟩) hHeld ?_
    rotate_left
    ·intro w_ hSw; (try dsimp only at hSw); go_simp; try with_reducible rfl
    simp only [Act.put, List.setIfInBounds_toArray, List.set_cons_zero, List.set_cons_succ, List.getElem_toArray, List.getElem_cons_zero, List.getElem_cons_succ, Array.getInternal_eq_getElem]
    refine wpAnyH_done zq5 ?_ _
    have BKR := zA BKgr.out
    obtain ⟨⟨zc0, zf0⟩, ⟨zc1, zf1⟩, ⟨zc2, zf2⟩, ⟨zc3, zf3⟩⟩ := cells4 BKR.out
    go_wp2
    refine bodyPost_ret (results_ct rfl _ _ gr 59 #[.int .i64 0, .slice none 0 0, .slice none 0 0, .slice none 0 0] (0, 0) _ rfl (by (with_reducible repeat (first | refine blk_drewN ?_ _ | refine blk_drew ?_ | refine blk_alloc ?_ _)); refine blk_put (cs := #[.int .i64 0, .slice none 0 0, .slice none 0 0, .slice none 0 0]) ?_ 3 _ rfl; (with_reducible repeat (first | refine blk_drewN ?_ _ | refine blk_drew ?_ | refine blk_alloc ?_ _)); refine blk_put (cs := #[.int .i64 0, .slice none 0 0, .slice none 0 0, .slice none 0 0]) ?_ 2 _ rfl; (with_reducible repeat (first | refine blk_drewN ?_ _ | refine blk_drew ?_ | refine blk_alloc ?_ _)); refine blk_put (cs := #[.int .i64 0, .slice none 0 0, .slice none 0 0, .slice none 0 0]) ?_ 1 _ rfl; (with_reducible repeat (first | refine blk_drewN ?_ _ | refine blk_drew ?_ | refine blk_alloc ?_ _)); refine blk_put (cs := #[.int .i64 0, .slice none 0 0, .slice none 0 0, .slice none 0 0]) ?_ 0 _ rfl; (with_reducible repeat (first | refine blk_drewN ?_ _ | refine blk_drew ?_ | refine blk_alloc ?_ _)); exact BKR.out) Tryz.underlying59 rfl zq5) rfl ?_
    rw [mrg_bad (by unfold mrgOk; rw [HXA.out, HXB.out, decide_eq_false hbase]; rfl)]
    exact ⟨_, rfl, bad_M _ _, below_set (below_set (below_set (below_set (HG5.out) GEr.out) GEr.out) GEr.out) GEr.out⟩
   case pos =>
    have HTa := zA (fun (W : World) (hW : Below w.heap.size w W) => total_calls A1a c1a a.2.1 W (Kd.C_below C1a.out hW) (by obtain ⟨A', c', e', l', _⟩ := K1a.out; injection e' with _ _ e3; omega) (show a.2.1.length + totalB a.2.1 ≤ 1048576 from pa1))
    have HTb := zA (fun (W : World) (hW : Below w.heap.size w W) => total_calls A1b c1b b.2.1 W (Kd.C_below C1b.out hW) (by obtain ⟨A', c', e', l', _⟩ := K1b.out; injection e' with _ _ e3; omega) (show b.2.1.length + totalB b.2.1 ≤ 1048576 from pb1))
    have HBE := zA hbase
    have hsb := hbase.symm
    by_cases htot : totalB a.2.1 + totalB b.2.1 ≤ 20000
    case neg =>
     have htz : (20000 : Int) < (totalB a.2.1 : Int) + (totalB b.2.1 : Int) := by omega
     have HTT := zA htot
     clear hbase htot
     go_enter Tryz.func61, Tryz.ntmps61
     go_wp2_with (first | ((with_reducible refine gate_dst (N := 2) rfl ?_); refine box_event ?hg (N := 2) ?hd (cs := #[.int .i64 a.1, .slice A1a a.2.1.length c1a, .slice A2a a.2.2.1.length c2a, .slice A3a a.2.2.2.length c3a]) (t := 59) ?hr ?_; (case hd => rfl); (case hg => rfl); (case hr => first | (go_simp; done) | (go_simp; rfl)); intro ga hg_ w1 hbx hbb; have BKga := zA hbx; have GEga := zA (show w.heap.size ≤ ga from Nat.le_of_eq hg_.symm); have GLga := zA (blk_lt hbx); have HBw1 := zA hbb; clear hg_ hbb; obtain ⟨⟨hgac0, hgaf0⟩, ⟨hgac1, hgaf1⟩, ⟨hgac2, hgaf2⟩, ⟨hgac3, hgaf3⟩⟩ := cells4 hbx; clear hbx) | ((with_reducible refine gate_dst (N := 3) rfl ?_); refine box_event ?hg (N := 3) ?hd (cs := #[.int .i64 b.1, .slice A1b b.2.1.length c1b, .slice A2b b.2.2.1.length c2b, .slice A3b b.2.2.2.length c3b]) (t := 59) ?hr ?_; (case hd => rfl); (case hg => rfl); (case hr => first | (go_simp; done) | (go_simp; rfl)); intro gb hg_ w2 hbx hbb; have BKgb := zA hbx; have GEgb := zA (show w1.heap.size ≤ gb from Nat.le_of_eq hg_.symm); have GLgb := zA (blk_lt hbx); have HBw2 := zA hbb; clear hg_ hbb; obtain ⟨⟨hgbc0, hgbf0⟩, ⟨hgbc1, hgbf1⟩, ⟨hgbc2, hgbf2⟩, ⟨hgbc3, hgbf3⟩⟩ := cells4 hbx; clear hbx; have n_ := zA (blk_below (g := ga) BKga.out HBw2.out); clear BKga hgac0 hgaf0 hgac1 hgaf1 hgac2 hgaf2 hgac3 hgaf3; have BKga := n_; clear n_) | ((with_reducible refine gate_dst (N := 4) rfl ?_); refine box_event ?hg (N := 4) ?hd (cs := #[.int .i64 0, .slice none 0 0, .slice none 0 0, .slice none 0 0]) (t := 59) ?hr ?_; (case hd => rfl); (case hg => rfl); (case hr => first | (go_simp; done) | (go_simp; rfl)); intro gr hg_ w3 hbx hbb; have BKgr := zA hbx; have GEgr := zA (show w2.heap.size ≤ gr from Nat.le_of_eq hg_.symm); have GLgr := zA (blk_lt hbx); have HBw3 := zA hbb; clear hg_ hbb; obtain ⟨⟨hgrc0, hgrf0⟩, ⟨hgrc1, hgrf1⟩, ⟨hgrc2, hgrf2⟩, ⟨hgrc3, hgrf3⟩⟩ := cells4 hbx; clear hbx; have n_ := zA (blk_below (g := ga) BKga.out HBw3.out); clear BKga; have BKga := n_; clear n_; have n_ := zA (blk_below (g := gb) BKgb.out HBw3.out); clear BKgb hgbc0 hgbf0 hgbc1 hgbf1 hgbc2 hgbf2 hgbc3 hgbf3; have BKgb := n_; clear n_; have HG3 := zA (show Below w.heap.size w w3 from grew_trans (grew_trans HBw1.out HBw2.out) HBw3.out); obtain ⟨⟨x0c0, x0f0⟩, ⟨x0c1, x0f1⟩, ⟨x0c2, x0f2⟩, ⟨x0c3, x0f3⟩⟩ := cells4 BKga.out; obtain ⟨⟨y0c0, y0f0⟩, ⟨y0c1, y0f1⟩, ⟨y0c2, y0f2⟩, ⟨y0c3, y0f3⟩⟩ := cells4 BKgb.out; have GEr := zA (show w.heap.size ≤ gr from Nat.le_trans (grew_trans HBw1.out HBw2.out).size GEgr.out)))
     have HKP := zA (show ∀ W : World, W.heap[ga]? = some (.cells #[.int .i64 a.1, .slice A1a a.2.1.length c1a, .slice A2a a.2.2.1.length c2a, .slice A3a a.2.2.2.length c3a] 59 (0, 0)) → W.heap[gb]? = some (.cells #[.int .i64 b.1, .slice A1b b.2.1.length c1b, .slice A2b b.2.2.1.length c2b, .slice A3b b.2.2.2.length c3b] 59 (0, 0)) → (W.cell? ⟨ga, 0, none⟩ = some (.int .i64 a.1) ∧ W.cell? ⟨ga, 1, none⟩ = some (.slice A1a a.2.1.length c1a) ∧ W.cell? ⟨ga, 2, none⟩ = some (.slice A2a a.2.2.1.length c2a) ∧ W.cell? ⟨ga, 3, none⟩ = some (.slice A3a a.2.2.2.length c3a) ∧ W.cell? ⟨gb, 0, none⟩ = some (.int .i64 b.1) ∧ W.cell? ⟨gb, 1, none⟩ = some (.slice A1b b.2.1.length c1b) ∧ W.cell? ⟨gb, 2, none⟩ = some (.slice A2b b.2.2.1.length c2b) ∧ W.cell? ⟨gb, 3, none⟩ = some (.slice A3b b.2.2.2.length c3b) ∧ W.frozen? ⟨ga, 0, none⟩ = false ∧ W.frozen? ⟨ga, 1, none⟩ = false ∧ W.frozen? ⟨ga, 2, none⟩ = false ∧ W.frozen? ⟨ga, 3, none⟩ = false ∧ W.frozen? ⟨gb, 0, none⟩ = false ∧ W.frozen? ⟨gb, 1, none⟩ = false ∧ W.frozen? ⟨gb, 2, none⟩ = false ∧ W.frozen? ⟨gb, 3, none⟩ = false) from fun W h1 h2 => ⟨(blk_cell h1 0).trans rfl, (blk_cell h1 1).trans rfl, (blk_cell h1 2).trans rfl, (blk_cell h1 3).trans rfl, (blk_cell h2 0).trans rfl, (blk_cell h2 1).trans rfl, (blk_cell h2 2).trans rfl, (blk_cell h2 3).trans rfl, blk_frozen h1 0, blk_frozen h1 1, blk_frozen h1 2, blk_frozen h1 3, blk_frozen h2 0, blk_frozen h2 1, blk_frozen h2 2, blk_frozen h2 3⟩)
     have NEa := zA (show ga ≠ gr from fun e => by have h1 := GLga.out; have h2 := GEgb.out; have h3 := HBw2.out.size; have h4 := GEgr.out; omega)
     have NEb := zA (show gb ≠ gr from fun e => by have h1 := GLgb.out; have h4 := GEgr.out; omega)
     clear x0c0 x0f0 x0c1 x0f1 x0c2 x0f2 x0c3 x0f3 y0c0 y0f0 y0c1 y0f1 y0c2 y0f2 y0c3 y0f3 hgrc0 hgrf0 hgrc1 hgrf1 hgrc2 hgrf2 hgrc3 hgrf3
     have hwr : IntKind.i64.wrap b.1 = b.1 := by rw [IntKind.wrap_i64]; omega
     have hwt : IntKind.i64.wrap ((totalB a.2.1 : Int) + (totalB b.2.1 : Int)) = (totalB a.2.1 : Int) + (totalB b.2.1 : Int) := by rw [IntKind.wrap_i64]; clear hwr; omega
     go_region_held3 (fun W_ => W_.cell? ⟨ga, 0, none⟩ = some (.int .i64 a.1) ∧ W_.cell? ⟨ga, 1, none⟩ = some (.slice A1a a.2.1.length c1a) ∧ W_.cell? ⟨ga, 2, none⟩ = some (.slice A2a a.2.2.1.length c2a) ∧ W_.cell? ⟨ga, 3, none⟩ = some (.slice A3a a.2.2.2.length c3a) ∧ W_.cell? ⟨gb, 0, none⟩ = some (.int .i64 b.1) ∧ W_.cell? ⟨gb, 1, none⟩ = some (.slice A1b b.2.1.length c1b) ∧ W_.cell? ⟨gb, 2, none⟩ = some (.slice A2b b.2.2.1.length c2b) ∧ W_.cell? ⟨gb, 3, none⟩ = some (.slice A3b b.2.2.2.length c3b) ∧ W_.frozen? ⟨ga, 0, none⟩ = false ∧ W_.frozen? ⟨ga, 1, none⟩ = false ∧ W_.frozen? ⟨ga, 2, none⟩ = false ∧ W_.frozen? ⟨ga, 3, none⟩ = false ∧ W_.frozen? ⟨gb, 0, none⟩ = false ∧ W_.frozen? ⟨gb, 1, none⟩ = false ∧ W_.frozen? ⟨gb, 2, none⟩ = false ∧ W_.frozen? ⟨gb, 3, none⟩ = false) ((refine HKP.out _ ?_ ?_ <;> (repeat (with_reducible first | exact BKga.out | exact BKgb.out | refine blk_alloc ?_ _ | refine blk_drew ?_ | refine blk_drewN ?_ _ | refine blk_far ?_ NEa.out _ | refine blk_far ?_ NEb.out _)))) (first | (go_at_call 82; (with_reducible refine (HVA.out _ ?hw4_).mono ?_); (case hw4_ => repeat (first | exact HG3.out | exact Below.refl _ _ | apply below_alloc | apply below_drew1 | apply pw_below_drewN)); rintro e w4 ⟨rfl, hb_⟩; have hq_ : Below w3.heap.size w3 w4 := grew_trans zq19 hb_; have HG4 := zA (show Below w.heap.size w w4 from grew_trans HG3.out hq_); replace BKga := zA (blk_below BKga.out hq_); replace BKgb := zA (blk_below BKgb.out hq_); replace BKgr := zA (blk_below BKgr.out hq_); rw [HXA.out]; clear hb_ hq_) | (go_at_call 82; (with_reducible refine (HVB.out _ ?hw5_).mono ?_); (case hw5_ => repeat (first | exact HG4.out | exact Below.refl _ _ | apply below_alloc | apply below_drew1 | apply pw_below_drewN)); rintro e w5 ⟨rfl, hb_⟩; have hq_ : Below w4.heap.size w4 w5 := grew_trans zq26 hb_; have HG5 := zA (show Below w.heap.size w w5 from grew_trans HG4.out hq_); replace BKga := zA (blk_below BKga.out hq_); replace BKgb := zA (blk_below BKgb.out hq_); replace BKgr := zA (blk_below BKgr.out hq_); rw [HXB.out]; clear hb_ hq_) | (go_at_call 54; (with_reducible refine (HTa.out _ ?hw6_).mono ?_); (case hw6_ => repeat (first | exact HG5.out | exact Below.refl _ _ | apply below_alloc | apply below_drew1 | apply pw_below_drewN)); rintro e w6 ⟨rfl, hw_⟩; have hq_ : Below w5.heap.size w5 w6 := zq27; have HG6 := zA (show Below w.heap.size w w6 from grew_trans HG5.out hq_); replace BKga := zA (blk_below BKga.out hq_); replace BKgb := zA (blk_below BKgb.out hq_); replace BKgr := zA (blk_below BKgr.out hq_); clear hw_ hq_) | (go_at_call 54; (with_reducible refine (HTb.out _ ?hw7_).mono ?_); (case hw7_ => repeat (first | exact HG6.out | exact Below.refl _ _ | apply below_alloc | apply below_drew1 | apply pw_below_drewN)); rintro e w7 ⟨rfl, hw_⟩; have hq_ : Below w6.heap.size w6 w7 := zq27; have HG7 := zA (show Below w.heap.size w w7 from grew_trans HG6.out hq_); replace BKga := zA (blk_below BKga.out hq_); replace BKgb := zA (blk_below BKgb.out hq_); replace BKgr := zA (blk_below BKgr.out hq_); clear hw_ hq_))
     have BKR := zA BKgr.out
     obtain ⟨⟨zc0, zf0⟩, ⟨zc1, zf1⟩, ⟨zc2, zf2⟩, ⟨zc3, zf3⟩⟩ := cells4 BKR.out
     go_wp2
     refine bodyPost_ret (results_ct rfl _ _ gr 59 #[.int .i64 0, .slice none 0 0, .slice none 0 0, .slice none 0 0] (0, 0) _ rfl (by (with_reducible repeat (first | refine blk_drewN ?_ _ | refine blk_drew ?_ | refine blk_alloc ?_ _)); refine blk_put (cs := #[.int .i64 0, .slice none 0 0, .slice none 0 0, .slice none 0 0]) ?_ 3 _ rfl; (with_reducible repeat (first | refine blk_drewN ?_ _ | refine blk_drew ?_ | refine blk_alloc ?_ _)); refine blk_put (cs := #[.int .i64 0, .slice none 0 0, .slice none 0 0, .slice none 0 0]) ?_ 2 _ rfl; (with_reducible repeat (first | refine blk_drewN ?_ _ | refine blk_drew ?_ | refine blk_alloc ?_ _)); refine blk_put (cs := #[.int .i64 0, .slice none 0 0, .slice none 0 0, .slice none 0 0]) ?_ 1 _ rfl; (with_reducible repeat (first | refine blk_drewN ?_ _ | refine blk_drew ?_ | refine blk_alloc ?_ _)); refine blk_put (cs := #[.int .i64 0, .slice none 0 0, .slice none 0 0, .slice none 0 0]) ?_ 0 _ rfl; (with_reducible repeat (first | refine blk_drewN ?_ _ | refine blk_drew ?_ | refine blk_alloc ?_ _)); exact BKR.out) Tryz.underlying59 rfl zq5) rfl ?_
     rw [mrg_bad (by unfold mrgOk; rw [HXA.out, HXB.out, decide_eq_true HBE.out, decide_eq_false HTT.out]; rfl)]
     exact ⟨_, rfl, bad_M _ _, below_set (below_set (below_set (below_set (HG7.out) GEr.out) GEr.out) GEr.out) GEr.out⟩
    case pos =>
     have htz : ¬ (20000 : Int) < (totalB a.2.1 : Int) + (totalB b.2.1 : Int) := by omega
     have HTT := zA htot
     have HFM := zA (fits_merge HFA.out HFB.out hbase htot)
     have HS7 := zA (show smallBB (a.2.1 ++ b.2.1) from by show _ + _ ≤ _; rw [List.length_append, total_append]; omega)
     have HYY := zA (show Bytes (a.2.1 ++ b.2.1) from fun l hl => by
      rcases List.mem_append.1 hl with h | h
      ·exact HYA.out l h
      ·exact HYB.out l h)
     clear hbase htot
     go_enter Tryz.func61, Tryz.ntmps61
     go_wp2_with (first | ((with_reducible refine gate_dst (N := 2) rfl ?_); refine box_event ?hg (N := 2) ?hd (cs := #[.int .i64 a.1, .slice A1a a.2.1.length c1a, .slice A2a a.2.2.1.length c2a, .slice A3a a.2.2.2.length c3a]) (t := 59) ?hr ?_; (case hd => rfl); (case hg => rfl); (case hr => first | (go_simp; done) | (go_simp; rfl)); intro ga hg_ w1 hbx hbb; have BKga := zA hbx; have GEga := zA (show w.heap.size ≤ ga from Nat.le_of_eq hg_.symm); have GLga := zA (blk_lt hbx); have HBw1 := zA hbb; clear hg_ hbb; obtain ⟨⟨hgac0, hgaf0⟩, ⟨hgac1, hgaf1⟩, ⟨hgac2, hgaf2⟩, ⟨hgac3, hgaf3⟩⟩ := cells4 hbx; clear hbx) | ((with_reducible refine gate_dst (N := 3) rfl ?_); refine box_event ?hg (N := 3) ?hd (cs := #[.int .i64 b.1, .slice A1b b.2.1.length c1b, .slice A2b b.2.2.1.length c2b, .slice A3b b.2.2.2.length c3b]) (t := 59) ?hr ?_; (case hd => rfl); (case hg => rfl); (case hr => first | (go_simp; done) | (go_simp; rfl)); intro gb hg_ w2 hbx hbb; have BKgb := zA hbx; have GEgb := zA (show w1.heap.size ≤ gb from Nat.le_of_eq hg_.symm); have GLgb := zA (blk_lt hbx); have HBw2 := zA hbb; clear hg_ hbb; obtain ⟨⟨hgbc0, hgbf0⟩, ⟨hgbc1, hgbf1⟩, ⟨hgbc2, hgbf2⟩, ⟨hgbc3, hgbf3⟩⟩ := cells4 hbx; clear hbx; have n_ := zA (blk_below (g := ga) BKga.out HBw2.out); clear BKga hgac0 hgaf0 hgac1 hgaf1 hgac2 hgaf2 hgac3 hgaf3; have BKga := n_; clear n_) | ((with_reducible refine gate_dst (N := 4) rfl ?_); refine box_event ?hg (N := 4) ?hd (cs := #[.int .i64 0, .slice none 0 0, .slice none 0 0, .slice none 0 0]) (t := 59) ?hr ?_; (case hd => rfl); (case hg => rfl); (case hr => first | (go_simp; done) | (go_simp; rfl)); intro gr hg_ w3 hbx hbb; have BKgr := zA hbx; have GEgr := zA (show w2.heap.size ≤ gr from Nat.le_of_eq hg_.symm); have GLgr := zA (blk_lt hbx); have HBw3 := zA hbb; clear hg_ hbb; obtain ⟨⟨hgrc0, hgrf0⟩, ⟨hgrc1, hgrf1⟩, ⟨hgrc2, hgrf2⟩, ⟨hgrc3, hgrf3⟩⟩ := cells4 hbx; clear hbx; have n_ := zA (blk_below (g := ga) BKga.out HBw3.out); clear BKga; have BKga := n_; clear n_; have n_ := zA (blk_below (g := gb) BKgb.out HBw3.out); clear BKgb hgbc0 hgbf0 hgbc1 hgbf1 hgbc2 hgbf2 hgbc3 hgbf3; have BKgb := n_; clear n_; have HG3 := zA (show Below w.heap.size w w3 from grew_trans (grew_trans HBw1.out HBw2.out) HBw3.out); obtain ⟨⟨x0c0, x0f0⟩, ⟨x0c1, x0f1⟩, ⟨x0c2, x0f2⟩, ⟨x0c3, x0f3⟩⟩ := cells4 BKga.out; obtain ⟨⟨y0c0, y0f0⟩, ⟨y0c1, y0f1⟩, ⟨y0c2, y0f2⟩, ⟨y0c3, y0f3⟩⟩ := cells4 BKgb.out; have GEr := zA (show w.heap.size ≤ gr from Nat.le_trans (grew_trans HBw1.out HBw2.out).size GEgr.out)))
     have HKP := zA (show ∀ W : World, W.heap[ga]? = some (.cells #[.int .i64 a.1, .slice A1a a.2.1.length c1a, .slice A2a a.2.2.1.length c2a, .slice A3a a.2.2.2.length c3a] 59 (0, 0)) → W.heap[gb]? = some (.cells #[.int .i64 b.1, .slice A1b b.2.1.length c1b, .slice A2b b.2.2.1.length c2b, .slice A3b b.2.2.2.length c3b] 59 (0, 0)) → (W.cell? ⟨ga, 0, none⟩ = some (.int .i64 a.1) ∧ W.cell? ⟨ga, 1, none⟩ = some (.slice A1a a.2.1.length c1a) ∧ W.cell? ⟨ga, 2, none⟩ = some (.slice A2a a.2.2.1.length c2a) ∧ W.cell? ⟨ga, 3, none⟩ = some (.slice A3a a.2.2.2.length c3a) ∧ W.cell? ⟨gb, 0, none⟩ = some (.int .i64 b.1) ∧ W.cell? ⟨gb, 1, none⟩ = some (.slice A1b b.2.1.length c1b) ∧ W.cell? ⟨gb, 2, none⟩ = some (.slice A2b b.2.2.1.length c2b) ∧ W.cell? ⟨gb, 3, none⟩ = some (.slice A3b b.2.2.2.length c3b) ∧ W.frozen? ⟨ga, 0, none⟩ = false ∧ W.frozen? ⟨ga, 1, none⟩ = false ∧ W.frozen? ⟨ga, 2, none⟩ = false ∧ W.frozen? ⟨ga, 3, none⟩ = false ∧ W.frozen? ⟨gb, 0, none⟩ = false ∧ W.frozen? ⟨gb, 1, none⟩ = false ∧ W.frozen? ⟨gb, 2, none⟩ = false ∧ W.frozen? ⟨gb, 3, none⟩ = false) from fun W h1 h2 => ⟨(blk_cell h1 0).trans rfl, (blk_cell h1 1).trans rfl, (blk_cell h1 2).trans rfl, (blk_cell h1 3).trans rfl, (blk_cell h2 0).trans rfl, (blk_cell h2 1).trans rfl, (blk_cell h2 2).trans rfl, (blk_cell h2 3).trans rfl, blk_frozen h1 0, blk_frozen h1 1, blk_frozen h1 2, blk_frozen h1 3, blk_frozen h2 0, blk_frozen h2 1, blk_frozen h2 2, blk_frozen h2 3⟩)
     have NEa := zA (show ga ≠ gr from fun e => by have h1 := GLga.out; have h2 := GEgb.out; have h3 := HBw2.out.size; have h4 := GEgr.out; omega)
     have NEb := zA (show gb ≠ gr from fun e => by have h1 := GLgb.out; have h4 := GEgr.out; omega)
     clear x0c0 x0f0 x0c1 x0f1 x0c2 x0f2 x0c3 x0f3 y0c0 y0f0 y0c1 y0f1 y0c2 y0f2 y0c3 y0f3 hgrc0 hgrf0 hgrc1 hgrf1 hgrc2 hgrf2 hgrc3 hgrf3
     have hwr : IntKind.i64.wrap b.1 = b.1 := by rw [IntKind.wrap_i64]; omega
     have hwt : IntKind.i64.wrap ((totalB a.2.1 : Int) + (totalB b.2.1 : Int)) = (totalB a.2.1 : Int) + (totalB b.2.1 : Int) := by rw [IntKind.wrap_i64]; clear hwr; omega
     go_region_held3 (fun W_ => W_.cell? ⟨ga, 0, none⟩ = some (.int .i64 a.1) ∧ W_.cell? ⟨ga, 1, none⟩ = some (.slice A1a a.2.1.length c1a) ∧ W_.cell? ⟨ga, 2, none⟩ = some (.slice A2a a.2.2.1.length c2a) ∧ W_.cell? ⟨ga, 3, none⟩ = some (.slice A3a a.2.2.2.length c3a) ∧ W_.cell? ⟨gb, 0, none⟩ = some (.int .i64 b.1) ∧ W_.cell? ⟨gb, 1, none⟩ = some (.slice A1b b.2.1.length c1b) ∧ W_.cell? ⟨gb, 2, none⟩ = some (.slice A2b b.2.2.1.length c2b) ∧ W_.cell? ⟨gb, 3, none⟩ = some (.slice A3b b.2.2.2.length c3b) ∧ W_.frozen? ⟨ga, 0, none⟩ = false ∧ W_.frozen? ⟨ga, 1, none⟩ = false ∧ W_.frozen? ⟨ga, 2, none⟩ = false ∧ W_.frozen? ⟨ga, 3, none⟩ = false ∧ W_.frozen? ⟨gb, 0, none⟩ = false ∧ W_.frozen? ⟨gb, 1, none⟩ = false ∧ W_.frozen? ⟨gb, 2, none⟩ = false ∧ W_.frozen? ⟨gb, 3, none⟩ = false) ((refine HKP.out _ ?_ ?_ <;> (repeat (with_reducible first | exact BKga.out | exact BKgb.out | refine blk_alloc ?_ _ | refine blk_drew ?_ | refine blk_drewN ?_ _ | refine blk_far ?_ NEa.out _ | refine blk_far ?_ NEb.out _)))) (first | (go_at_call 82; (with_reducible refine (HVA.out _ ?hw4_).mono ?_); (case hw4_ => repeat (first | exact HG3.out | exact Below.refl _ _ | apply below_alloc | apply below_drew1 | apply pw_below_drewN)); rintro e w4 ⟨rfl, hb_⟩; have hq_ : Below w3.heap.size w3 w4 := grew_trans zq19 hb_; have HG4 := zA (show Below w.heap.size w w4 from grew_trans HG3.out hq_); replace BKga := zA (blk_below BKga.out hq_); replace BKgb := zA (blk_below BKgb.out hq_); replace BKgr := zA (blk_below BKgr.out hq_); rw [HXA.out]; clear hb_ hq_) | (go_at_call 82; (with_reducible refine (HVB.out _ ?hw5_).mono ?_); (case hw5_ => repeat (first | exact HG4.out | exact Below.refl _ _ | apply below_alloc | apply below_drew1 | apply pw_below_drewN)); rintro e w5 ⟨rfl, hb_⟩; have hq_ : Below w4.heap.size w4 w5 := grew_trans zq26 hb_; have HG5 := zA (show Below w.heap.size w w5 from grew_trans HG4.out hq_); replace BKga := zA (blk_below BKga.out hq_); replace BKgb := zA (blk_below BKgb.out hq_); replace BKgr := zA (blk_below BKgr.out hq_); rw [HXB.out]; clear hb_ hq_) | (go_at_call 54; (with_reducible refine (HTa.out _ ?hw6_).mono ?_); (case hw6_ => repeat (first | exact HG5.out | exact Below.refl _ _ | apply below_alloc | apply below_drew1 | apply pw_below_drewN)); rintro e w6 ⟨rfl, hw_⟩; have hq_ : Below w5.heap.size w5 w6 := zq27; have HG6 := zA (show Below w.heap.size w w6 from grew_trans HG5.out hq_); replace BKga := zA (blk_below BKga.out hq_); replace BKgb := zA (blk_below BKgb.out hq_); replace BKgr := zA (blk_below BKgr.out hq_); clear hw_ hq_) | (go_at_call 54; (with_reducible refine (HTb.out _ ?hw7_).mono ?_); (case hw7_ => repeat (first | exact HG6.out | exact Below.refl _ _ | apply below_alloc | apply below_drew1 | apply pw_below_drewN)); rintro e w7 ⟨rfl, hw_⟩; have hq_ : Below w6.heap.size w6 w7 := zq27; have HG7 := zA (show Below w.heap.size w w7 from grew_trans HG6.out hq_); replace BKga := zA (blk_below BKga.out hq_); replace BKgb := zA (blk_below BKgb.out hq_); replace BKgr := zA (blk_below BKgr.out hq_); clear hw_ hq_))
     clear hwr hwt
     go_wp2_with fail
     refine wp_region_held_drew (S := (fun W_ => W_.cell? ⟨ga, 0, none⟩ = some (.int .i64 a.1) ∧ W_.cell? ⟨ga, 1, none⟩ = some (.slice A1a a.2.1.length c1a) ∧ W_.cell? ⟨ga, 2, none⟩ = some (.slice A2a a.2.2.1.length c2a) ∧ W_.cell? ⟨ga, 3, none⟩ = some (.slice A3a a.2.2.2.length c3a) ∧ W_.cell? ⟨gb, 0, none⟩ = some (.int .i64 b.1) ∧ W_.cell? ⟨gb, 1, none⟩ = some (.slice A1b b.2.1.length c1b) ∧ W_.cell? ⟨gb, 2, none⟩ = some (.slice A2b b.2.2.1.length c2b) ∧ W_.cell? ⟨gb, 3, none⟩ = some (.slice A3b b.2.2.2.length c3b) ∧ W_.frozen? ⟨ga, 0, none⟩ = false ∧ W_.frozen? ⟨ga, 1, none⟩ = false ∧ W_.frozen? ⟨ga, 2, none⟩ = false ∧ W_.frozen? ⟨ga, 3, none⟩ = false ∧ W_.frozen? ⟨gb, 0, none⟩ = false ∧ W_.frozen? ⟨gb, 1, none⟩ = false ∧ W_.frozen? ⟨gb, 2, none⟩ = false ∧ W_.frozen? ⟨gb, 3, none⟩ = false)) zq5 (by (try dsimp only); (refine HKP.out _ ?_ ?_ <;> (repeat (with_reducible first | exact BKga.out | exact BKgb.out | refine blk_alloc ?_ _ | refine blk_drew ?_ | refine blk_drewN ?_ _ | refine blk_far ?_ NEa.out _ | refine blk_far ?_ NEb.out _)))) (fun hHeld => ?_)
     refine wpAnyH_take (i := 0) (v := ?_) rfl zq5 zq5 zq5 (fun _ _ _ h => h) (Or.inl ⟨zq16, ?_⟩) hHeld ?_
     rotate_left
     ·intro w_ hSw; (try dsimp only at hSw); go_simp; try with_reducible rfl
     simp only [Act.put, List.setIfInBounds_toArray, List.set_cons_zero, List.set_cons_succ, List.getElem_toArray, List.getElem_cons_zero, List.getElem_cons_succ, Array.getInternal_eq_getElem]
     refine wpAnyH_take (i := 1) (v := ?_) rfl zq5 zq5 zq5 (fun _ _ _ h => h) (Or.inl ⟨zq16, ?_⟩) hHeld ?_
     rotate_left
     ·intro w_ hSw; (try dsimp only at hSw); go_simp; try with_reducible rfl
     simp only [Act.put, List.setIfInBounds_toArray, List.set_cons_zero, List.set_cons_succ, List.getElem_toArray, List.getElem_cons_zero, List.getElem_cons_succ, Array.getInternal_eq_getElem]
     refine wpAnyH_take (i := 2) (v := ?_) rfl zq5 zq5 zq5 (fun _ _ _ h => h) (Or.inl ⟨zq16, ?_⟩) hHeld ?_
     rotate_left
     ·intro w_ hSw; (try dsimp only at hSw); go_simp; try with_reducible rfl
     simp only [Act.put, List.setIfInBounds_toArray, List.set_cons_zero, List.set_cons_succ, List.getElem_toArray, List.getElem_cons_zero, List.getElem_cons_succ, Array.getInternal_eq_getElem]
     refine wpAnyH_take (i := 3) (v := ?_) rfl zq5 zq5 zq5 (fun _ _ _ h => h) (Or.inl ⟨zq16, ?_⟩) hHeld ?_
     rotate_left
     ·intro w_ hSw; (try dsimp only at hSw); go_simp; try with_reducible rfl
     simp only [Act.put, List.setIfInBounds_toArray, List.set_cons_zero, List.set_cons_succ, List.getElem_toArray, List.getElem_cons_zero, List.getElem_cons_succ, Array.getInternal_eq_getElem]
     refine wpAnyH_take (i := 4) (v := ?_) rfl zq5 zq5 zq5 (fun _ _ _ h => h) (Or.inl ⟨zq16, ?_⟩) hHeld ?_
     rotate_left
     ·intro w_ hSw; (try dsimp only at hSw); go_simp; try with_reducible rfl
     simp only [Act.put, List.setIfInBounds_toArray, List.set_cons_zero, List.set_cons_succ, List.getElem_toArray, List.getElem_cons_zero, List.getElem_cons_succ, Array.getInternal_eq_getElem]
     refine wpAnyH_take (i := 5) (v := ?_) rfl zq5 zq5 zq5 (fun _ _ _ h => h) (Or.inl ⟨zq16, ?_⟩) hHeld ?_
     rotate_left
     ·intro w_ hSw; (try dsimp only at hSw); go_simp; try with_reducible rfl
     simp only [Act.put, List.setIfInBounds_toArray, List.set_cons_zero, List.set_cons_succ, List.getElem_toArray, List.getElem_cons_zero, List.getElem_cons_succ, Array.getInternal_eq_getElem]
     refine wpAnyH_ready (rs := [6]) zq5 zq12 ?_
     refine AllReadyH.cons rfl (fun K hK => ?_) AllReadyH.nil
     simp only [List.getElem_toArray, List.getElem_cons_zero, List.getElem_cons_succ, Array.getInternal_eq_getElem]
     go_simp
     clear hHeld
     refine hK.out _ _ (by (try dsimp only); (refine HKP.out _ ?_ ?_ <;> (repeat (with_reducible first | exact BKga.out | exact BKgb.out | refine blk_alloc ?_ _ | refine blk_drew ?_ | refine blk_drewN ?_ _ | refine blk_far ?_ NEa.out _ | refine blk_far ?_ NEb.out _)))) (fun hHeld => ?_)
     clear hK K
     (try simp only [Act.put, List.setIfInBounds_toArray, List.set_cons_zero, List.set_cons_succ, List.getElem_toArray, List.getElem_cons_zero, List.getElem_cons_succ, Array.getInternal_eq_getElem])
     refine wpAnyH_ready (rs := [7]) zq5 zq12 ?_
     refine AllReadyH.cons rfl (fun K hK => ?_) AllReadyH.nil
     simp only [List.getElem_toArray, List.getElem_cons_zero, List.getElem_cons_succ, Array.getInternal_eq_getElem]
     go_simp
     go_at_call 84; refine (concat_calls w7.heap.size A1a A1b c1a c1b a.2.1 b.2.1 w7 _ (by repeat (first | exact (Below.refl _ w7) | exact Below.refl _ _ | apply below_alloc | apply below_drew1 | apply pw_below_drewN)) (Kd.C_below C1a.out HG7.out) (Kd.C_below C1b.out HG7.out) ?hT zq1).mono ?_; (case hT => exact ⟨(blk_cell (heap_alloc_new _ _) 0).trans rfl, (blk_cell (heap_alloc_new _ _) 1).trans rfl⟩); rintro e w8 ⟨v8, rfl, hR8, hq_⟩; have HG8 := zA (show Below w.heap.size w w8 from grew_trans HG7.out hq_); have HB78 := zA hq_; replace BKga := zA (blk_below BKga.out hq_); replace BKgb := zA (blk_below BKgb.out hq_); replace BKgr := zA (blk_below BKgr.out hq_); obtain ⟨A8, c8, e8, hc8, hr8⟩ := Kd.R_reads hR8; rw [List.length_append] at e8; subst e8; have HC8 := zA (far_C hr8 hq_); have HL8 := zA hc8; clear hq_ hR8 hc8 hr8
     go_wp2_with fail
     clear hHeld
     refine hK.out _ _ (by (try dsimp only); (refine HKP.out _ ?_ ?_ <;> (repeat (with_reducible first | exact BKga.out | exact BKgb.out | refine blk_alloc ?_ _ | refine blk_drew ?_ | refine blk_drewN ?_ _ | refine blk_far ?_ NEa.out _ | refine blk_far ?_ NEb.out _)))) (fun hHeld => ?_)
     clear hK K
     (try simp only [Act.put, List.setIfInBounds_toArray, List.set_cons_zero, List.set_cons_succ, List.getElem_toArray, List.getElem_cons_zero, List.getElem_cons_succ, Array.getInternal_eq_getElem])
     refine wpAnyH_ready (rs := [8]) zq5 zq12 ?_
     refine AllReadyH.cons rfl (fun K hK => ?_) AllReadyH.nil
     simp only [List.getElem_toArray, List.getElem_cons_zero, List.getElem_cons_succ, Array.getInternal_eq_getElem]
     go_simp
     go_at_call 83; refine (build_n a.1 A8 (a.2.1.length + b.2.1.length) c8 (a.2.1 ++ b.2.1) (List.length_append ..).symm _ (Kd.C_below HC8.out (by repeat (first | exact (Below.refl _ w8) | exact Below.refl _ _ | apply below_alloc | apply below_drew1 | apply pw_below_drewN))) HL8.out HYY.out HS7.out HFM.out).mono ?_; rintro e w9 ⟨D1, d1, D2, d2, D3, d3, rfl, hM9, hb_⟩; have hq_ : Below w8.heap.size w8 w9 := grew_trans (by repeat (first | exact (Below.refl _ w8) | exact Below.refl _ _ | apply below_alloc | apply below_drew1 | apply pw_below_drewN)) hb_; have HRL := zA (show gr < w8.heap.size from blk_lt BKgr.out); have HG9 := zA (show Below w.heap.size w w9 from grew_trans HG8.out hq_); have HM9 := zA (show tSeg.M w9 w8.heap.size (fun _ => True) (seg a.1 (a.2.1 ++ b.2.1)) _ from hM9); replace BKga := zA (blk_below BKga.out hq_); replace BKgb := zA (blk_below BKgb.out hq_); replace BKgr := zA (blk_below BKgr.out hq_); obtain ⟨⟨zc0, zf0⟩, ⟨zc1, zf1⟩, ⟨zc2, zf2⟩, ⟨zc3, zf3⟩⟩ := cells4 BKgr.out; clear hb_ hq_ hM9
     go_wp2_with fail
     clear hHeld
     refine hK.out _ _ (by (try dsimp only); (refine HKP.out _ ?_ ?_ <;> (repeat (with_reducible first | exact BKga.out | exact BKgb.out | refine blk_alloc ?_ _ | refine blk_drew ?_ | refine blk_drewN ?_ _ | refine blk_far ?_ NEa.out _ | refine blk_far ?_ NEb.out _)))) (fun hHeld => ?_)
     clear hK K
     (try simp only [Act.put, List.setIfInBounds_toArray, List.set_cons_zero, List.set_cons_succ, List.getElem_toArray, List.getElem_cons_zero, List.getElem_cons_succ, Array.getInternal_eq_getElem])
     refine wpAnyH_take (i := 9) (v := ?_) rfl zq5 zq5 zq5 (fun _ _ _ h => h) (Or.inl ⟨zq16, ?_⟩) hHeld ?_
     rotate_left
     ·intro w_ hSw; (try dsimp only at hSw); go_simp; try with_reducible rfl
     simp only [Act.put, List.setIfInBounds_toArray, List.set_cons_zero, List.set_cons_succ, List.getElem_toArray, List.getElem_cons_zero, List.getElem_cons_succ, Array.getInternal_eq_getElem]
     refine wpAnyH_take (i := 10) (v := ?_) rfl zq5 zq5 zq5 (fun _ _ _ h => h) (Or.inl ⟨zq16, ?_⟩) hHeld ?_
     rotate_left
     ·intro w_ hSw; (try dsimp only at hSw); go_simp; try with_reducible rfl
     simp only [Act.put, List.setIfInBounds_toArray, List.set_cons_zero, List.set_cons_succ, List.getElem_toArray, List.getElem_cons_zero, List.getElem_cons_succ, Array.getInternal_eq_getElem]
     refine wpAnyH_ready (rs := [11]) zq5 zq12 ?_
     refine AllReadyH.cons rfl (fun K hK => ?_) AllReadyH.nil
     simp only [List.getElem_toArray, List.getElem_cons_zero, List.getElem_cons_succ, Array.getInternal_eq_getElem]
     go_simp
     clear hHeld
     refine hK.out _ _ (by (try dsimp only); (refine HKP.out _ ?_ ?_ <;> (repeat (with_reducible first | exact BKga.out | exact BKgb.out | refine blk_alloc ?_ _ | refine blk_drew ?_ | refine blk_drewN ?_ _ | refine blk_far ?_ NEa.out _ | refine blk_far ?_ NEb.out _)))) (fun hHeld => ?_)
     clear hK K
     (try simp only [Act.put, List.setIfInBounds_toArray, List.set_cons_zero, List.set_cons_succ, List.getElem_toArray, List.getElem_cons_zero, List.getElem_cons_succ, Array.getInternal_eq_getElem])
     refine wpAnyH_take (i := 12) (v := ?_) rfl zq5 zq5 zq5 (fun _ _ _ h => h) (Or.inl ⟨zq16, ?_⟩) hHeld ?_
     rotate_left
     ·intro w_ hSw; (try dsimp only at hSw); go_simp; try with_reducible rfl
     simp only [Act.put, List.setIfInBounds_toArray, List.set_cons_zero, List.set_cons_succ, List.getElem_toArray, List.getElem_cons_zero, List.getElem_cons_succ, Array.getInternal_eq_getElem]
     refine wpAnyH_done zq5 ?_ _
     go_wp2
     refine bodyPost_ret (results_ct rfl _ _ gr 59 #[.int .i64 a.1, .slice D1 (a.2.1.length + b.2.1.length) d1, .slice D2 (keys (a.2.1 ++ b.2.1)).length d2, .slice D3 (keys (a.2.1 ++ b.2.1)).length d3] (0, 0) _ rfl (by (with_reducible repeat (first | refine blk_drewN ?_ _ | refine blk_drew ?_ | refine blk_alloc ?_ _)); refine blk_put (cs := #[.int .i64 a.1, .slice D1 (a.2.1.length + b.2.1.length) d1, .slice D2 (keys (a.2.1 ++ b.2.1)).length d2, .slice none 0 0]) ?_ 3 _ rfl; (with_reducible repeat (first | refine blk_drewN ?_ _ | refine blk_drew ?_ | refine blk_alloc ?_ _)); refine blk_put (cs := #[.int .i64 a.1, .slice D1 (a.2.1.length + b.2.1.length) d1, .slice none 0 0, .slice none 0 0]) ?_ 2 _ rfl; (with_reducible repeat (first | refine blk_drewN ?_ _ | refine blk_drew ?_ | refine blk_alloc ?_ _)); refine blk_put (cs := #[.int .i64 a.1, .slice none 0 0, .slice none 0 0, .slice none 0 0]) ?_ 1 _ rfl; (with_reducible repeat (first | refine blk_drewN ?_ _ | refine blk_drew ?_ | refine blk_alloc ?_ _)); refine blk_put (cs := #[.int .i64 0, .slice none 0 0, .slice none 0 0, .slice none 0 0]) ?_ 0 _ rfl; (with_reducible repeat (first | refine blk_drewN ?_ _ | refine blk_drew ?_ | refine blk_alloc ?_ _)); exact BKgr.out) Tryz.underlying59 rfl zq5) rfl ?_
     rw [mrg_good (by unfold mrgOk; rw [HXA.out, HXB.out, decide_eq_true HBE.out, decide_eq_true HTT.out]; rfl)]
     refine ⟨_, rfl, ?_, below_set (below_set (below_set (below_set (HG9.out) GEr.out) GEr.out) GEr.out) GEr.out⟩
     have h1 := HRL.out
     exact tSeg.M_mono (fun _ _ => trivial) (Ty.M_set (T := tSeg) (Ty.M_set (T := tSeg) (Ty.M_set (T := tSeg) (Ty.M_set (T := tSeg) (tSeg.M_lower HG8.out.size (tSeg.M_bound HM9.out)) (fun k hk e => by have := hk.2.1; omega) _) (fun k hk e => by have := hk.2.1; omega) _) (fun k hk e => by have := hk.2.1; omega) _) (fun k hk e => by have := hk.2.1; omega) _)
end Go.Proofs.YtmgmdnmfalepkaaGreat.Mrg
