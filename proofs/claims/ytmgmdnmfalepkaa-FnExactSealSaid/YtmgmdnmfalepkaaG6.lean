/- Parts of the proof (see the row's own text): HelpSta. -/
import Derived.Test.YtmgmdnmfalepkaaG5
namespace Go.Proofs.Ytmgmdnmfalepkaa.HelpSta
open Go.RowKit Go.Proofs.YtmgmdnmfalepkaaW.PrintWords Go.Proofs.YtmgmdnmfalepkaaW.PrintMore Go.Proofs.Ytmgmdnmfalepkaa.Kit Go.Proofs.Ytmgmdnmfalepkaa.PKit Go.Proofs.Ytmgmdnmfalepkaa.L Go.Proofs.Ytmgmdnmfalepkaa.Ty
set_option linter.unusedVariables false
abbrev X := List (List Int) × List (List Int)
def tys : Tys X := (Tys.cons HelpBB.tBB (Tys.one HelpBB.tBB))
abbrev tSta : Ty X := Ty.agg tys
abbrev cntSta (x : X) : Nat := HelpBB.cntBB x.1 + HelpBB.cntBB x.2
abbrev bdSta (x : X) : Prop := HelpBB.bdBB x.1 ∧ HelpBB.bdBB x.2
abbrev smallSta (x : X) : Prop := (x.1.length + HelpBB.totalB x.1) + (x.2.length + HelpBB.totalB x.2) ≤ 1048576
theorem small_parts {x : X} (h : smallSta x) : HelpBB.smallBB x.1 ∧ HelpBB.smallBB x.2 := by
  have h' : (x.1.length + HelpBB.totalB x.1) + (x.2.length + HelpBB.totalB x.2) ≤ 1048576 := h
  exact ⟨by show (x.1.length + HelpBB.totalB x.1) ≤ _; omega, by show (x.2.length + HelpBB.totalB x.2) ≤ _; omega⟩
theorem bd_small {x : X} (h : smallSta x) : bdSta x := by
  obtain ⟨s0, s1⟩ := small_parts h
  exact ⟨HelpBB.bd_small s0, HelpBB.bd_small s1⟩
theorem cnt_small {x : X} (h : smallSta x) : cntSta x ≤ 1048576 := by
  have h' : (x.1.length + HelpBB.totalB x.1) + (x.2.length + HelpBB.totalB x.2) ≤ 1048576 := h
  show HelpBB.totalB x.1 + HelpBB.totalB x.2 ≤ _
  omega
def markSta (a : Int) (x : X) : X := (HelpBB.markBB (a) x.1, HelpBB.markBB (a + (HelpBB.cntBB x.1 : Int)) x.2)
set_option maxRecDepth 100000 in
set_option maxHeartbeats 4000000 in
theorem to_calls (x : X) (v : Value) (w : World) (h : tSta.K w x v) (hb : bdSta x) :
    Calls Try.prog 53 #[v] w fun e w' => ∃ v', e = .returned v' ∧ tSta.M w' w.heap.size (fun _ => True) x v' ∧ Grew w w' := by
  have huL := Try.underlying71
  have huI := Try.underlying73
  obtain ⟨y0, y1⟩ := x
  obtain ⟨b0, b1⟩ := hb
  have B0 := Aside0.mk b0
  clear b0
  have B1 := Aside0.mk b1
  clear b1
  obtain ⟨l, rfl, hl⟩ := h
  obtain ⟨u0, r0, rfl, h0, hl0⟩ := hl
  obtain ⟨u1, rfl, h1⟩ := hl0
  obtain ⟨A0, c0, rfl, hc0, hr0⟩ := h0
  obtain ⟨A1, c1, rfl, hc1, hr1⟩ := h1
  have K0 := Aside0.mk (show HelpBB.tBB.K w y0 (.slice A0 y0.length c0) from ⟨A0, c0, rfl, hc0, hr0⟩)
  clear hc0 hr0
  have K1 := Aside0.mk (show HelpBB.tBB.K w y1 (.slice A1 y1.length c1) from ⟨A1, c1, rfl, hc1, hr1⟩)
  clear hc1 hr1
  show Calls _ _ #[.agg #[.slice A0 y0.length c0, .slice A1 y1.length c1]] w _
  have HB := Aside0.mk (Below.refl w.heap.size w)
  go_enter Try.func53, Try.ntmps53
  go_wp2_with (first | ((with_reducible refine gate_dst (N := 1) rfl ?_); refine box_event ?hg (N := 1) ?hd (cs := #[.slice A0 y0.length c0, .slice A1 y1.length c1]) (t := 71) ?hr ?_; (case hd => rfl); (case hg => rfl); (case hr => first | (go_simp; done) | (go_simp; rfl)); intro g1 hg w1 hbox hb; have GS1 := Aside0.mk (show w.heap.size = g1 from hg.symm); have nb_ := Aside0.mk (below_step HB.out hb); have BK1 := Aside0.mk hbox; have GE1 := Aside0.mk ((by rw [hg]; exact HB.out.size) : w.heap.size ≤ g1); clear HB; have HB := nb_; clear nb_ hb hbox hg) | ((with_reducible refine gate_dst (N := 2) rfl ?_); refine box_event ?hg (N := 2) ?hd (cs := #[.slice none 0 0, .slice none 0 0]) (t := 73) ?hr ?_; (case hd => rfl); (case hg => rfl); (case hr => first | (go_simp; done) | (go_simp; rfl)); intro g2 hg w2 hbox hb; have GS2 := Aside0.mk (show w1.heap.size = g2 from hg.symm); have n1_ := Aside0.mk (blk_below (g := g1) (o := .cells #[.slice A0 y0.length c0, .slice A1 y1.length c1] 71 (0, 0)) BK1.out hb); have nb_ := Aside0.mk (below_step HB.out hb); have BK2 := Aside0.mk hbox; have GE2 := Aside0.mk ((by rw [hg]; exact HB.out.size) : w.heap.size ≤ g2); have NE1_2 := Aside0.mk ((by rw [hg]; exact Nat.ne_of_lt (blk_lt BK1.out)) : g1 ≠ g2); have NE2_1 := Aside0.mk (Ne.symm NE1_2.out); clear BK1; have BK1 := n1_; clear n1_; clear HB; have HB := nb_; clear nb_ hb hbox hg) | ((with_reducible refine gate_dst (N := 3) rfl ?_); refine box_event ?hg (N := 3) ?hd (cs := #[.slice none 0 0, .slice none 0 0]) (t := 73) ?hr ?_; (case hd => rfl); (case hg => rfl); (case hr => first | (go_simp; done) | (go_simp; rfl)); intro g3 hg w3 hbox hb; have GS3 := Aside0.mk (show w2.heap.size = g3 from hg.symm); have n1_ := Aside0.mk (blk_below (g := g1) (o := .cells #[.slice A0 y0.length c0, .slice A1 y1.length c1] 71 (0, 0)) BK1.out hb); have n2_ := Aside0.mk (blk_below (g := g2) (o := .cells #[.slice none 0 0, .slice none 0 0] 73 (0, 0)) BK2.out hb); have nb_ := Aside0.mk (below_step HB.out hb); have BK3 := Aside0.mk hbox; have GE3 := Aside0.mk ((by rw [hg]; exact HB.out.size) : w.heap.size ≤ g3); have NE1_3 := Aside0.mk ((by rw [hg]; exact Nat.ne_of_lt (blk_lt BK1.out)) : g1 ≠ g3); have NE3_1 := Aside0.mk (Ne.symm NE1_3.out); clear BK1; have BK1 := n1_; clear n1_; have NE2_3 := Aside0.mk ((by rw [hg]; exact Nat.ne_of_lt (blk_lt BK2.out)) : g2 ≠ g3); have NE3_2 := Aside0.mk (Ne.symm NE2_3.out); clear BK2; have BK2 := n2_; clear n2_; clear HB; have HB := nb_; clear nb_ hb hbox hg; have hn31 := NE3_1.out; have hn13 := NE1_3.out; have hn21 := NE2_1.out; have hn12 := NE1_2.out; have hn32 := NE3_2.out; have hn23 := NE2_3.out; have hczw3_1_0 : w3.cell? ⟨g1, 0, none⟩ = some (.slice A0 y0.length c0) := (blk_cell BK1.out 0).trans rfl; have hfzw3_1_0 := blk_frozen (w := w3) BK1.out 0; have hczw3_1_1 : w3.cell? ⟨g1, 1, none⟩ = some (.slice A1 y1.length c1) := (blk_cell BK1.out 1).trans rfl; have hfzw3_1_1 := blk_frozen (w := w3) BK1.out 1; have hczw3_3_0 : w3.cell? ⟨g3, 0, none⟩ = some (.slice none 0 0) := (blk_cell BK3.out 0).trans rfl; have hfzw3_3_0 := blk_frozen (w := w3) BK3.out 0; have hczw3_3_1 : w3.cell? ⟨g3, 1, none⟩ = some (.slice none 0 0) := (blk_cell BK3.out 1).trans rfl; have hfzw3_3_1 := blk_frozen (w := w3) BK3.out 1; have hczw3_2_0 : w3.cell? ⟨g2, 0, none⟩ = some (.slice none 0 0) := (blk_cell BK2.out 0).trans rfl; have hfzw3_2_0 := blk_frozen (w := w3) BK2.out 0; have hczw3_2_1 : w3.cell? ⟨g2, 1, none⟩ = some (.slice none 0 0) := (blk_cell BK2.out 1).trans rfl; have hfzw3_2_1 := blk_frozen (w := w3) BK2.out 1) | (go_at_call 39; (with_reducible refine gate_args (as_ := #[.slice A0 y0.length c0]) rfl ?_); refine (HelpBB.to_calls y0 (.slice A0 y0.length c0) _ ?sa B0.out).mono ?_; (case sa => exact HelpBB.tBB.K_below (by repeat (first | (with_reducible first | exact HB.out | apply below_alloc | apply pw_below_drewN | apply below_drew1 | refine below_set ?_ GE1.out | refine below_set ?_ GE2.out | refine below_set ?_ GE3.out) | exact HB.out)) K0.out); rintro e w4 ⟨v0, rfl, hm, hg⟩; have hq : w3.heap.size ≤ w4.heap.size := (by have h1 := hg.size; simpa [World.setCell] using h1); have n1_ := Aside0.mk (blk_below (g := g1) (o := .cells #[.slice A0 y0.length c0, .slice A1 y1.length c1] 71 (0, 0)) (by (with_reducible repeat (first | refine blk_drewN ?_ _ | refine blk_drew ?_ | refine blk_alloc ?_ _)); exact BK1.out) hg); have n2_ := Aside0.mk (blk_below (g := g2) (o := .cells #[.slice none 0 0, .slice none 0 0] 73 (0, 0)) (by (with_reducible repeat (first | refine blk_drewN ?_ _ | refine blk_drew ?_ | refine blk_alloc ?_ _)); exact BK2.out) hg); have n3_ := Aside0.mk (blk_below (g := g3) (o := .cells #[.slice none 0 0, .slice none 0 0] 73 (0, 0)) (by (with_reducible repeat (first | refine blk_drewN ?_ _ | refine blk_drew ?_ | refine blk_alloc ?_ _)); exact BK3.out) hg); have M0 := Aside0.mk (show HelpBB.tBB.M w4 w.heap.size (fun k => w3.heap.size ≤ k ∧ k < w4.heap.size) y0 v0 from HelpBB.tBB.M_mono (fun k hk => ⟨by have h1 := hk.1; simpa [World.setCell] using h1, hk.2⟩) (HelpBB.tBB.M_lower (below_size (by repeat (first | (with_reducible first | exact HB.out | apply below_alloc | apply pw_below_drewN | apply below_drew1 | refine below_set ?_ GE1.out | refine below_set ?_ GE2.out | refine below_set ?_ GE3.out) | exact HB.out))) (Ty.M_beyond hm))); have L3_0 := Aside0.mk (show g3 < w3.heap.size from blk_lt BK3.out); have L2_0 := Aside0.mk (show g2 < w3.heap.size from blk_lt BK2.out); have Q0 := Aside0.mk hq; have nb_ := Aside0.mk (below_step (by repeat (first | (with_reducible first | exact HB.out | apply below_alloc | apply pw_below_drewN | apply below_drew1 | refine below_set ?_ GE1.out | refine below_set ?_ GE2.out | refine below_set ?_ GE3.out) | exact HB.out)) hg); clear BK1 BK2 BK3 HB; have BK1 := n1_; have BK2 := n2_; have BK3 := n3_; have HB := nb_; clear n1_ n2_ n3_ nb_ hg hm hq; obtain ⟨A0t, c0t, e0, _, _⟩ := HelpBB.tBB.K_of_M M0.out; subst e0; have hczw4_1_0 : w4.cell? ⟨g1, 0, none⟩ = some (.slice A0 y0.length c0) := (blk_cell BK1.out 0).trans rfl; have hfzw4_1_0 := blk_frozen (w := w4) BK1.out 0; have hczw4_1_1 : w4.cell? ⟨g1, 1, none⟩ = some (.slice A1 y1.length c1) := (blk_cell BK1.out 1).trans rfl; have hfzw4_1_1 := blk_frozen (w := w4) BK1.out 1; have hczw4_3_0 : w4.cell? ⟨g3, 0, none⟩ = some (.slice none 0 0) := (blk_cell BK3.out 0).trans rfl; have hfzw4_3_0 := blk_frozen (w := w4) BK3.out 0; have hczw4_3_1 : w4.cell? ⟨g3, 1, none⟩ = some (.slice none 0 0) := (blk_cell BK3.out 1).trans rfl; have hfzw4_3_1 := blk_frozen (w := w4) BK3.out 1; have hczw4_2_0 : w4.cell? ⟨g2, 0, none⟩ = some (.slice none 0 0) := (blk_cell BK2.out 0).trans rfl; have hfzw4_2_0 := blk_frozen (w := w4) BK2.out 0; have hczw4_2_1 : w4.cell? ⟨g2, 1, none⟩ = some (.slice none 0 0) := (blk_cell BK2.out 1).trans rfl; have hfzw4_2_1 := blk_frozen (w := w4) BK2.out 1) | (go_at_call 39; (with_reducible refine gate_args (as_ := #[.slice A1 y1.length c1]) rfl ?_); refine (HelpBB.to_calls y1 (.slice A1 y1.length c1) _ ?sa B1.out).mono ?_; (case sa => exact HelpBB.tBB.K_below (by repeat (first | (with_reducible first | exact HB.out | apply below_alloc | apply pw_below_drewN | apply below_drew1 | refine below_set ?_ GE1.out | refine below_set ?_ GE2.out | refine below_set ?_ GE3.out) | exact HB.out)) K1.out); rintro e w5 ⟨v1, rfl, hm, hg⟩; have hq : w4.heap.size ≤ w5.heap.size := (by have h1 := hg.size; simpa [World.setCell] using h1); have n1_ := Aside0.mk (blk_below (g := g1) (o := .cells #[.slice A0 y0.length c0, .slice A1 y1.length c1] 71 (0, 0)) (by (with_reducible repeat (first | refine blk_drewN ?_ _ | refine blk_drew ?_ | refine blk_alloc ?_ _)); refine blk_far ?_ NE1_3.out _; (with_reducible repeat (first | refine blk_drewN ?_ _ | refine blk_drew ?_ | refine blk_alloc ?_ _)); exact BK1.out) hg); have n2_ := Aside0.mk (blk_below (g := g2) (o := .cells #[.slice none 0 0, .slice none 0 0] 73 (0, 0)) (by (with_reducible repeat (first | refine blk_drewN ?_ _ | refine blk_drew ?_ | refine blk_alloc ?_ _)); refine blk_far ?_ NE2_3.out _; (with_reducible repeat (first | refine blk_drewN ?_ _ | refine blk_drew ?_ | refine blk_alloc ?_ _)); exact BK2.out) hg); have n3_ := Aside0.mk (blk_below (g := g3) (o := .cells #[.slice A0t y0.length c0t, .slice none 0 0] 73 (0, 0)) (by (with_reducible repeat (first | refine blk_drewN ?_ _ | refine blk_drew ?_ | refine blk_alloc ?_ _)); refine blk_put (cs := #[.slice none 0 0, .slice none 0 0]) ?_ 0 _ rfl; (with_reducible repeat (first | refine blk_drewN ?_ _ | refine blk_drew ?_ | refine blk_alloc ?_ _)); exact BK3.out) hg); have m0_ := Aside0.mk (Ty.M_below (Ty.M_set M0.out (fun k hk e => by have h1 := hk.1; have h2 := L3_0.out; omega) _) hg); have M1 := Aside0.mk (show HelpBB.tBB.M w5 w.heap.size (fun k => w4.heap.size ≤ k ∧ k < w5.heap.size) y1 v1 from HelpBB.tBB.M_mono (fun k hk => ⟨by have h1 := hk.1; simpa [World.setCell] using h1, hk.2⟩) (HelpBB.tBB.M_lower (below_size (by repeat (first | (with_reducible first | exact HB.out | apply below_alloc | apply pw_below_drewN | apply below_drew1 | refine below_set ?_ GE1.out | refine below_set ?_ GE2.out | refine below_set ?_ GE3.out) | exact HB.out))) (Ty.M_beyond hm))); have L3_1 := Aside0.mk (show g3 < w4.heap.size from blk_lt BK3.out); have L2_1 := Aside0.mk (show g2 < w4.heap.size from blk_lt BK2.out); have Q1 := Aside0.mk hq; have nb_ := Aside0.mk (below_step (by repeat (first | (with_reducible first | exact HB.out | apply below_alloc | apply pw_below_drewN | apply below_drew1 | refine below_set ?_ GE1.out | refine below_set ?_ GE2.out | refine below_set ?_ GE3.out) | exact HB.out)) hg); clear BK1 BK2 BK3 HB; have BK1 := n1_; have BK2 := n2_; have BK3 := n3_; have HB := nb_; clear n1_ n2_ n3_ nb_ hg hm hq; clear M0; have M0 := m0_; clear m0_; obtain ⟨A1t, c1t, e1, _, _⟩ := HelpBB.tBB.K_of_M M1.out; subst e1; have hczw5_1_0 : w5.cell? ⟨g1, 0, none⟩ = some (.slice A0 y0.length c0) := (blk_cell BK1.out 0).trans rfl; have hfzw5_1_0 := blk_frozen (w := w5) BK1.out 0; have hczw5_1_1 : w5.cell? ⟨g1, 1, none⟩ = some (.slice A1 y1.length c1) := (blk_cell BK1.out 1).trans rfl; have hfzw5_1_1 := blk_frozen (w := w5) BK1.out 1; have hczw5_3_0 : w5.cell? ⟨g3, 0, none⟩ = some (.slice A0t y0.length c0t) := (blk_cell BK3.out 0).trans rfl; have hfzw5_3_0 := blk_frozen (w := w5) BK3.out 0; have hczw5_3_1 : w5.cell? ⟨g3, 1, none⟩ = some (.slice none 0 0) := (blk_cell BK3.out 1).trans rfl; have hfzw5_3_1 := blk_frozen (w := w5) BK3.out 1; have hczw5_2_0 : w5.cell? ⟨g2, 0, none⟩ = some (.slice none 0 0) := (blk_cell BK2.out 0).trans rfl; have hfzw5_2_0 := blk_frozen (w := w5) BK2.out 0; have hczw5_2_1 : w5.cell? ⟨g2, 1, none⟩ = some (.slice none 0 0) := (blk_cell BK2.out 1).trans rfl; have hfzw5_2_1 := blk_frozen (w := w5) BK2.out 1))
  refine bodyPost_ret (results_cell_row rfl _ _ g2 73 #[.slice A0t y0.length c0t, .slice A1t y1.length c1t] (0, 0) _ rfl (by (with_reducible repeat (first | refine blk_drewN ?_ _ | refine blk_drew ?_ | refine blk_alloc ?_ _)); refine blk_put (cs := #[.slice A0t y0.length c0t, .slice none 0 0]) ?_ 1 _ rfl; (with_reducible repeat (first | refine blk_drewN ?_ _ | refine blk_drew ?_ | refine blk_alloc ?_ _)); refine blk_put (cs := #[.slice none 0 0, .slice none 0 0]) ?_ 0 _ rfl; (with_reducible repeat (first | refine blk_drewN ?_ _ | refine blk_drew ?_ | refine blk_alloc ?_ _)); refine blk_far ?_ NE2_3.out _; (with_reducible repeat (first | refine blk_drewN ?_ _ | refine blk_drew ?_ | refine blk_alloc ?_ _)); exact BK2.out) Try.underlying73 rfl (by kernel_rfl)) rfl ?_
  refine ⟨_, rfl, ⟨[.slice A0t y0.length c0t, .slice A1t y1.length c1t], rfl, tys.M_mono (fun _ _ => trivial) (Tys.cons_apart (Ty.M_set (Ty.M_set (Ty.M_set M0.out (fun k hk e => by have h1 := hk.1; have h2 := L3_0.out; omega) _) (fun k hk e => by have h1 := hk.1; have h2 := L2_0.out; omega) _) (fun k hk e => by have h1 := hk.1; have h2 := L2_0.out; omega) _) (Tys.M_one (Ty.M_set (Ty.M_set (Ty.M_set M1.out (fun k hk e => by have h1 := hk.1; have h2 := L3_1.out; omega) _) (fun k hk e => by have h1 := hk.1; have h2 := L2_1.out; omega) _) (fun k hk e => by have h1 := hk.1; have h2 := L2_1.out; omega) _)) (fun k hk hk1 => by have q0 := Q0.out; have q1 := Q1.out; (rcases hk with hk); (all_goals (first | exact hk.elim | (have h1 := hk.1; have h2 := hk.2; have h3 := hk1.1; have h4 := hk1.2; omega)))))⟩, by repeat (first | (with_reducible first | exact HB.out | apply below_alloc | apply pw_below_drewN | apply below_drew1 | refine below_set ?_ GE1.out | refine below_set ?_ GE2.out | refine below_set ?_ GE3.out) | exact HB.out)⟩
set_option maxRecDepth 100000 in
set_option maxHeartbeats 4000000 in
theorem eq_calls (x : X) (v v' : Value) (w : World) (h : tSta.K w x v) (h' : tSta.K w x v') (hb : bdSta x) :
    Calls Try.prog 55 #[v, v'] w fun e w' => e = .returned (.bool true) ∧ Grew w w' := by
  have huI := Try.underlying73
  obtain ⟨y0, y1⟩ := x
  obtain ⟨b0, b1⟩ := hb
  have B0 := Aside0.mk b0
  clear b0
  have B1 := Aside0.mk b1
  clear b1
  obtain ⟨l, rfl, hl⟩ := h
  obtain ⟨u0, r0, rfl, h0, hl0⟩ := hl
  obtain ⟨u1, rfl, h1⟩ := hl0
  obtain ⟨A0, c0, rfl, hc0, hr0⟩ := h0
  obtain ⟨A1, c1, rfl, hc1, hr1⟩ := h1
  obtain ⟨lq, rfl, hlq⟩ := h'
  obtain ⟨u0q, r0q, rfl, h0q, hl0q⟩ := hlq
  obtain ⟨u1q, rfl, h1q⟩ := hl0q
  obtain ⟨A0q, c0q, rfl, hc0q, hr0q⟩ := h0q
  obtain ⟨A1q, c1q, rfl, hc1q, hr1q⟩ := h1q
  have K0 := Aside0.mk (show HelpBB.tBB.K w y0 (.slice A0 y0.length c0) from ⟨A0, c0, rfl, hc0, hr0⟩)
  clear hc0 hr0
  have K1 := Aside0.mk (show HelpBB.tBB.K w y1 (.slice A1 y1.length c1) from ⟨A1, c1, rfl, hc1, hr1⟩)
  clear hc1 hr1
  have K0q := Aside0.mk (show HelpBB.tBB.K w y0 (.slice A0q y0.length c0q) from ⟨A0q, c0q, rfl, hc0q, hr0q⟩)
  clear hc0q hr0q
  have K1q := Aside0.mk (show HelpBB.tBB.K w y1 (.slice A1q y1.length c1q) from ⟨A1q, c1q, rfl, hc1q, hr1q⟩)
  clear hc1q hr1q
  show Calls _ _ #[.agg #[.slice A0 y0.length c0, .slice A1 y1.length c1], .agg #[.slice A0q y0.length c0q, .slice A1q y1.length c1q]] w _
  have HB := Aside0.mk (Below.refl w.heap.size w)
  go_enter Try.func55, Try.ntmps55
  go_wp2_with (first | ((with_reducible refine gate_dst (N := 2) rfl ?_); refine box_event ?hg (N := 2) ?hd (cs := #[.slice A0 y0.length c0, .slice A1 y1.length c1]) (t := 73) ?hr ?_; (case hd => rfl); (case hg => rfl); (case hr => first | (go_simp; done) | (go_simp; rfl)); intro g1 hg w1 hbox hb; have GS1 := Aside0.mk (show w.heap.size = g1 from hg.symm); have nb_ := Aside0.mk (below_step HB.out hb); have BK1 := Aside0.mk hbox; have GE1 := Aside0.mk ((by rw [hg]; exact HB.out.size) : w.heap.size ≤ g1); clear HB; have HB := nb_; clear nb_ hb hbox hg) | ((with_reducible refine gate_dst (N := 3) rfl ?_); refine box_event ?hg (N := 3) ?hd (cs := #[.slice A0q y0.length c0q, .slice A1q y1.length c1q]) (t := 73) ?hr ?_; (case hd => rfl); (case hg => rfl); (case hr => first | (go_simp; done) | (go_simp; rfl)); intro g2 hg w2 hbox hb; have GS2 := Aside0.mk (show w1.heap.size = g2 from hg.symm); have n1_ := Aside0.mk (blk_below (g := g1) (o := .cells #[.slice A0 y0.length c0, .slice A1 y1.length c1] 73 (0, 0)) BK1.out hb); have nb_ := Aside0.mk (below_step HB.out hb); have BK2 := Aside0.mk hbox; have GE2 := Aside0.mk ((by rw [hg]; exact HB.out.size) : w.heap.size ≤ g2); have NE1_2 := Aside0.mk ((by rw [hg]; exact Nat.ne_of_lt (blk_lt BK1.out)) : g1 ≠ g2); have NE2_1 := Aside0.mk (Ne.symm NE1_2.out); clear BK1; have BK1 := n1_; clear n1_; clear HB; have HB := nb_; clear nb_ hb hbox hg; have hczw2_1_0 : w2.cell? ⟨g1, 0, none⟩ = some (.slice A0 y0.length c0) := (blk_cell BK1.out 0).trans rfl; have hfzw2_1_0 := blk_frozen (w := w2) BK1.out 0; have hczw2_1_1 : w2.cell? ⟨g1, 1, none⟩ = some (.slice A1 y1.length c1) := (blk_cell BK1.out 1).trans rfl; have hfzw2_1_1 := blk_frozen (w := w2) BK1.out 1; have hczw2_2_0 : w2.cell? ⟨g2, 0, none⟩ = some (.slice A0q y0.length c0q) := (blk_cell BK2.out 0).trans rfl; have hfzw2_2_0 := blk_frozen (w := w2) BK2.out 0; have hczw2_2_1 : w2.cell? ⟨g2, 1, none⟩ = some (.slice A1q y1.length c1q) := (blk_cell BK2.out 1).trans rfl; have hfzw2_2_1 := blk_frozen (w := w2) BK2.out 1) | (go_at_call 41; (with_reducible refine gate_args (as_ := #[.slice A0 y0.length c0, .slice A0q y0.length c0q]) rfl ?_); refine (HelpBB.eq_calls y0 (.slice A0 y0.length c0) (.slice A0q y0.length c0q) _ ?sa ?sb B0.out).mono ?_; (case sa => exact HelpBB.tBB.K_below (by repeat (first | (with_reducible first | exact HB.out | apply below_alloc | apply pw_below_drewN | apply below_drew1) | exact HB.out)) K0.out); (case sb => exact HelpBB.tBB.K_below (by repeat (first | (with_reducible first | exact HB.out | apply below_alloc | apply pw_below_drewN | apply below_drew1) | exact HB.out)) K0q.out); rintro e w3 ⟨rfl, hg⟩; have n1_ := Aside0.mk (blk_below (g := g1) (o := .cells #[.slice A0 y0.length c0, .slice A1 y1.length c1] 73 (0, 0)) (by (with_reducible repeat (first | refine blk_drewN ?_ _ | refine blk_drew ?_ | refine blk_alloc ?_ _)); exact BK1.out) hg); have n2_ := Aside0.mk (blk_below (g := g2) (o := .cells #[.slice A0q y0.length c0q, .slice A1q y1.length c1q] 73 (0, 0)) (by (with_reducible repeat (first | refine blk_drewN ?_ _ | refine blk_drew ?_ | refine blk_alloc ?_ _)); exact BK2.out) hg); have nb_ := Aside0.mk (below_step (by repeat (first | (with_reducible first | exact HB.out | apply below_alloc | apply pw_below_drewN | apply below_drew1) | exact HB.out)) hg); clear BK1 BK2 HB; have BK1 := n1_; have BK2 := n2_; have HB := nb_; clear n1_ n2_ nb_ hg; have hczw3_1_0 : w3.cell? ⟨g1, 0, none⟩ = some (.slice A0 y0.length c0) := (blk_cell BK1.out 0).trans rfl; have hfzw3_1_0 := blk_frozen (w := w3) BK1.out 0; have hczw3_1_1 : w3.cell? ⟨g1, 1, none⟩ = some (.slice A1 y1.length c1) := (blk_cell BK1.out 1).trans rfl; have hfzw3_1_1 := blk_frozen (w := w3) BK1.out 1; have hczw3_2_0 : w3.cell? ⟨g2, 0, none⟩ = some (.slice A0q y0.length c0q) := (blk_cell BK2.out 0).trans rfl; have hfzw3_2_0 := blk_frozen (w := w3) BK2.out 0; have hczw3_2_1 : w3.cell? ⟨g2, 1, none⟩ = some (.slice A1q y1.length c1q) := (blk_cell BK2.out 1).trans rfl; have hfzw3_2_1 := blk_frozen (w := w3) BK2.out 1) | (go_at_call 41; (with_reducible refine gate_args (as_ := #[.slice A1 y1.length c1, .slice A1q y1.length c1q]) rfl ?_); refine (HelpBB.eq_calls y1 (.slice A1 y1.length c1) (.slice A1q y1.length c1q) _ ?sa ?sb B1.out).mono ?_; (case sa => exact HelpBB.tBB.K_below (by repeat (first | (with_reducible first | exact HB.out | apply below_alloc | apply pw_below_drewN | apply below_drew1) | exact HB.out)) K1.out); (case sb => exact HelpBB.tBB.K_below (by repeat (first | (with_reducible first | exact HB.out | apply below_alloc | apply pw_below_drewN | apply below_drew1) | exact HB.out)) K1q.out); rintro e w4 ⟨rfl, hg⟩; have n1_ := Aside0.mk (blk_below (g := g1) (o := .cells #[.slice A0 y0.length c0, .slice A1 y1.length c1] 73 (0, 0)) (by (with_reducible repeat (first | refine blk_drewN ?_ _ | refine blk_drew ?_ | refine blk_alloc ?_ _)); exact BK1.out) hg); have n2_ := Aside0.mk (blk_below (g := g2) (o := .cells #[.slice A0q y0.length c0q, .slice A1q y1.length c1q] 73 (0, 0)) (by (with_reducible repeat (first | refine blk_drewN ?_ _ | refine blk_drew ?_ | refine blk_alloc ?_ _)); exact BK2.out) hg); have nb_ := Aside0.mk (below_step (by repeat (first | (with_reducible first | exact HB.out | apply below_alloc | apply pw_below_drewN | apply below_drew1) | exact HB.out)) hg); clear BK1 BK2 HB; have BK1 := n1_; have BK2 := n2_; have HB := nb_; clear n1_ n2_ nb_ hg; have hczw4_1_0 : w4.cell? ⟨g1, 0, none⟩ = some (.slice A0 y0.length c0) := (blk_cell BK1.out 0).trans rfl; have hfzw4_1_0 := blk_frozen (w := w4) BK1.out 0; have hczw4_1_1 : w4.cell? ⟨g1, 1, none⟩ = some (.slice A1 y1.length c1) := (blk_cell BK1.out 1).trans rfl; have hfzw4_1_1 := blk_frozen (w := w4) BK1.out 1; have hczw4_2_0 : w4.cell? ⟨g2, 0, none⟩ = some (.slice A0q y0.length c0q) := (blk_cell BK2.out 0).trans rfl; have hfzw4_2_0 := blk_frozen (w := w4) BK2.out 0; have hczw4_2_1 : w4.cell? ⟨g2, 1, none⟩ = some (.slice A1q y1.length c1q) := (blk_cell BK2.out 1).trans rfl; have hfzw4_2_1 := blk_frozen (w := w4) BK2.out 1))
  go_ret
  exact ⟨rfl, by repeat (first | (with_reducible first | exact HB.out | apply below_alloc | apply pw_below_drewN | apply below_drew1) | exact HB.out)⟩
set_option maxRecDepth 100000 in
set_option maxHeartbeats 4000000 in
theorem mark_calls (x : X) (v : Value) (ok : Nat → Prop) (a : Int) (w0 w : World) (hB : Below w0.heap.size w0 w) (h : tSta.M w w0.heap.size ok x v) (a0 : 0 ≤ a) (a1 : a + cntSta x ≤ 1099511627776) (hb : bdSta x) :
    Calls Try.prog 56 #[v, .int .i64 a] w fun e w' => e = .returned (.int .i64 (a + cntSta x)) ∧ tSta.M w' w0.heap.size ok (markSta a x) v ∧ Below w0.heap.size w0 w' ∧ Kept w w' ok := by
  have huI := Try.underlying73
  obtain ⟨y0, y1⟩ := x
  obtain ⟨b0, b1⟩ := hb
  have B0 := Aside0.mk b0
  clear b0
  have B1 := Aside0.mk b1
  clear b1
  have a1' : a + ((HelpBB.cntBB y0 : Int) + (HelpBB.cntBB y1 : Int)) ≤ 1099511627776 := by have h1 : a + ((HelpBB.cntBB y0 + HelpBB.cntBB y1 : Nat) : Int) ≤ 1099511627776 := a1; omega
  clear a1
  obtain ⟨l, rfl, hl⟩ := h
  obtain ⟨u0, r0, p0, q0, rfl, hi0, ha0, h0, hl0⟩ := hl
  obtain ⟨u1, rfl, h1⟩ := hl0
  obtain ⟨A0, c0, rfl, _, _⟩ := HelpBB.tBB.K_of_M h0
  have M0 := Aside0.mk (HelpBB.tBB.M_bound h0)
  clear h0
  obtain ⟨A1, c1, rfl, _, _⟩ := HelpBB.tBB.K_of_M h1
  have M1 := Aside0.mk (HelpBB.tBB.M_bound h1)
  clear h1
  show Calls _ _ #[.agg #[.slice A0 y0.length c0, .slice A1 y1.length c1], .int .i64 a] w _
  have HB := Aside0.mk hB
  clear hB
  have HK := Aside0.mk (Kept.refl w ok)
  have in0 : ∀ k, p0 k → ok k := fun k h => hi0 k h
  have in1 : ∀ k, q0 k → ok k := fun k h => (ha0 k h).1
  have ap0_1 : ∀ k, p0 k → q0 k → False := fun k g h => (ha0 k (h)).2 g
  go_enter Try.func56, Try.ntmps56
  go_wp2_with (first | ((with_reducible refine gate_dst (N := 2) rfl ?_); refine box_event ?hg (N := 2) ?hd (cs := #[.slice A0 y0.length c0, .slice A1 y1.length c1]) (t := 73) ?hr ?_; (case hd => rfl); (case hg => rfl); (case hr => first | (go_simp; done) | (go_simp; rfl)); intro g1 hg w1 hbox hb; have GS1 := Aside0.mk (show w.heap.size = g1 from hg.symm); have BK1 := Aside0.mk hbox; have nb_ := Aside0.mk (below_step HB.out hb); have nk_ := Aside0.mk (Kept.of_below (S := ok) hb); clear HB HK; have HB := nb_; have HK := nk_; clear nb_ nk_; have m0_ := Aside0.mk (Ty.M_below M0.out hb); clear M0; have M0 := m0_; clear m0_; have m1_ := Aside0.mk (Ty.M_below M1.out hb); clear M1; have M1 := m1_; clear m1_; clear hb hbox hg; have hczw1_1_0 : w1.cell? ⟨g1, 0, none⟩ = some (.slice A0 y0.length c0) := (blk_cell BK1.out 0).trans rfl; have hfzw1_1_0 := blk_frozen (w := w1) BK1.out 0; have hczw1_1_1 : w1.cell? ⟨g1, 1, none⟩ = some (.slice A1 y1.length c1) := (blk_cell BK1.out 1).trans rfl; have hfzw1_1_1 := blk_frozen (w := w1) BK1.out 1) | (go_at_call 42; (with_reducible refine gate_args (as_ := #[.slice A0 y0.length c0, .int .i64 (a)]) rfl ?_); refine (HelpBB.mark_calls y0 (.slice A0 y0.length c0) (fun k => p0 k ∧ w0.heap.size ≤ k ∧ k < w.heap.size) (a) w0 _ HB.out M0.out (by omega) (by omega) B0.out).mono ?_; rintro e w2 ⟨rfl, hm, hb, hk⟩; have n1_ := Aside0.mk (show w2.heap[g1]? = _ from (hk.2 g1 (blk_lt BK1.out) (fun hh => by have h1 := hh.2.2; have h2 := GS1.out; omega)).trans BK1.out); have m1_ := Aside0.mk (Ty.M_kept M1.out hk (fun k hk1 hk2 => ap0_1 k hk2.1 hk1.1)); have nk_ := Aside0.mk (HK.out.then_ hk (fun k hk1 => .inl (in0 k hk1.1))); clear BK1 HB HK M0; have BK1 := n1_; have HB := Aside0.mk hb; have HK := nk_; have M0 := Aside0.mk hm; clear n1_ nk_ hm hb hk; clear M1; have M1 := m1_; clear m1_; have hczw2_1_0 : w2.cell? ⟨g1, 0, none⟩ = some (.slice A0 y0.length c0) := (blk_cell BK1.out 0).trans rfl; have hfzw2_1_0 := blk_frozen (w := w2) BK1.out 0; have hczw2_1_1 : w2.cell? ⟨g1, 1, none⟩ = some (.slice A1 y1.length c1) := (blk_cell BK1.out 1).trans rfl; have hfzw2_1_1 := blk_frozen (w := w2) BK1.out 1) | (go_at_call 42; (with_reducible refine gate_args (as_ := #[.slice A1 y1.length c1, .int .i64 (a + (HelpBB.cntBB y0 : Int))]) rfl ?_); refine (HelpBB.mark_calls y1 (.slice A1 y1.length c1) (fun k => q0 k ∧ w0.heap.size ≤ k ∧ k < w.heap.size) (a + (HelpBB.cntBB y0 : Int)) w0 _ HB.out M1.out (by omega) (by omega) B1.out).mono ?_; rintro e w3 ⟨rfl, hm, hb, hk⟩; have n1_ := Aside0.mk (show w3.heap[g1]? = _ from (hk.2 g1 (blk_lt BK1.out) (fun hh => by have h1 := hh.2.2; have h2 := GS1.out; omega)).trans BK1.out); have m0_ := Aside0.mk (Ty.M_kept M0.out hk (fun k hk1 hk2 => ap0_1 k hk1.1 hk2.1)); have nk_ := Aside0.mk (HK.out.then_ hk (fun k hk1 => .inl (in1 k hk1.1))); clear BK1 HB HK M1; have BK1 := n1_; have HB := Aside0.mk hb; have HK := nk_; have M1 := Aside0.mk hm; clear n1_ nk_ hm hb hk; clear M0; have M0 := m0_; clear m0_; have hczw3_1_0 : w3.cell? ⟨g1, 0, none⟩ = some (.slice A0 y0.length c0) := (blk_cell BK1.out 0).trans rfl; have hfzw3_1_0 := blk_frozen (w := w3) BK1.out 0; have hczw3_1_1 : w3.cell? ⟨g1, 1, none⟩ = some (.slice A1 y1.length c1) := (blk_cell BK1.out 1).trans rfl; have hfzw3_1_1 := blk_frozen (w := w3) BK1.out 1))
  go_ret
  refine ⟨?_, ⟨_, rfl, ⟨_, _, p0, q0, rfl, hi0, ha0, HelpBB.tBB.M_mono (fun k hk => hk.1) M0.out, ⟨_, rfl, HelpBB.tBB.M_mono (fun k hk => hk.1) M1.out⟩⟩⟩, HB.out, HK.out⟩
  have e1 : a + (HelpBB.cntBB y0 : Int) + (HelpBB.cntBB y1 : Int) = a + ((HelpBB.cntBB y0 + HelpBB.cntBB y1 : Nat) : Int) := by omega
  exact congrArg (fun z => Ending.returned (Value.int .i64 z)) e1
set_option maxRecDepth 100000 in
set_option maxHeartbeats 4000000 in
theorem held_calls (x : X) (v : Value) (a : Int) (w : World) (h : tSta.K w (markSta a x) v) (a0 : 0 ≤ a) (a1 : a + cntSta x ≤ 1099511627776) (hb : bdSta x) :
    Calls Try.prog 57 #[v, .int .i64 a] w fun e w' => e = .returned (.int .i64 (a + cntSta x)) ∧ Grew w w' := by
  have huI := Try.underlying73
  obtain ⟨y0, y1⟩ := x
  obtain ⟨b0, b1⟩ := hb
  have B0 := Aside0.mk b0
  clear b0
  have B1 := Aside0.mk b1
  clear b1
  have a1' : a + ((HelpBB.cntBB y0 : Int) + (HelpBB.cntBB y1 : Int)) ≤ 1099511627776 := by have h1 : a + ((HelpBB.cntBB y0 + HelpBB.cntBB y1 : Nat) : Int) ≤ 1099511627776 := a1; omega
  clear a1
  obtain ⟨l, rfl, hl⟩ := h
  obtain ⟨u0, r0, rfl, h0, hl0⟩ := hl
  obtain ⟨u1, rfl, h1⟩ := hl0
  have h0 : HelpBB.tBB.K w (HelpBB.markBB (a) y0) u0 := h0
  obtain ⟨A0, c0, rfl, hc0, hr0⟩ := h0
  generalize hn0 : (HelpBB.markBB (a) y0).length = n0 at hc0 hr0
  have K0 := Aside0.mk (show HelpBB.tBB.K w (HelpBB.markBB (a) y0) (.slice A0 n0 c0) from ⟨A0, c0, by rw [hn0], by rw [hn0]; exact hc0, by rw [hn0]; exact hr0⟩)
  clear hc0 hr0 hn0
  have h1 : HelpBB.tBB.K w (HelpBB.markBB (a + (HelpBB.cntBB y0 : Int)) y1) u1 := h1
  obtain ⟨A1, c1, rfl, hc1, hr1⟩ := h1
  generalize hn1 : (HelpBB.markBB (a + (HelpBB.cntBB y0 : Int)) y1).length = n1 at hc1 hr1
  have K1 := Aside0.mk (show HelpBB.tBB.K w (HelpBB.markBB (a + (HelpBB.cntBB y0 : Int)) y1) (.slice A1 n1 c1) from ⟨A1, c1, by rw [hn1], by rw [hn1]; exact hc1, by rw [hn1]; exact hr1⟩)
  clear hc1 hr1 hn1
  show Calls _ _ #[.agg #[.slice A0 n0 c0, .slice A1 n1 c1], .int .i64 a] w _
  have HB := Aside0.mk (Below.refl w.heap.size w)
  have nn0 : ¬ (a + (HelpBB.cntBB y0 : Int) < 0) := by omega
  have nn1 : ¬ (a + (HelpBB.cntBB y0 : Int) + (HelpBB.cntBB y1 : Int) < 0) := by omega
  go_enter Try.func57, Try.ntmps57
  go_wp2_with (first | ((with_reducible refine gate_dst (N := 2) rfl ?_); refine box_event ?hg (N := 2) ?hd (cs := #[.slice A0 n0 c0, .slice A1 n1 c1]) (t := 73) ?hr ?_; (case hd => rfl); (case hg => rfl); (case hr => first | (go_simp; done) | (go_simp; rfl)); intro g1 hg w1 hbox hb; have GS1 := Aside0.mk (show w.heap.size = g1 from hg.symm); have nb_ := Aside0.mk (below_step HB.out hb); have BK1 := Aside0.mk hbox; have GE1 := Aside0.mk ((by rw [hg]; exact HB.out.size) : w.heap.size ≤ g1); clear HB; have HB := nb_; clear nb_ hb hbox hg; have hczw1_1_0 : w1.cell? ⟨g1, 0, none⟩ = some (.slice A0 n0 c0) := (blk_cell BK1.out 0).trans rfl; have hfzw1_1_0 := blk_frozen (w := w1) BK1.out 0; have hczw1_1_1 : w1.cell? ⟨g1, 1, none⟩ = some (.slice A1 n1 c1) := (blk_cell BK1.out 1).trans rfl; have hfzw1_1_1 := blk_frozen (w := w1) BK1.out 1) | (go_at_call 98; (with_reducible refine gate_args (as_ := #[.slice A0 n0 c0, .int .i64 (a)]) rfl ?_); refine (HelpBB.held_calls y0 (.slice A0 n0 c0) (a) _ ?sa (by omega) (by omega) B0.out).mono ?_; (case sa => exact HelpBB.tBB.K_below (by repeat (first | (with_reducible first | exact HB.out | apply below_alloc | apply pw_below_drewN | apply below_drew1) | exact HB.out)) K0.out); rintro e w2 ⟨rfl, hg⟩; have n1_ := Aside0.mk (blk_below (g := g1) (o := .cells #[.slice A0 n0 c0, .slice A1 n1 c1] 73 (0, 0)) (by (with_reducible repeat (first | refine blk_drewN ?_ _ | refine blk_drew ?_ | refine blk_alloc ?_ _)); exact BK1.out) hg); have nb_ := Aside0.mk (below_step (by repeat (first | (with_reducible first | exact HB.out | apply below_alloc | apply pw_below_drewN | apply below_drew1) | exact HB.out)) hg); clear BK1 HB; have BK1 := n1_; have HB := nb_; clear n1_ nb_ hg; have hczw2_1_0 : w2.cell? ⟨g1, 0, none⟩ = some (.slice A0 n0 c0) := (blk_cell BK1.out 0).trans rfl; have hfzw2_1_0 := blk_frozen (w := w2) BK1.out 0; have hczw2_1_1 : w2.cell? ⟨g1, 1, none⟩ = some (.slice A1 n1 c1) := (blk_cell BK1.out 1).trans rfl; have hfzw2_1_1 := blk_frozen (w := w2) BK1.out 1) | (go_at_call 98; (with_reducible refine gate_args (as_ := #[.slice A1 n1 c1, .int .i64 (a + (HelpBB.cntBB y0 : Int))]) rfl ?_); refine (HelpBB.held_calls y1 (.slice A1 n1 c1) (a + (HelpBB.cntBB y0 : Int)) _ ?sa (by omega) (by omega) B1.out).mono ?_; (case sa => exact HelpBB.tBB.K_below (by repeat (first | (with_reducible first | exact HB.out | apply below_alloc | apply pw_below_drewN | apply below_drew1) | exact HB.out)) K1.out); rintro e w3 ⟨rfl, hg⟩; have n1_ := Aside0.mk (blk_below (g := g1) (o := .cells #[.slice A0 n0 c0, .slice A1 n1 c1] 73 (0, 0)) (by (with_reducible repeat (first | refine blk_drewN ?_ _ | refine blk_drew ?_ | refine blk_alloc ?_ _)); exact BK1.out) hg); have nb_ := Aside0.mk (below_step (by repeat (first | (with_reducible first | exact HB.out | apply below_alloc | apply pw_below_drewN | apply below_drew1) | exact HB.out)) hg); clear BK1 HB; have BK1 := n1_; have HB := nb_; clear n1_ nb_ hg; have hczw3_1_0 : w3.cell? ⟨g1, 0, none⟩ = some (.slice A0 n0 c0) := (blk_cell BK1.out 0).trans rfl; have hfzw3_1_0 := blk_frozen (w := w3) BK1.out 0; have hczw3_1_1 : w3.cell? ⟨g1, 1, none⟩ = some (.slice A1 n1 c1) := (blk_cell BK1.out 1).trans rfl; have hfzw3_1_1 := blk_frozen (w := w3) BK1.out 1))
  go_ret
  refine ⟨?_, by repeat (first | (with_reducible first | exact HB.out | apply below_alloc | apply pw_below_drewN | apply below_drew1) | exact HB.out)⟩
  have e1 : a + (HelpBB.cntBB y0 : Int) + (HelpBB.cntBB y1 : Int) = a + ((HelpBB.cntBB y0 + HelpBB.cntBB y1 : Nat) : Int) := by omega
  exact congrArg (fun z => Ending.returned (Value.int .i64 z)) e1
theorem form {w : World} {x : X} {v : Value} (h : tSta.K w x v) : ∃ (A0 : Option Addr) (c0 : Nat) (A1 : Option Addr) (c1 : Nat), v = .agg #[.slice A0 (x.1).length c0, .slice A1 (x.2).length c1] := by
  obtain ⟨y0, y1⟩ := x
  obtain ⟨l, rfl, hl⟩ := h
  obtain ⟨u0, r0, rfl, h0, hl0⟩ := hl
  obtain ⟨u1, rfl, h1⟩ := hl0
  obtain ⟨A0, c0, rfl, hc0, hr0⟩ := h0
  obtain ⟨A1, c1, rfl, hc1, hr1⟩ := h1
  exact ⟨A0, c0, A1, c1, rfl⟩
theorem sz_pure (x : X) (left : Int) (h0 : 0 ≤ left) (h1 : left ≤ 1048576) (hK : ∃ w v, tSta.K w x v) :
    ∃ r, (0 ≤ r → 0 ≤ r ∧ r ≤ left ∧ smallSta x) ∧ ∀ (w : World) {v : Value}, tSta.K w x v → Calls Try.prog 51 #[v, .int .i64 left] w fun e w' => e = .returned (.int .i64 r) ∧ Grew w w' := by
  obtain ⟨y0, y1⟩ := x
  obtain ⟨w0, v0, h⟩ := hK
  obtain ⟨l, rfl, hl⟩ := h
  obtain ⟨u0, r0, rfl, h0, hl0⟩ := hl
  obtain ⟨u1, rfl, h1⟩ := hl0
  obtain ⟨A0, c0, rfl, hc0, hr0⟩ := h0
  obtain ⟨A1, c1, rfl, hc1, hr1⟩ := h1
  have ev : ∃ r, Ev (fun k => laws_szState.f k y0 y1 left) r ∧ (0 ≤ r → r + (((y0.length + HelpBB.totalB y0 : Nat) : Int) + ((y1.length + HelpBB.totalB y1 : Nat) : Int)) = left) := by
    show ∃ r, Ev (fun k => (laws_szByteSS.f k y0 left).bind fun t0 => (if t0 < 0 then (some (-1)) else ((laws_szByteSS.f k y1 t0).bind fun t1 => (if t1 < 0 then (some (-1)) else (some t1))))) r ∧ _
    obtain ⟨r0, e0, k0⟩ := HelpBB.sz_ev y0 left (by omega) (by omega) ⟨w0, _, A0, c0, rfl, hc0, hr0⟩
    by_cases q0 : r0 < 0
    · exact ⟨-1, (Ev.bind e0 (f := fun k t0 => (if t0 < 0 then (some (-1)) else ((laws_szByteSS.f k y1 t0).bind fun t1 => (if t1 < 0 then (some (-1)) else (some t1))))) (Ev.congr (f := fun _ => some (-1)) (fun k => if_pos q0) (Ev.now _))), by omega⟩
    have k0' := k0 (by omega)
    obtain ⟨r1, e1, k1⟩ := HelpBB.sz_ev y1 r0 (by omega) (by omega) ⟨w0, _, A1, c1, rfl, hc1, hr1⟩
    by_cases q1 : r1 < 0
    · exact ⟨-1, (Ev.bind e0 (f := fun k t0 => (if t0 < 0 then (some (-1)) else ((laws_szByteSS.f k y1 t0).bind fun t1 => (if t1 < 0 then (some (-1)) else (some t1))))) (Ev.congr (f := fun k => (laws_szByteSS.f k y1 r0).bind fun t1 => (if t1 < 0 then (some (-1)) else (some t1))) (fun k => if_neg q0) (Ev.bind e1 (f := fun k t1 => (if t1 < 0 then (some (-1)) else (some t1))) (Ev.congr (f := fun _ => some (-1)) (fun k => if_pos q1) (Ev.now _))))), by omega⟩
    have k1' := k1 (by omega)
    exact ⟨r1, (Ev.bind e0 (f := fun k t0 => (if t0 < 0 then (some (-1)) else ((laws_szByteSS.f k y1 t0).bind fun t1 => (if t1 < 0 then (some (-1)) else (some t1))))) (Ev.congr (f := fun k => (laws_szByteSS.f k y1 r0).bind fun t1 => (if t1 < 0 then (some (-1)) else (some t1))) (fun k => if_neg q0) (Ev.bind e1 (f := fun k t1 => (if t1 < 0 then (some (-1)) else (some t1))) (Ev.congr (f := fun _ => some r1) (fun k => if_neg q1) (Ev.now _))))), fun _ => by omega⟩
  obtain ⟨r, hr, hq⟩ := ev
  obtain ⟨k, hk⟩ := hr.rounds
  clear hc0 hr0 hc1 hr1
  refine ⟨r, fun h => ⟨h, by have := hq h; omega, by show (y0.length + HelpBB.totalB y0) + (y1.length + HelpBB.totalB y1) ≤ 1048576; have := hq h; omega⟩, fun w v h => ?_⟩
  obtain ⟨lz, rfl, hlz⟩ := h
  obtain ⟨u0z, r0z, rfl, h0z, hl0z⟩ := hlz
  obtain ⟨u1z, rfl, h1z⟩ := hl0z
  obtain ⟨A0z, c0z, rfl, hc0z, hr0z⟩ := h0z
  obtain ⟨A1z, c1z, rfl, hc1z, hr1z⟩ := h1z
  show Calls _ _ #[.agg #[.slice A0z y0.length c0z, .slice A1z y1.length c1z], .int .i64 left] w _
  refine (laws_szState.calls k _ _ _ _ _ _ left r w hr0z hc0z hr1z hc1z hk).mono ?_
  rintro e w' ⟨rfl, h⟩
  exact ⟨rfl, pw_grow (by first | exact h | exact h.below)⟩
end Go.Proofs.Ytmgmdnmfalepkaa.HelpSta
