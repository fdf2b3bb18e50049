/- Pure functions for the Go functions of the program's laws and specification, and that each Go function's call returns what its pure function says; no condition but those that each theorem states. -/
import Derived.Test.YtnpmkcbbmeekaaaVx0
import Derived.Test.YtnpmkcbbmeekaaaVx4
namespace Go.Proofs.Ytnpmkcbbmeekaaa.V
open Go.RowKit Go.Proofs.YtnpmkcbbmeekaaaW.PrintWords Go.Proofs.YtnpmkcbbmeekaaaW.PrintLast Go.Proofs.YtnpmkcbbmeekaaaW.PrintMore
attribute [local go_sem] max2_int min2_int max_two min_two max_three min_three max_four min_four   -- for this text's walks alone
set_option linter.unusedVariables false
set_option linter.unusedSimpArgs false

/-! ### spec_l1size: function 66 -/
mutual
def spec_l1size.j0 : Nat → List (S96) → Int → Int → Bool → Int → List Int → Int → Int → Option (Int)
  | 0, _, _, _, _, _, _, _, _ => none
  | k + 1, x0, x3, x5, x25, x119000, x119001, x119002, x119003 => if x25 = true then ((spec_l1start.f k x0 (wrap64 (x3 - 1))).bind fun t119 => (if 0 ≤ t119 then (if t119 ≤ (x0.length : Int) then ((spec_l1size.f k (x0.take (t119 : Int).toNat)).bind fun t124 => (if t119 ≤ (wrap64 (x3 - 1)) then (if (wrap64 (x3 - 1)) ≤ (x0.length : Int) then ((spec_l1size.f k ((x0.take ((wrap64 (x3 - 1)) : Int).toNat).drop (t119 : Int).toNat)).bind fun t129 => (if (wrap64 (t124 + t129)) > 500 then (some 501) else (some (wrap64 (t124 + t129))))) else (none)) else (none))) else (none)) else (none))) else (if x119000 = 4 then (if 0 ≤ (wrap64 (x3 - 1)) then (if (wrap64 (x3 - 1)) ≤ (x0.length : Int) then ((spec_l1size.f k (x0.take ((wrap64 (x3 - 1)) : Int).toNat)).bind fun t134 => (if x119003 = (-1) then (if x119002 < 1 then (if (wrap64 ((wrap64 (1 * t134)) + 1)) > 500 then (some 501) else (some (wrap64 ((wrap64 (1 * t134)) + 1)))) else (if (wrap64 ((wrap64 (x119002 * t134)) + 1)) > 500 then (some 501) else (some (wrap64 ((wrap64 (x119002 * t134)) + 1))))) else (if x119003 = 0 then (if t134 > 500 then (some 501) else (some t134)) else (if (wrap64 ((wrap64 (x119002 * t134)) + (wrap64 ((wrap64 (x119003 - x119002)) * (wrap64 (t134 + 1)))))) > 500 then (some 501) else (some (wrap64 ((wrap64 (x119002 * t134)) + (wrap64 ((wrap64 (x119003 - x119002)) * (wrap64 (t134 + 1))))))))))) else (none)) else (none)) else (if x5 > 500 then (some 501) else (some x5)))
def spec_l1size.f : Nat → List (S96) → Option (Int)
  | 0, _ => none
  | k + 1, l0 => if 0 ≤ (wrap64 ((l0.length : Int) - 1)) then (if (wrap64 ((l0.length : Int) - 1)) < (l0.length : Int) then (if ((rd_T96 l0 (wrap64 ((l0.length : Int) - 1))).f0) = 2 then (spec_l1size.j0 k l0 (l0.length : Int) 1 true ((rd_T96 l0 (wrap64 ((l0.length : Int) - 1))).f0) ((rd_T96 l0 (wrap64 ((l0.length : Int) - 1))).f1) ((rd_T96 l0 (wrap64 ((l0.length : Int) - 1))).f2) ((rd_T96 l0 (wrap64 ((l0.length : Int) - 1))).f3)) else (spec_l1size.j0 k l0 (l0.length : Int) 1 (((rd_T96 l0 (wrap64 ((l0.length : Int) - 1))).f0) == 3) ((rd_T96 l0 (wrap64 ((l0.length : Int) - 1))).f0) ((rd_T96 l0 (wrap64 ((l0.length : Int) - 1))).f1) ((rd_T96 l0 (wrap64 ((l0.length : Int) - 1))).f2) ((rd_T96 l0 (wrap64 ((l0.length : Int) - 1))).f3))) else (none)) else (none)
end
theorem spec_l1size.mono_l : ∀ k, (∀ y0, LeO (spec_l1size.f k y0) (spec_l1size.f (k + 1) y0)) ∧ (∀ y0 y1 y2 y3 y4 y5 y6 y7, LeO (spec_l1size.j0 k y0 y1 y2 y3 y4 y5 y6 y7) (spec_l1size.j0 (k + 1) y0 y1 y2 y3 y4 y5 y6 y7))
  | 0 => ⟨fun _ r h => by simp [spec_l1size.f] at h, fun _ _ _ _ _ _ _ _ r h => by simp [spec_l1size.j0] at h⟩
  | k + 1 => by
    obtain ⟨ih0, ih1⟩ := spec_l1size.mono_l k
    refine ⟨?_, ?_⟩
    · intro y0
      unfold spec_l1size.f
      repeat' first
      | (with_reducible exact ih0 _)
      | (with_reducible exact ih1 _ _ _ _ _ _ _ _)
      | (with_reducible exact spec_l1start.mono _ _ _)
      | (with_reducible exact LeO.refl _)
      | (with_reducible exact LeO.none _)
      | (with_reducible refine LeO.ite ?_ ?_)
      | (with_reducible refine LeO.bind ?_ (fun _ => ?_))
      | exact ih0 _
      | exact ih1 _ _ _ _ _ _ _ _
      | exact spec_l1start.mono _ _ _
      | exact LeO.none _
      | refine LeO.ite ?_ ?_
      | refine LeO.bind ?_ (fun _ => ?_)
    · intro y0 y1 y2 y3 y4 y5 y6 y7
      unfold spec_l1size.j0
      repeat' first
      | (with_reducible exact ih0 _)
      | (with_reducible exact ih1 _ _ _ _ _ _ _ _)
      | (with_reducible exact spec_l1start.mono _ _ _)
      | (with_reducible exact LeO.refl _)
      | (with_reducible exact LeO.none _)
      | (with_reducible refine LeO.ite ?_ ?_)
      | (with_reducible refine LeO.bind ?_ (fun _ => ?_))
      | exact ih0 _
      | exact ih1 _ _ _ _ _ _ _ _
      | exact spec_l1start.mono _ _ _
      | exact LeO.none _
      | refine LeO.ite ?_ ?_
      | refine LeO.bind ?_ (fun _ => ?_)
theorem spec_l1size.mono : ∀ a0 k, LeO (spec_l1size.f k a0) (spec_l1size.f (k + 1) a0) := by
  intro a0 k
  obtain ⟨ih0, ih1⟩ := spec_l1size.mono_l k
  exact ih0 a0
set_option maxHeartbeats 8000000 in
set_option maxRecDepth 100000 in
theorem spec_l1size.calls (k : Nat) : ∀ (A0 : Option Addr) (c0 : Nat) (l0 : List (S96)) (r : Int) (w : World) (hr0 : Kd.C k96 w A0 l0.length l0) (hc0 : l0.length ≤ c0) (h : spec_l1size.f k l0 = some r),
    Calls Try.prog 66 #[.slice A0 l0.length c0] w fun e w' => e = .returned (.int .i64 r) ∧ Below w.heap.size w w' := by
  induction k using Nat.strongRecOn with
  | _ k ih =>
  intro A0 c0 l0 r w hr0 hc0 h
  cases k with
  | zero => exact absurd h (by simp [spec_l1size.f])
  | succ k =>
  simp only [spec_l1size.f] at h
  have hu96 := Try.underlying96
  have HR0 := Aside0.mk hr0
  have HC0 := Aside0.mk hc0
  clear hr0 hc0
  have HB := Aside0.mk (Below.refl w.heap.size w)
  have H : (if 0 ≤ (wrap64 ((l0.length : Int) - 1)) then (if (wrap64 ((l0.length : Int) - 1)) < (l0.length : Int) then (if ((rd_T96 l0 (wrap64 ((l0.length : Int) - 1))).f0) = 2 then (spec_l1size.j0 k l0 (l0.length : Int) 1 true ((rd_T96 l0 (wrap64 ((l0.length : Int) - 1))).f0) ((rd_T96 l0 (wrap64 ((l0.length : Int) - 1))).f1) ((rd_T96 l0 (wrap64 ((l0.length : Int) - 1))).f2) ((rd_T96 l0 (wrap64 ((l0.length : Int) - 1))).f3)) else (spec_l1size.j0 k l0 (l0.length : Int) 1 (((rd_T96 l0 (wrap64 ((l0.length : Int) - 1))).f0) == 3) ((rd_T96 l0 (wrap64 ((l0.length : Int) - 1))).f0) ((rd_T96 l0 (wrap64 ((l0.length : Int) - 1))).f1) ((rd_T96 l0 (wrap64 ((l0.length : Int) - 1))).f2) ((rd_T96 l0 (wrap64 ((l0.length : Int) - 1))).f3))) else (none)) else (none)) = some r := h
  clear h
  obtain ⟨ji2, hji2⟩ : ∃ j_ : Int, (wrap64 ((l0.length : Int) - 1)) = j_ := ⟨_, rfl⟩
  replace H : (if 0 ≤ (ji2) then (if (ji2) < (l0.length : Int) then (if ((rd_T96 l0 (ji2)).f0) = 2 then (spec_l1size.j0 k l0 (l0.length : Int) 1 true ((rd_T96 l0 (ji2)).f0) ((rd_T96 l0 (ji2)).f1) ((rd_T96 l0 (ji2)).f2) ((rd_T96 l0 (ji2)).f3)) else (spec_l1size.j0 k l0 (l0.length : Int) 1 (((rd_T96 l0 (ji2)).f0) == 3) ((rd_T96 l0 (ji2)).f0) ((rd_T96 l0 (ji2)).f1) ((rd_T96 l0 (ji2)).f2) ((rd_T96 l0 (ji2)).f3))) else (none)) else (none)) = some r := by first | (rw [hji2] at H; exact H) | (simp only [hji2] at H ⊢; exact H)
  have hji2w : (IntKind.i64.wrap ((l0.length : Int) - 1)) = ji2 := (i64_w _).trans hji2
  by_cases c3 : 0 ≤ (ji2)
  · rw [if_pos c3] at H
    have c3b0 : decide (0 ≤ (ji2)) = true := decide_eq_true c3
    clear c3
    by_cases c4 : (ji2) < (l0.length : Int)
    · rw [if_pos c4] at H
      have c4b0 : decide ((ji2) < (l0.length : Int)) = true := decide_eq_true c4
      clear c4
      have HC5 := Aside0.mk H
      clear H
      have p117 : 0 ≤ ((ji2) : Int) := of_decide_eq_true (by first | (with_reducible assumption) | assumption)
      have q117 : (ji2) < (l0.length : Int) := of_decide_eq_true (by first | (with_reducible assumption) | assumption)
      obtain ⟨ad117, A117_1, c117_1, e117, hx117_0, hx117_1, hx117_2, hx117_3, hl117_1, hi117_1⟩ := at_T96 HR0.out (ji2) p117 q117
      cases e117
      have HR117_1 := Aside0.mk hi117_1
      have HC117_1 := Aside0.mk hl117_1
      clear hi117_1 hl117_1
      replace p117 := eq_true p117
      replace q117 := eq_true q117
      go_enter Try.func66, Try.ntmps66
      go_upto_region 4 with (first | ((with_reducible refine gate_dst (N := 4) rfl ?_); refine box_event ?hg (N := 4) ?hd (cs := #[.int .i64 0, .slice none 0 0, .int .i64 0, .int .i64 0]) (t := 96) ?hr ?_; (case hd => rfl); (case hg => rfl); (case hr => first | (go_simp; done) | (go_simp; rfl)); intro gb118 hg w6 hbox hb; have n0_ := Aside0.mk (below_step (by repeat (first | (with_reducible first | exact HB.out | apply below_alloc | apply pw_below_drewN | apply below_drew1) | exact HB.out)) hb); have n1_ := Aside0.mk (hbox); have n2_ := Aside0.mk ((by rw [hg]; exact (below_size (by repeat (first | (with_reducible first | exact HB.out | apply below_alloc | apply pw_below_drewN | apply below_drew1) | exact HB.out))) : w.heap.size ≤ gb118)); have n3_ := Aside0.mk ((by rw [hg]; exact (below_size (by repeat (first | (with_reducible first | exact HB.out | apply below_alloc | apply pw_below_drewN | apply below_drew1) | exact HB.out))) : w.heap.size ≤ gb118)); clear HB; have HB := n0_; have BK118 := n1_; have GW118 := n2_; have GE118 := n3_; clear n0_ n1_ n2_ n3_; clear hb hbox hg; have hcz7_0 : w6.cell? ⟨gb118, 0, none⟩ = some (.int .i64 0) := (blk_cell BK118.out 0).trans rfl; have hcz7_1 : w6.cell? ⟨gb118, 1, none⟩ = some (.slice none 0 0) := (blk_cell BK118.out 1).trans rfl; have hcz7_2 : w6.cell? ⟨gb118, 2, none⟩ = some (.int .i64 0) := (blk_cell BK118.out 2).trans rfl; have hcz7_3 : w6.cell? ⟨gb118, 3, none⟩ = some (.int .i64 0) := (blk_cell BK118.out 3).trans rfl; have hfz7_0 := blk_frozen BK118.out 0; have hfz7_1 := blk_frozen BK118.out 1; have hfz7_2 := blk_frozen BK118.out 2; have hfz7_3 := blk_frozen BK118.out 3))
      (try simp only [Act.put, List.setIfInBounds_toArray, List.set_cons_zero, List.set_cons_succ])
      go_cut [25] (fun v25 wc => ∃ (kq : Nat) (x25_4 : Bool), v25 = .bool x25_4 ∧ Aside0 (spec_l1size.j0 kq l0 (l0.length : Int) 1 x25_4 ((rd_T96 l0 (ji2)).f0) ((rd_T96 l0 (ji2)).f1) ((rd_T96 l0 (ji2)).f2) ((rd_T96 l0 (ji2)).f3) = some r) ∧ Aside0 (kq ≤ k) ∧ Aside0 (wc.heap[gb118]? = some (.cells #[.int .i64 ((rd_T96 l0 (ji2)).f0), (.slice A117_1 ((rd_T96 l0 (ji2)).f1).length c117_1), .int .i64 ((rd_T96 l0 (ji2)).f2), .int .i64 ((rd_T96 l0 (ji2)).f3)] 96 (0, 0))) ∧ Aside0 (Below w.heap.size w wc))
      case first =>
        have H := HC5.out
        clear HC5
        by_cases c8 : ((rd_T96 l0 (ji2)).f0) = 2
        · rw [if_pos c8] at H
          have c8b0 : (((rd_T96 l0 (ji2)).f0) == 2) = true := beq_iff_eq.mpr c8
          have c8b1 : (((rd_T96 l0 (ji2)).f0) != 2) = false := bne_eq_false_iff_eq.mpr c8
          clear c8
          (first | rw [c8b0] | (simp only [i64_w, i32_w]; rw [c8b0]) | skip)
          have H' := Aside0.mk H
          clear H
          have hcz9_0 : w6.cell? ⟨gb118, 0, none⟩ = some (.int .i64 0) := (blk_cell BK118.out 0).trans rfl
          have hcz9_1 : w6.cell? ⟨gb118, 1, none⟩ = some (.slice none 0 0) := (blk_cell BK118.out 1).trans rfl
          have hcz9_2 : w6.cell? ⟨gb118, 2, none⟩ = some (.int .i64 0) := (blk_cell BK118.out 2).trans rfl
          have hcz9_3 : w6.cell? ⟨gb118, 3, none⟩ = some (.int .i64 0) := (blk_cell BK118.out 3).trans rfl
          have hfz9_0 := blk_frozen BK118.out 0
          have hfz9_1 := blk_frozen BK118.out 1
          have hfz9_2 := blk_frozen BK118.out 2
          have hfz9_3 := blk_frozen BK118.out 3
          go_wp2
          go_meet
          case rel => exact ⟨_, (true), (by first | rfl | (simp; done) | (simp [*]; done)), H', ⟨by first | omega | exact Nat.le_refl _⟩, ⟨by (with_reducible repeat (first | refine blk_drewN ?_ _ | refine blk_drew ?_ | refine blk_alloc ?_ _)); refine blk_put (cs := #[.int .i64 ((rd_T96 l0 (ji2)).f0), .slice A117_1 ((rd_T96 l0 (ji2)).f1).length c117_1, .int .i64 ((rd_T96 l0 (ji2)).f2), .int .i64 0]) ?_ 3 _ rfl; (with_reducible repeat (first | refine blk_drewN ?_ _ | refine blk_drew ?_ | refine blk_alloc ?_ _)); refine blk_put (cs := #[.int .i64 ((rd_T96 l0 (ji2)).f0), .slice A117_1 ((rd_T96 l0 (ji2)).f1).length c117_1, .int .i64 0, .int .i64 0]) ?_ 2 _ rfl; (with_reducible repeat (first | refine blk_drewN ?_ _ | refine blk_drew ?_ | refine blk_alloc ?_ _)); refine blk_put (cs := #[.int .i64 ((rd_T96 l0 (ji2)).f0), .slice none 0 0, .int .i64 0, .int .i64 0]) ?_ 1 _ rfl; (with_reducible repeat (first | refine blk_drewN ?_ _ | refine blk_drew ?_ | refine blk_alloc ?_ _)); refine blk_put (cs := #[.int .i64 0, .slice none 0 0, .int .i64 0, .int .i64 0]) ?_ 0 _ rfl; (with_reducible repeat (first | refine blk_drewN ?_ _ | refine blk_drew ?_ | refine blk_alloc ?_ _)); exact BK118.out⟩, ⟨by repeat (first | (with_reducible first | exact HB.out | apply below_alloc | apply pw_below_drewN | apply below_drew1 | refine below_set ?_ GE118.out) | exact HB.out)⟩⟩
        · rw [if_neg c8] at H
          have c8b0 : (((rd_T96 l0 (ji2)).f0) == 2) = false := beq_eq_false_iff_ne.mpr c8
          have c8b1 : (((rd_T96 l0 (ji2)).f0) != 2) = true := bne_iff_ne.mpr c8
          (first | rw [c8b0] | (simp only [i64_w, i32_w]; rw [c8b0]) | skip)
          have H' := Aside0.mk H
          clear H
          have hcz10_0 : w6.cell? ⟨gb118, 0, none⟩ = some (.int .i64 0) := (blk_cell BK118.out 0).trans rfl
          have hcz10_1 : w6.cell? ⟨gb118, 1, none⟩ = some (.slice none 0 0) := (blk_cell BK118.out 1).trans rfl
          have hcz10_2 : w6.cell? ⟨gb118, 2, none⟩ = some (.int .i64 0) := (blk_cell BK118.out 2).trans rfl
          have hcz10_3 : w6.cell? ⟨gb118, 3, none⟩ = some (.int .i64 0) := (blk_cell BK118.out 3).trans rfl
          have hfz10_0 := blk_frozen BK118.out 0
          have hfz10_1 := blk_frozen BK118.out 1
          have hfz10_2 := blk_frozen BK118.out 2
          have hfz10_3 := blk_frozen BK118.out 3
          go_wp2
          go_meet
          case rel => exact ⟨_, ((((rd_T96 l0 (ji2)).f0) == 3)), (by first | rfl | (simp; done) | (simp only [← hji2] <;> (first | rfl | simp)) | (simp [*]; done)), H', ⟨by first | omega | exact Nat.le_refl _⟩, ⟨by (with_reducible repeat (first | refine blk_drewN ?_ _ | refine blk_drew ?_ | refine blk_alloc ?_ _)); refine blk_put (cs := #[.int .i64 ((rd_T96 l0 (ji2)).f0), .slice A117_1 ((rd_T96 l0 (ji2)).f1).length c117_1, .int .i64 ((rd_T96 l0 (ji2)).f2), .int .i64 0]) ?_ 3 _ rfl; (with_reducible repeat (first | refine blk_drewN ?_ _ | refine blk_drew ?_ | refine blk_alloc ?_ _)); refine blk_put (cs := #[.int .i64 ((rd_T96 l0 (ji2)).f0), .slice A117_1 ((rd_T96 l0 (ji2)).f1).length c117_1, .int .i64 0, .int .i64 0]) ?_ 2 _ rfl; (with_reducible repeat (first | refine blk_drewN ?_ _ | refine blk_drew ?_ | refine blk_alloc ?_ _)); refine blk_put (cs := #[.int .i64 ((rd_T96 l0 (ji2)).f0), .slice none 0 0, .int .i64 0, .int .i64 0]) ?_ 1 _ rfl; (with_reducible repeat (first | refine blk_drewN ?_ _ | refine blk_drew ?_ | refine blk_alloc ?_ _)); refine blk_put (cs := #[.int .i64 0, .slice none 0 0, .int .i64 0, .int .i64 0]) ?_ 0 _ rfl; (with_reducible repeat (first | refine blk_drewN ?_ _ | refine blk_drew ?_ | refine blk_alloc ?_ _)); exact BK118.out⟩, ⟨by repeat (first | (with_reducible first | exact HB.out | apply below_alloc | apply pw_below_drewN | apply below_drew1 | refine below_set ?_ GE118.out) | exact HB.out)⟩⟩
      case rest =>
        clear HC5
        try clear c1
        try clear p1
        try clear q1
        try clear hx1
        try clear p2
        try clear c3
        try clear c3b0
        try clear c4
        try clear c4b0
        try clear c6
        try clear p6
        try clear c8
        try clear c8b0
        try clear c8b1
        try clear hcz10_0
        try clear hcz10_1
        try clear hcz10_2
        try clear hcz10_3
        try clear hcz7_0
        try clear hcz7_1
        try clear hcz7_2
        try clear hcz7_3
        try clear hcz9_0
        try clear hcz9_1
        try clear hcz9_2
        try clear hcz9_3
        try clear hfz10_0
        try clear hfz10_1
        try clear hfz10_2
        try clear hfz10_3
        try clear hfz7_0
        try clear hfz7_1
        try clear hfz7_2
        try clear hfz7_3
        try clear hfz9_0
        try clear hfz9_1
        try clear hfz9_2
        try clear hfz9_3
        try clear hx117_0
        try clear hx117_1
        try clear hx117_2
        try clear hx117_3
        try clear p117
        try clear q117
        obtain ⟨kq, x25_4, rfl, HA, HJ4, BK118, HB⟩ := hcut
        have HHji2 := Aside0.mk hji2; clear hji2 hji2w
        cases kq with
        | zero => exact absurd HA.out (by simp [spec_l1size.j0])
        | succ kj4 =>
          have H := HA.out
          clear HA
          simp only [spec_l1size.j0] at H
          by_cases c11 : x25_4 = true
          · subst c11
            have H1 : ((spec_l1start.f kj4 l0 (wrap64 ((l0.length : Int) - 1))).bind fun t119 => (if 0 ≤ t119 then (if t119 ≤ (l0.length : Int) then ((spec_l1size.f kj4 (l0.take (t119 : Int).toNat)).bind fun t124 => (if t119 ≤ (wrap64 ((l0.length : Int) - 1)) then (if (wrap64 ((l0.length : Int) - 1)) ≤ (l0.length : Int) then ((spec_l1size.f kj4 ((l0.take ((wrap64 ((l0.length : Int) - 1)) : Int).toNat).drop (t119 : Int).toNat)).bind fun t129 => (if (wrap64 (t124 + t129)) > 500 then (some 501) else (some (wrap64 (t124 + t129))))) else (none)) else (none))) else (none)) else (none))) = some r := by rw [if_pos rfl] at H; exact H
            clear H
            have H := H1
            clear H1
            replace H := Option.bind_eq_some_iff.mp H
            obtain ⟨t119, A120, H⟩ := H
            replace H : (if 0 ≤ t119 then (if t119 ≤ (l0.length : Int) then ((spec_l1size.f kj4 (l0.take (t119 : Int).toNat)).bind fun t124 => (if t119 ≤ (wrap64 ((l0.length : Int) - 1)) then (if (wrap64 ((l0.length : Int) - 1)) ≤ (l0.length : Int) then ((spec_l1size.f kj4 ((l0.take ((wrap64 ((l0.length : Int) - 1)) : Int).toNat).drop (t119 : Int).toNat)).bind fun t129 => (if (wrap64 (t124 + t129)) > 500 then (some 501) else (some (wrap64 (t124 + t129))))) else (none)) else (none))) else (none)) else (none)) = some r := H
            have A12 := Aside0.mk A120
            clear A120
            by_cases c13 : 0 ≤ t119
            · rw [if_pos c13] at H
              have c13b0 := eq_true c13
              have c13b1 : decide (0 ≤ t119) = true := decide_eq_true c13
              clear c13
              by_cases c14 : t119 ≤ (l0.length : Int)
              · rw [if_pos c14] at H
                have c14b0 := eq_true c14
                have c14b1 : decide (t119 ≤ (l0.length : Int)) = true := decide_eq_true c14
                clear c14
                obtain ⟨y120, hy120⟩ : ∃ y_ : List (S96), y_ = (l0.take (t119 : Int).toNat) := ⟨_, rfl⟩
                replace H : ((spec_l1size.f kj4 y120).bind fun t124 => (if t119 ≤ (wrap64 ((l0.length : Int) - 1)) then (if (wrap64 ((l0.length : Int) - 1)) ≤ (l0.length : Int) then ((spec_l1size.f kj4 ((l0.take ((wrap64 ((l0.length : Int) - 1)) : Int).toNat).drop (t119 : Int).toNat)).bind fun t129 => (if (wrap64 (t124 + t129)) > 500 then (some 501) else (some (wrap64 (t124 + t129))))) else (none)) else (none))) = some r := by first | (rw [hy120]; with_reducible exact H) | (have H2_ := (Option.bind_some _ _).symm.trans H; rw [hy120]; with_reducible exact H2_) | (have H2_ := (Option.bind_some _ _).symm.trans H; with_reducible exact H2_) | with_reducible exact H | (rw [hy120]; exact H) | exact H
                have Ny120 := Aside0.mk hy120
                clear hy120
                replace H := Option.bind_eq_some_iff.mp H
                obtain ⟨t124, A150, H⟩ := H
                replace H : (if t119 ≤ (wrap64 ((l0.length : Int) - 1)) then (if (wrap64 ((l0.length : Int) - 1)) ≤ (l0.length : Int) then ((spec_l1size.f kj4 ((l0.take ((wrap64 ((l0.length : Int) - 1)) : Int).toNat).drop (t119 : Int).toNat)).bind fun t129 => (if (wrap64 (t124 + t129)) > 500 then (some 501) else (some (wrap64 (t124 + t129))))) else (none)) else (none)) = some r := H
                have A15 := Aside0.mk A150
                clear A150
                have c16b0 := eq_true (of_decide_eq_true (by first | (with_reducible assumption) | assumption) : 0 ≤ t119)
                by_cases c17 : t119 ≤ (wrap64 ((l0.length : Int) - 1))
                · rw [if_pos c17] at H
                  have c17b0 := eq_true c17
                  have c17b1 : decide (t119 ≤ (wrap64 ((l0.length : Int) - 1))) = true := decide_eq_true c17
                  clear c17
                  by_cases c18 : (wrap64 ((l0.length : Int) - 1)) ≤ (l0.length : Int)
                  · rw [if_pos c18] at H
                    have c18b0 := eq_true c18
                    have c18b1 : decide ((wrap64 ((l0.length : Int) - 1)) ≤ (l0.length : Int)) = true := decide_eq_true c18
                    clear c18
                    obtain ⟨y125, hy125⟩ : ∃ y_ : List (S96), y_ = ((l0.take ((wrap64 ((l0.length : Int) - 1)) : Int).toNat).drop (t119 : Int).toNat) := ⟨_, rfl⟩
                    replace H : ((spec_l1size.f kj4 y125).bind fun t129 => (if (wrap64 (t124 + t129)) > 500 then (some 501) else (some (wrap64 (t124 + t129))))) = some r := by first | (rw [hy125]; with_reducible exact H) | (have H2_ := (Option.bind_some _ _).symm.trans H; rw [hy125]; with_reducible exact H2_) | (have H2_ := (Option.bind_some _ _).symm.trans H; with_reducible exact H2_) | with_reducible exact H | (rw [hy125]; exact H) | exact H
                    have Ny125 := Aside0.mk hy125
                    clear hy125
                    replace H := Option.bind_eq_some_iff.mp H
                    obtain ⟨t129, A190, H⟩ := H
                    replace H : (if (wrap64 (t124 + t129)) > 500 then (some 501) else (some (wrap64 (t124 + t129)))) = some r := H
                    have A19 := Aside0.mk A190
                    clear A190
                    by_cases c20 : (wrap64 (t124 + t129)) > 500
                    · rw [if_pos c20] at H
                      have c20b0 : decide (500 < (wrap64 (t124 + t129))) = true := decide_eq_true c20
                      clear c20
                      obtain rfl := Option.some.inj H
                      go_wp2_with (first | ((with_reducible refine gate_callee (f := 81) rfl ?_); refine goesL_ (some 29) rfl rfl Try.func81 (by kernel_rfl) rfl #[.slice (some ad117) l0.length c0, .int .i64 (wrap64 ((l0.length : Int) - 1))] rfl (by (try simp only [List.map_toArray, List.map_cons, List.map_nil]); first | done | rfl | (simp only [List.length_drop, List.length_take]; rfl)) ?_; (with_reducible refine (spec_l1start.calls kj4 _ _ l0 (wrap64 ((l0.length : Int) - 1)) t119 _ ?side1 ?side2 A12.out).mono ?_); (case side1 => repeat (first | exact (Kd.C_below HR0.out HB.out) | (with_reducible refine Kd.C_alloc ?_ _) | (with_reducible refine Kd.C_drewN ?_ _) | (with_reducible refine Kd.C_drew ?_))); (case side2 => exact HC0.out); rintro e w' ⟨rfl, ⟨nd, rfl⟩⟩; refine ⟨_, rfl, ?_⟩; have q21 : (t119 : Int) ≤ ((l0.length : Int) : Int) := of_decide_eq_true (by first | (with_reducible assumption) | assumption); obtain ⟨i021, hi021, _, hsz21, _⟩ := info_parts info96; have hroom21 : l0.length ≤ c0 := HC0.out; have hC21 : Kd.C k96 _ (some ad117) l0.length l0 := HR0.out; have hcut21 := cut_to (P := Try.prog) 61 96 .i64 Try.underlying61 hi021 (some ad117) l0.length c0 t119 (of_decide_eq_true (by first | (with_reducible assumption) | assumption)) q21 hroom21; have hr21 := Kd.C_take (m := (t119 : Int).toNat) hC21 (by omega); have hy21 : y120.length = (t119 : Int).toNat := (by rw [Ny120.out, List.length_take]; omega); rw [← Ny120.out] at hr21; rw [← hy21] at hcut21; have HR123 := Aside0.mk hr21; have HC123 := Aside0.mk (show y120.length ≤ c0 from by omega); clear hr21 hC21 hroom21 hi021 hsz21; have KY21 := Aside0.mk hy21; clear hy21; replace q21 := eq_true q21) | ((with_reducible refine gate_callee (f := 66) rfl ?_); refine goesL_ (some 33) rfl rfl Try.func66 (by kernel_rfl) rfl #[.slice (some ad117) y120.length c0] rfl (by (try simp only [List.map_toArray, List.map_cons, List.map_nil]); first | done | rfl | (simp only [List.length_drop, List.length_take]; rfl)) ?_; (with_reducible refine (ih kj4 (by have := HJ4.out; omega) _ _ y120 t124 _ ?side1 ?side2 A15.out).mono ?_); (case side1 => repeat (first | exact (Kd.C_below HR123.out (by repeat (first | (with_reducible first | exact HB.out | apply below_alloc | apply pw_below_drewN | apply below_drew1 | refine below_set ?_ GE118.out) | exact HB.out))) | (with_reducible refine Kd.C_alloc ?_ _) | (with_reducible refine Kd.C_drewN ?_ _) | (with_reducible refine Kd.C_drew ?_))); (case side2 => exact HC123.out); rintro e w22 ⟨rfl, hb⟩; refine ⟨_, rfl, ?_⟩; have n0_ := Aside0.mk (blk_below (g := gb118) (o := .cells #[.int .i64 ((rd_T96 l0 (ji2)).f0), .slice A117_1 ((rd_T96 l0 (ji2)).f1).length c117_1, .int .i64 ((rd_T96 l0 (ji2)).f2), .int .i64 ((rd_T96 l0 (ji2)).f3)] 96 (0, 0)) (by (with_reducible repeat (first | refine blk_drewN ?_ _ | refine blk_drew ?_ | refine blk_alloc ?_ _)); exact BK118.out) hb); have n1_ := Aside0.mk (below_step (by repeat (first | (with_reducible first | exact HB.out | apply below_alloc | apply pw_below_drewN | apply below_drew1 | refine below_set ?_ GE118.out) | exact HB.out)) hb); clear BK118; clear HB; have BK118 := n0_; have HB := n1_; clear n0_ n1_; (try clear hb); (try clear hb2); (try clear hk); (try clear hi); have q23 : ((wrap64 ((l0.length : Int) - 1)) : Int) ≤ ((l0.length : Int) : Int) := of_decide_eq_true (by first | (with_reducible assumption) | assumption); obtain ⟨i023, hi023, _, hsz23, _⟩ := info_parts info96; have hroom23 : l0.length ≤ c0 := HC0.out; have hC23 : Kd.C k96 _ (some ad117) l0.length l0 := HR0.out; have ql23 : (t119 : Int) ≤ ((wrap64 ((l0.length : Int) - 1)) : Int) := of_decide_eq_true (by first | (with_reducible assumption) | assumption); have q023 : (0 : Int) ≤ (t119 : Int) := of_decide_eq_true (by first | (with_reducible assumption) | assumption); have hcut23 := cut_mid (P := Try.prog) 61 96 .i64 .i64 Try.underlying61 hi023 4 hsz23 (some ad117) l0.length c0 t119 (wrap64 ((l0.length : Int) - 1)) q023 ql23 q23 hroom23; have hr23 := Kd.C_mid (lo := (t119 : Int).toNat) (hi := ((wrap64 ((l0.length : Int) - 1)) : Int).toNat) (c := c0) hC23 (by omega) (by omega) hroom23; obtain ⟨A23, hA23⟩ : ∃ A1, A1 = (if c0 = (t119 : Int).toNat then (some ad117) else ((some ad117) : Option Addr).map (·.add ((t119 : Int).toNat * 4))) := ⟨_, rfl⟩; obtain ⟨c23, hc23⟩ : ∃ c1, c1 = c0 - (t119 : Int).toNat := ⟨_, rfl⟩; have hy23 : y125.length = ((wrap64 ((l0.length : Int) - 1)) : Int).toNat - (t119 : Int).toNat := (by rw [Ny125.out, List.length_drop, List.length_take] <;> omega); rw [show ((l0).take ((wrap64 ((l0.length : Int) - 1)) : Int).toNat).drop (t119 : Int).toNat = y125 from Ny125.out.symm] at hr23; replace hr23 : Kd.C k96 _ A23 y125.length y125 := (by rw [hA23]; exact hr23); rw [← hy23, ← hA23, ← hc23] at hcut23; have HR128 := Aside0.mk hr23; have HC128 := Aside0.mk (show y125.length ≤ c23 from by rw [hy23, hc23]; exact Nat.sub_le_sub_right (Nat.le_trans (by omega) hroom23) _); clear hr23 hC23 hroom23 hi023 hsz23 hc23; have KY23 := Aside0.mk hy23; have KA23 := Aside0.mk hA23; clear hy23 hA23; replace q23 := eq_true q23) | ((with_reducible refine gate_callee (f := 66) rfl ?_); refine goesL_ (some 39) rfl rfl Try.func66 (by kernel_rfl) rfl #[.slice A23 y125.length c23] rfl (by (try simp only [List.map_toArray, List.map_cons, List.map_nil]); first | done | rfl | (simp only [List.length_drop, List.length_take]; rfl)) ?_; (with_reducible refine (ih kj4 (by have := HJ4.out; omega) _ _ y125 t129 _ ?side1 ?side2 A19.out).mono ?_); (case side1 => repeat (first | exact (Kd.C_below HR128.out HB.out) | (with_reducible refine Kd.C_alloc ?_ _) | (with_reducible refine Kd.C_drewN ?_ _) | (with_reducible refine Kd.C_drew ?_))); (case side2 => exact HC128.out); rintro e w24 ⟨rfl, hb⟩; refine ⟨_, rfl, ?_⟩; have n0_ := Aside0.mk (blk_below (g := gb118) (o := .cells #[.int .i64 ((rd_T96 l0 (ji2)).f0), .slice A117_1 ((rd_T96 l0 (ji2)).f1).length c117_1, .int .i64 ((rd_T96 l0 (ji2)).f2), .int .i64 ((rd_T96 l0 (ji2)).f3)] 96 (0, 0)) (by (with_reducible repeat (first | refine blk_drewN ?_ _ | refine blk_drew ?_ | refine blk_alloc ?_ _)); exact BK118.out) hb); have n1_ := Aside0.mk (below_step (by repeat (first | (with_reducible first | exact HB.out | apply below_alloc | apply pw_below_drewN | apply below_drew1 | refine below_set ?_ GE118.out) | exact HB.out)) hb); clear BK118; clear HB; have BK118 := n0_; have HB := n1_; clear n0_ n1_; (try clear hb); (try clear hb2); (try clear hk); (try clear hi)))
                      go_ret
                      exact ⟨by first | rfl | (simp [errW_none, errW_some] <;> rfl) | (simp only [← hji2]; first | rfl | (simp [errW_none, errW_some] <;> rfl)) | (simp [*, errW_none, errW_some] <;> rfl), by repeat (first | (with_reducible first | exact HB.out | apply below_alloc | apply pw_below_drewN | apply below_drew1 | refine below_set ?_ GE118.out) | exact HB.out)⟩
                    · rw [if_neg c20] at H
                      have c20b0 : decide (500 < (wrap64 (t124 + t129))) = false := decide_eq_false c20
                      clear c20
                      obtain rfl := Option.some.inj H
                      go_wp2_with (first | ((with_reducible refine gate_callee (f := 81) rfl ?_); refine goesL_ (some 29) rfl rfl Try.func81 (by kernel_rfl) rfl #[.slice (some ad117) l0.length c0, .int .i64 (wrap64 ((l0.length : Int) - 1))] rfl (by (try simp only [List.map_toArray, List.map_cons, List.map_nil]); first | done | rfl | (simp only [List.length_drop, List.length_take]; rfl)) ?_; (with_reducible refine (spec_l1start.calls kj4 _ _ l0 (wrap64 ((l0.length : Int) - 1)) t119 _ ?side1 ?side2 A12.out).mono ?_); (case side1 => repeat (first | exact (Kd.C_below HR0.out HB.out) | (with_reducible refine Kd.C_alloc ?_ _) | (with_reducible refine Kd.C_drewN ?_ _) | (with_reducible refine Kd.C_drew ?_))); (case side2 => exact HC0.out); rintro e w' ⟨rfl, ⟨nd, rfl⟩⟩; refine ⟨_, rfl, ?_⟩; have q25 : (t119 : Int) ≤ ((l0.length : Int) : Int) := of_decide_eq_true (by first | (with_reducible assumption) | assumption); obtain ⟨i025, hi025, _, hsz25, _⟩ := info_parts info96; have hroom25 : l0.length ≤ c0 := HC0.out; have hC25 : Kd.C k96 _ (some ad117) l0.length l0 := HR0.out; have hcut25 := cut_to (P := Try.prog) 61 96 .i64 Try.underlying61 hi025 (some ad117) l0.length c0 t119 (of_decide_eq_true (by first | (with_reducible assumption) | assumption)) q25 hroom25; have hr25 := Kd.C_take (m := (t119 : Int).toNat) hC25 (by omega); have hy25 : y120.length = (t119 : Int).toNat := (by rw [Ny120.out, List.length_take]; omega); rw [← Ny120.out] at hr25; rw [← hy25] at hcut25; have HR123 := Aside0.mk hr25; have HC123 := Aside0.mk (show y120.length ≤ c0 from by omega); clear hr25 hC25 hroom25 hi025 hsz25; have KY25 := Aside0.mk hy25; clear hy25; replace q25 := eq_true q25) | ((with_reducible refine gate_callee (f := 66) rfl ?_); refine goesL_ (some 33) rfl rfl Try.func66 (by kernel_rfl) rfl #[.slice (some ad117) y120.length c0] rfl (by (try simp only [List.map_toArray, List.map_cons, List.map_nil]); first | done | rfl | (simp only [List.length_drop, List.length_take]; rfl)) ?_; (with_reducible refine (ih kj4 (by have := HJ4.out; omega) _ _ y120 t124 _ ?side1 ?side2 A15.out).mono ?_); (case side1 => repeat (first | exact (Kd.C_below HR123.out (by repeat (first | (with_reducible first | exact HB.out | apply below_alloc | apply pw_below_drewN | apply below_drew1 | refine below_set ?_ GE118.out) | exact HB.out))) | (with_reducible refine Kd.C_alloc ?_ _) | (with_reducible refine Kd.C_drewN ?_ _) | (with_reducible refine Kd.C_drew ?_))); (case side2 => exact HC123.out); rintro e w26 ⟨rfl, hb⟩; refine ⟨_, rfl, ?_⟩; have n0_ := Aside0.mk (blk_below (g := gb118) (o := .cells #[.int .i64 ((rd_T96 l0 (ji2)).f0), .slice A117_1 ((rd_T96 l0 (ji2)).f1).length c117_1, .int .i64 ((rd_T96 l0 (ji2)).f2), .int .i64 ((rd_T96 l0 (ji2)).f3)] 96 (0, 0)) (by (with_reducible repeat (first | refine blk_drewN ?_ _ | refine blk_drew ?_ | refine blk_alloc ?_ _)); exact BK118.out) hb); have n1_ := Aside0.mk (below_step (by repeat (first | (with_reducible first | exact HB.out | apply below_alloc | apply pw_below_drewN | apply below_drew1 | refine below_set ?_ GE118.out) | exact HB.out)) hb); clear BK118; clear HB; have BK118 := n0_; have HB := n1_; clear n0_ n1_; (try clear hb); (try clear hb2); (try clear hk); (try clear hi); have q27 : ((wrap64 ((l0.length : Int) - 1)) : Int) ≤ ((l0.length : Int) : Int) := of_decide_eq_true (by first | (with_reducible assumption) | assumption); obtain ⟨i027, hi027, _, hsz27, _⟩ := info_parts info96; have hroom27 : l0.length ≤ c0 := HC0.out; have hC27 : Kd.C k96 _ (some ad117) l0.length l0 := HR0.out; have ql27 : (t119 : Int) ≤ ((wrap64 ((l0.length : Int) - 1)) : Int) := of_decide_eq_true (by first | (with_reducible assumption) | assumption); have q027 : (0 : Int) ≤ (t119 : Int) := of_decide_eq_true (by first | (with_reducible assumption) | assumption); have hcut27 := cut_mid (P := Try.prog) 61 96 .i64 .i64 Try.underlying61 hi027 4 hsz27 (some ad117) l0.length c0 t119 (wrap64 ((l0.length : Int) - 1)) q027 ql27 q27 hroom27; have hr27 := Kd.C_mid (lo := (t119 : Int).toNat) (hi := ((wrap64 ((l0.length : Int) - 1)) : Int).toNat) (c := c0) hC27 (by omega) (by omega) hroom27; obtain ⟨A27, hA27⟩ : ∃ A1, A1 = (if c0 = (t119 : Int).toNat then (some ad117) else ((some ad117) : Option Addr).map (·.add ((t119 : Int).toNat * 4))) := ⟨_, rfl⟩; obtain ⟨c27, hc27⟩ : ∃ c1, c1 = c0 - (t119 : Int).toNat := ⟨_, rfl⟩; have hy27 : y125.length = ((wrap64 ((l0.length : Int) - 1)) : Int).toNat - (t119 : Int).toNat := (by rw [Ny125.out, List.length_drop, List.length_take] <;> omega); rw [show ((l0).take ((wrap64 ((l0.length : Int) - 1)) : Int).toNat).drop (t119 : Int).toNat = y125 from Ny125.out.symm] at hr27; replace hr27 : Kd.C k96 _ A27 y125.length y125 := (by rw [hA27]; exact hr27); rw [← hy27, ← hA27, ← hc27] at hcut27; have HR128 := Aside0.mk hr27; have HC128 := Aside0.mk (show y125.length ≤ c27 from by rw [hy27, hc27]; exact Nat.sub_le_sub_right (Nat.le_trans (by omega) hroom27) _); clear hr27 hC27 hroom27 hi027 hsz27 hc27; have KY27 := Aside0.mk hy27; have KA27 := Aside0.mk hA27; clear hy27 hA27; replace q27 := eq_true q27) | ((with_reducible refine gate_callee (f := 66) rfl ?_); refine goesL_ (some 39) rfl rfl Try.func66 (by kernel_rfl) rfl #[.slice A27 y125.length c27] rfl (by (try simp only [List.map_toArray, List.map_cons, List.map_nil]); first | done | rfl | (simp only [List.length_drop, List.length_take]; rfl)) ?_; (with_reducible refine (ih kj4 (by have := HJ4.out; omega) _ _ y125 t129 _ ?side1 ?side2 A19.out).mono ?_); (case side1 => repeat (first | exact (Kd.C_below HR128.out HB.out) | (with_reducible refine Kd.C_alloc ?_ _) | (with_reducible refine Kd.C_drewN ?_ _) | (with_reducible refine Kd.C_drew ?_))); (case side2 => exact HC128.out); rintro e w28 ⟨rfl, hb⟩; refine ⟨_, rfl, ?_⟩; have n0_ := Aside0.mk (blk_below (g := gb118) (o := .cells #[.int .i64 ((rd_T96 l0 (ji2)).f0), .slice A117_1 ((rd_T96 l0 (ji2)).f1).length c117_1, .int .i64 ((rd_T96 l0 (ji2)).f2), .int .i64 ((rd_T96 l0 (ji2)).f3)] 96 (0, 0)) (by (with_reducible repeat (first | refine blk_drewN ?_ _ | refine blk_drew ?_ | refine blk_alloc ?_ _)); exact BK118.out) hb); have n1_ := Aside0.mk (below_step (by repeat (first | (with_reducible first | exact HB.out | apply below_alloc | apply pw_below_drewN | apply below_drew1 | refine below_set ?_ GE118.out) | exact HB.out)) hb); clear BK118; clear HB; have BK118 := n0_; have HB := n1_; clear n0_ n1_; (try clear hb); (try clear hb2); (try clear hk); (try clear hi)))
                      go_ret
                      exact ⟨by first | rfl | (simp [errW_none, errW_some] <;> rfl) | (simp only [← hji2]; first | rfl | (simp [errW_none, errW_some] <;> rfl)) | (simp [*, errW_none, errW_some] <;> rfl), by repeat (first | (with_reducible first | exact HB.out | apply below_alloc | apply pw_below_drewN | apply below_drew1 | refine below_set ?_ GE118.out) | exact HB.out)⟩
                  · rw [if_neg c18] at H
                    exact absurd H (by simp)
                · rw [if_neg c17] at H
                  exact absurd H (by simp)
              · rw [if_neg c14] at H
                exact absurd H (by simp)
            · rw [if_neg c13] at H
              exact absurd H (by simp)
          · replace c11 := Bool.eq_false_iff.mpr c11
            subst c11
            have H1 : (if ((rd_T96 l0 (ji2)).f0) = 4 then (if 0 ≤ (wrap64 ((l0.length : Int) - 1)) then (if (wrap64 ((l0.length : Int) - 1)) ≤ (l0.length : Int) then ((spec_l1size.f kj4 (l0.take ((wrap64 ((l0.length : Int) - 1)) : Int).toNat)).bind fun t134 => (if ((rd_T96 l0 (ji2)).f3) = (-1) then (if ((rd_T96 l0 (ji2)).f2) < 1 then (if (wrap64 ((wrap64 (1 * t134)) + 1)) > 500 then (some 501) else (some (wrap64 ((wrap64 (1 * t134)) + 1)))) else (if (wrap64 ((wrap64 (((rd_T96 l0 (ji2)).f2) * t134)) + 1)) > 500 then (some 501) else (some (wrap64 ((wrap64 (((rd_T96 l0 (ji2)).f2) * t134)) + 1))))) else (if ((rd_T96 l0 (ji2)).f3) = 0 then (if t134 > 500 then (some 501) else (some t134)) else (if (wrap64 ((wrap64 (((rd_T96 l0 (ji2)).f2) * t134)) + (wrap64 ((wrap64 (((rd_T96 l0 (ji2)).f3) - ((rd_T96 l0 (ji2)).f2))) * (wrap64 (t134 + 1)))))) > 500 then (some 501) else (some (wrap64 ((wrap64 (((rd_T96 l0 (ji2)).f2) * t134)) + (wrap64 ((wrap64 (((rd_T96 l0 (ji2)).f3) - ((rd_T96 l0 (ji2)).f2))) * (wrap64 (t134 + 1))))))))))) else (none)) else (none)) else (if 1 > 500 then (some 501) else (some 1))) = some r := by rw [if_neg (show ¬ (false = true) by decide)] at H; exact H
            clear H
            have H := H1
            clear H1
            by_cases c29 : ((rd_T96 l0 (ji2)).f0) = 4
            · rw [if_pos c29] at H
              have c29b0 : (((rd_T96 l0 (ji2)).f0) == 4) = true := beq_iff_eq.mpr c29
              have c29b1 : (((rd_T96 l0 (ji2)).f0) != 4) = false := bne_eq_false_iff_eq.mpr c29
              clear c29
              obtain ⟨ji30, hji30⟩ : ∃ j_ : Int, (wrap64 ((l0.length : Int) - 1)) = j_ := ⟨_, rfl⟩
              replace H : (if 0 ≤ (ji30) then (if (ji30) ≤ (l0.length : Int) then ((spec_l1size.f kj4 (l0.take ((ji30) : Int).toNat)).bind fun t134 => (if ((rd_T96 l0 (ji2)).f3) = (-1) then (if ((rd_T96 l0 (ji2)).f2) < 1 then (if (wrap64 ((wrap64 (1 * t134)) + 1)) > 500 then (some 501) else (some (wrap64 ((wrap64 (1 * t134)) + 1)))) else (if (wrap64 ((wrap64 (((rd_T96 l0 (ji2)).f2) * t134)) + 1)) > 500 then (some 501) else (some (wrap64 ((wrap64 (((rd_T96 l0 (ji2)).f2) * t134)) + 1))))) else (if ((rd_T96 l0 (ji2)).f3) = 0 then (if t134 > 500 then (some 501) else (some t134)) else (if (wrap64 ((wrap64 (((rd_T96 l0 (ji2)).f2) * t134)) + (wrap64 ((wrap64 (((rd_T96 l0 (ji2)).f3) - ((rd_T96 l0 (ji2)).f2))) * (wrap64 (t134 + 1)))))) > 500 then (some 501) else (some (wrap64 ((wrap64 (((rd_T96 l0 (ji2)).f2) * t134)) + (wrap64 ((wrap64 (((rd_T96 l0 (ji2)).f3) - ((rd_T96 l0 (ji2)).f2))) * (wrap64 (t134 + 1))))))))))) else (none)) else (none)) = some r := by first | (rw [hji30] at H; exact H) | (simp only [hji30] at H ⊢; exact H)
              have hji30w : (IntKind.i64.wrap ((l0.length : Int) - 1)) = ji30 := (i64_w _).trans hji30
              by_cases c31 : 0 ≤ (ji30)
              · rw [if_pos c31] at H
                have c31b0 := eq_true c31
                have c31b1 : decide (0 ≤ (ji30)) = true := decide_eq_true c31
                clear c31
                by_cases c32 : (ji30) ≤ (l0.length : Int)
                · rw [if_pos c32] at H
                  have c32b0 := eq_true c32
                  have c32b1 : decide ((ji30) ≤ (l0.length : Int)) = true := decide_eq_true c32
                  clear c32
                  obtain ⟨y130, hy130⟩ : ∃ y_ : List (S96), y_ = (l0.take ((ji30) : Int).toNat) := ⟨_, rfl⟩
                  replace H : ((spec_l1size.f kj4 y130).bind fun t134 => (if ((rd_T96 l0 (ji2)).f3) = (-1) then (if ((rd_T96 l0 (ji2)).f2) < 1 then (if (wrap64 ((wrap64 (1 * t134)) + 1)) > 500 then (some 501) else (some (wrap64 ((wrap64 (1 * t134)) + 1)))) else (if (wrap64 ((wrap64 (((rd_T96 l0 (ji2)).f2) * t134)) + 1)) > 500 then (some 501) else (some (wrap64 ((wrap64 (((rd_T96 l0 (ji2)).f2) * t134)) + 1))))) else (if ((rd_T96 l0 (ji2)).f3) = 0 then (if t134 > 500 then (some 501) else (some t134)) else (if (wrap64 ((wrap64 (((rd_T96 l0 (ji2)).f2) * t134)) + (wrap64 ((wrap64 (((rd_T96 l0 (ji2)).f3) - ((rd_T96 l0 (ji2)).f2))) * (wrap64 (t134 + 1)))))) > 500 then (some 501) else (some (wrap64 ((wrap64 (((rd_T96 l0 (ji2)).f2) * t134)) + (wrap64 ((wrap64 (((rd_T96 l0 (ji2)).f3) - ((rd_T96 l0 (ji2)).f2))) * (wrap64 (t134 + 1))))))))))) = some r := by first | (rw [hy130]; with_reducible exact H) | (have H2_ := (Option.bind_some _ _).symm.trans H; rw [hy130]; with_reducible exact H2_) | (have H2_ := (Option.bind_some _ _).symm.trans H; with_reducible exact H2_) | with_reducible exact H | (rw [hy130]; exact H) | exact H
                  have Ny130 := Aside0.mk hy130
                  clear hy130
                  replace H := Option.bind_eq_some_iff.mp H
                  obtain ⟨t134, A330, H⟩ := H
                  replace H : (if ((rd_T96 l0 (ji2)).f3) = (-1) then (if ((rd_T96 l0 (ji2)).f2) < 1 then (if (wrap64 ((wrap64 (1 * t134)) + 1)) > 500 then (some 501) else (some (wrap64 ((wrap64 (1 * t134)) + 1)))) else (if (wrap64 ((wrap64 (((rd_T96 l0 (ji2)).f2) * t134)) + 1)) > 500 then (some 501) else (some (wrap64 ((wrap64 (((rd_T96 l0 (ji2)).f2) * t134)) + 1))))) else (if ((rd_T96 l0 (ji2)).f3) = 0 then (if t134 > 500 then (some 501) else (some t134)) else (if (wrap64 ((wrap64 (((rd_T96 l0 (ji2)).f2) * t134)) + (wrap64 ((wrap64 (((rd_T96 l0 (ji2)).f3) - ((rd_T96 l0 (ji2)).f2))) * (wrap64 (t134 + 1)))))) > 500 then (some 501) else (some (wrap64 ((wrap64 (((rd_T96 l0 (ji2)).f2) * t134)) + (wrap64 ((wrap64 (((rd_T96 l0 (ji2)).f3) - ((rd_T96 l0 (ji2)).f2))) * (wrap64 (t134 + 1)))))))))) = some r := H
                  have A33 := Aside0.mk A330
                  clear A330
                  by_cases c34 : ((rd_T96 l0 (ji2)).f3) = (-1)
                  · rw [if_pos c34] at H
                    have c34b0 : (((rd_T96 l0 (ji2)).f3) == (-1)) = true := beq_iff_eq.mpr c34
                    have c34b1 : (((rd_T96 l0 (ji2)).f3) != (-1)) = false := bne_eq_false_iff_eq.mpr c34
                    clear c34
                    by_cases c35 : ((rd_T96 l0 (ji2)).f2) < 1
                    · rw [if_pos c35] at H
                      have c35b0 : decide (((rd_T96 l0 (ji2)).f2) < 1) = true := decide_eq_true c35
                      clear c35
                      simp only [Int.one_mul] at H
                      by_cases c36 : (wrap64 ((wrap64 t134) + 1)) > 500
                      · rw [if_pos c36] at H
                        have c36b0 : decide (500 < (wrap64 ((wrap64 t134) + 1))) = true := decide_eq_true c36
                        clear c36
                        obtain rfl := Option.some.inj H
                        have hcz37_0 : wc.cell? ⟨gb118, 0, none⟩ = some (.int .i64 ((rd_T96 l0 (ji2)).f0)) := (blk_cell BK118.out 0).trans rfl
                        have hcz37_1 : wc.cell? ⟨gb118, 1, none⟩ = some (.slice A117_1 ((rd_T96 l0 (ji2)).f1).length c117_1) := (blk_cell BK118.out 1).trans rfl
                        have hcz37_2 : wc.cell? ⟨gb118, 2, none⟩ = some (.int .i64 ((rd_T96 l0 (ji2)).f2)) := (blk_cell BK118.out 2).trans rfl
                        have hcz37_3 : wc.cell? ⟨gb118, 3, none⟩ = some (.int .i64 ((rd_T96 l0 (ji2)).f3)) := (blk_cell BK118.out 3).trans rfl
                        have hfz37_0 := blk_frozen BK118.out 0
                        have hfz37_1 := blk_frozen BK118.out 1
                        have hfz37_2 := blk_frozen BK118.out 2
                        have hfz37_3 := blk_frozen BK118.out 3
                        have q38 : ((ji30) : Int) ≤ ((l0.length : Int) : Int) := of_decide_eq_true (by first | (with_reducible assumption) | assumption)
                        obtain ⟨i038, hi038, _, hsz38, _⟩ := info_parts info96
                        have hroom38 : l0.length ≤ c0 := HC0.out
                        have hC38 : Kd.C k96 _ (some ad117) l0.length l0 := HR0.out
                        have hcut38 := cut_to (P := Try.prog) 61 96 .i64 Try.underlying61 hi038 (some ad117) l0.length c0 (ji30) (of_decide_eq_true (by first | (with_reducible assumption) | assumption)) q38 hroom38
                        have hr38 := Kd.C_take (m := ((ji30) : Int).toNat) hC38 (by omega)
                        have hy38 : y130.length = ((ji30) : Int).toNat := (by rw [Ny130.out, List.length_take]; omega)
                        rw [← Ny130.out] at hr38
                        rw [← hy38] at hcut38
                        have HR133 := Aside0.mk hr38
                        have HC133 := Aside0.mk (show y130.length ≤ c0 from by omega)
                        clear hr38 hC38 hroom38 hi038 hsz38
                        have KY38 := Aside0.mk hy38
                        clear hy38
                        replace q38 := eq_true q38
                        go_wp2_with (first | ((with_reducible refine gate_callee (f := 66) rfl ?_); refine goesL_ (some 50) rfl rfl Try.func66 (by kernel_rfl) rfl #[.slice (some ad117) y130.length c0] rfl (by (try simp only [List.map_toArray, List.map_cons, List.map_nil]); first | done | rfl | (simp only [List.length_drop, List.length_take]; rfl)) ?_; (with_reducible refine (ih kj4 (by have := HJ4.out; omega) _ _ y130 t134 _ ?side1 ?side2 A33.out).mono ?_); (case side1 => repeat (first | exact (Kd.C_below HR133.out HB.out) | (with_reducible refine Kd.C_alloc ?_ _) | (with_reducible refine Kd.C_drewN ?_ _) | (with_reducible refine Kd.C_drew ?_))); (case side2 => exact HC133.out); rintro e w39 ⟨rfl, hb⟩; refine ⟨_, rfl, ?_⟩; have n0_ := Aside0.mk (blk_below (g := gb118) (o := .cells #[.int .i64 ((rd_T96 l0 (ji2)).f0), .slice A117_1 ((rd_T96 l0 (ji2)).f1).length c117_1, .int .i64 ((rd_T96 l0 (ji2)).f2), .int .i64 ((rd_T96 l0 (ji2)).f3)] 96 (0, 0)) (by (with_reducible repeat (first | refine blk_drewN ?_ _ | refine blk_drew ?_ | refine blk_alloc ?_ _)); exact BK118.out) hb); have n1_ := Aside0.mk (below_step (by repeat (first | (with_reducible first | exact HB.out | apply below_alloc | apply pw_below_drewN | apply below_drew1 | refine below_set ?_ GE118.out) | exact HB.out)) hb); clear BK118; clear HB; have BK118 := n0_; have HB := n1_; clear n0_ n1_; (try clear hb); (try clear hb2); (try clear hk); (try clear hi); have hcz40_0 : w39.cell? ⟨gb118, 0, none⟩ = some (.int .i64 ((rd_T96 l0 (ji2)).f0)) := (blk_cell BK118.out 0).trans rfl; have hcz40_1 : w39.cell? ⟨gb118, 1, none⟩ = some (.slice A117_1 ((rd_T96 l0 (ji2)).f1).length c117_1) := (blk_cell BK118.out 1).trans rfl; have hcz40_2 : w39.cell? ⟨gb118, 2, none⟩ = some (.int .i64 ((rd_T96 l0 (ji2)).f2)) := (blk_cell BK118.out 2).trans rfl; have hcz40_3 : w39.cell? ⟨gb118, 3, none⟩ = some (.int .i64 ((rd_T96 l0 (ji2)).f3)) := (blk_cell BK118.out 3).trans rfl; have hfz40_0 := blk_frozen BK118.out 0; have hfz40_1 := blk_frozen BK118.out 1; have hfz40_2 := blk_frozen BK118.out 2; have hfz40_3 := blk_frozen BK118.out 3))
                        go_ret
                        exact ⟨by first | rfl | (simp [errW_none, errW_some] <;> rfl) | (simp only [← hji2, ← hji30]; first | rfl | (simp [errW_none, errW_some] <;> rfl)) | (simp [*, errW_none, errW_some] <;> rfl), by repeat (first | (with_reducible first | exact HB.out | apply below_alloc | apply pw_below_drewN | apply below_drew1 | refine below_set ?_ GE118.out) | exact HB.out)⟩
                      · rw [if_neg c36] at H
                        have c36b0 : decide (500 < (wrap64 ((wrap64 t134) + 1))) = false := decide_eq_false c36
                        clear c36
                        obtain rfl := Option.some.inj H
                        have hcz41_0 : wc.cell? ⟨gb118, 0, none⟩ = some (.int .i64 ((rd_T96 l0 (ji2)).f0)) := (blk_cell BK118.out 0).trans rfl
                        have hcz41_1 : wc.cell? ⟨gb118, 1, none⟩ = some (.slice A117_1 ((rd_T96 l0 (ji2)).f1).length c117_1) := (blk_cell BK118.out 1).trans rfl
                        have hcz41_2 : wc.cell? ⟨gb118, 2, none⟩ = some (.int .i64 ((rd_T96 l0 (ji2)).f2)) := (blk_cell BK118.out 2).trans rfl
                        have hcz41_3 : wc.cell? ⟨gb118, 3, none⟩ = some (.int .i64 ((rd_T96 l0 (ji2)).f3)) := (blk_cell BK118.out 3).trans rfl
                        have hfz41_0 := blk_frozen BK118.out 0
                        have hfz41_1 := blk_frozen BK118.out 1
                        have hfz41_2 := blk_frozen BK118.out 2
                        have hfz41_3 := blk_frozen BK118.out 3
                        have q42 : ((ji30) : Int) ≤ ((l0.length : Int) : Int) := of_decide_eq_true (by first | (with_reducible assumption) | assumption)
                        obtain ⟨i042, hi042, _, hsz42, _⟩ := info_parts info96
                        have hroom42 : l0.length ≤ c0 := HC0.out
                        have hC42 : Kd.C k96 _ (some ad117) l0.length l0 := HR0.out
                        have hcut42 := cut_to (P := Try.prog) 61 96 .i64 Try.underlying61 hi042 (some ad117) l0.length c0 (ji30) (of_decide_eq_true (by first | (with_reducible assumption) | assumption)) q42 hroom42
                        have hr42 := Kd.C_take (m := ((ji30) : Int).toNat) hC42 (by omega)
                        have hy42 : y130.length = ((ji30) : Int).toNat := (by rw [Ny130.out, List.length_take]; omega)
                        rw [← Ny130.out] at hr42
                        rw [← hy42] at hcut42
                        have HR133 := Aside0.mk hr42
                        have HC133 := Aside0.mk (show y130.length ≤ c0 from by omega)
                        clear hr42 hC42 hroom42 hi042 hsz42
                        have KY42 := Aside0.mk hy42
                        clear hy42
                        replace q42 := eq_true q42
                        go_wp2_with (first | ((with_reducible refine gate_callee (f := 66) rfl ?_); refine goesL_ (some 50) rfl rfl Try.func66 (by kernel_rfl) rfl #[.slice (some ad117) y130.length c0] rfl (by (try simp only [List.map_toArray, List.map_cons, List.map_nil]); first | done | rfl | (simp only [List.length_drop, List.length_take]; rfl)) ?_; (with_reducible refine (ih kj4 (by have := HJ4.out; omega) _ _ y130 t134 _ ?side1 ?side2 A33.out).mono ?_); (case side1 => repeat (first | exact (Kd.C_below HR133.out HB.out) | (with_reducible refine Kd.C_alloc ?_ _) | (with_reducible refine Kd.C_drewN ?_ _) | (with_reducible refine Kd.C_drew ?_))); (case side2 => exact HC133.out); rintro e w43 ⟨rfl, hb⟩; refine ⟨_, rfl, ?_⟩; have n0_ := Aside0.mk (blk_below (g := gb118) (o := .cells #[.int .i64 ((rd_T96 l0 (ji2)).f0), .slice A117_1 ((rd_T96 l0 (ji2)).f1).length c117_1, .int .i64 ((rd_T96 l0 (ji2)).f2), .int .i64 ((rd_T96 l0 (ji2)).f3)] 96 (0, 0)) (by (with_reducible repeat (first | refine blk_drewN ?_ _ | refine blk_drew ?_ | refine blk_alloc ?_ _)); exact BK118.out) hb); have n1_ := Aside0.mk (below_step (by repeat (first | (with_reducible first | exact HB.out | apply below_alloc | apply pw_below_drewN | apply below_drew1 | refine below_set ?_ GE118.out) | exact HB.out)) hb); clear BK118; clear HB; have BK118 := n0_; have HB := n1_; clear n0_ n1_; (try clear hb); (try clear hb2); (try clear hk); (try clear hi); have hcz44_0 : w43.cell? ⟨gb118, 0, none⟩ = some (.int .i64 ((rd_T96 l0 (ji2)).f0)) := (blk_cell BK118.out 0).trans rfl; have hcz44_1 : w43.cell? ⟨gb118, 1, none⟩ = some (.slice A117_1 ((rd_T96 l0 (ji2)).f1).length c117_1) := (blk_cell BK118.out 1).trans rfl; have hcz44_2 : w43.cell? ⟨gb118, 2, none⟩ = some (.int .i64 ((rd_T96 l0 (ji2)).f2)) := (blk_cell BK118.out 2).trans rfl; have hcz44_3 : w43.cell? ⟨gb118, 3, none⟩ = some (.int .i64 ((rd_T96 l0 (ji2)).f3)) := (blk_cell BK118.out 3).trans rfl; have hfz44_0 := blk_frozen BK118.out 0; have hfz44_1 := blk_frozen BK118.out 1; have hfz44_2 := blk_frozen BK118.out 2; have hfz44_3 := blk_frozen BK118.out 3))
                        go_ret
                        exact ⟨by first | rfl | (simp [errW_none, errW_some] <;> rfl) | (simp only [← hji2, ← hji30]; first | rfl | (simp [errW_none, errW_some] <;> rfl)) | (simp [*, errW_none, errW_some] <;> rfl), by repeat (first | (with_reducible first | exact HB.out | apply below_alloc | apply pw_below_drewN | apply below_drew1 | refine below_set ?_ GE118.out) | exact HB.out)⟩
                    · rw [if_neg c35] at H
                      have c35b0 : decide (((rd_T96 l0 (ji2)).f2) < 1) = false := decide_eq_false c35
                      clear c35
                      by_cases c45 : (wrap64 ((wrap64 (((rd_T96 l0 (ji2)).f2) * t134)) + 1)) > 500
                      · rw [if_pos c45] at H
                        have c45b0 : decide (500 < (wrap64 ((wrap64 (((rd_T96 l0 (ji2)).f2) * t134)) + 1))) = true := decide_eq_true c45
                        clear c45
                        obtain rfl := Option.some.inj H
                        have hcz46_0 : wc.cell? ⟨gb118, 0, none⟩ = some (.int .i64 ((rd_T96 l0 (ji2)).f0)) := (blk_cell BK118.out 0).trans rfl
                        have hcz46_1 : wc.cell? ⟨gb118, 1, none⟩ = some (.slice A117_1 ((rd_T96 l0 (ji2)).f1).length c117_1) := (blk_cell BK118.out 1).trans rfl
                        have hcz46_2 : wc.cell? ⟨gb118, 2, none⟩ = some (.int .i64 ((rd_T96 l0 (ji2)).f2)) := (blk_cell BK118.out 2).trans rfl
                        have hcz46_3 : wc.cell? ⟨gb118, 3, none⟩ = some (.int .i64 ((rd_T96 l0 (ji2)).f3)) := (blk_cell BK118.out 3).trans rfl
                        have hfz46_0 := blk_frozen BK118.out 0
                        have hfz46_1 := blk_frozen BK118.out 1
                        have hfz46_2 := blk_frozen BK118.out 2
                        have hfz46_3 := blk_frozen BK118.out 3
                        have q47 : ((ji30) : Int) ≤ ((l0.length : Int) : Int) := of_decide_eq_true (by first | (with_reducible assumption) | assumption)
                        obtain ⟨i047, hi047, _, hsz47, _⟩ := info_parts info96
                        have hroom47 : l0.length ≤ c0 := HC0.out
                        have hC47 : Kd.C k96 _ (some ad117) l0.length l0 := HR0.out
                        have hcut47 := cut_to (P := Try.prog) 61 96 .i64 Try.underlying61 hi047 (some ad117) l0.length c0 (ji30) (of_decide_eq_true (by first | (with_reducible assumption) | assumption)) q47 hroom47
                        have hr47 := Kd.C_take (m := ((ji30) : Int).toNat) hC47 (by omega)
                        have hy47 : y130.length = ((ji30) : Int).toNat := (by rw [Ny130.out, List.length_take]; omega)
                        rw [← Ny130.out] at hr47
                        rw [← hy47] at hcut47
                        have HR133 := Aside0.mk hr47
                        have HC133 := Aside0.mk (show y130.length ≤ c0 from by omega)
                        clear hr47 hC47 hroom47 hi047 hsz47
                        have KY47 := Aside0.mk hy47
                        clear hy47
                        replace q47 := eq_true q47
                        go_wp2_with (first | ((with_reducible refine gate_callee (f := 66) rfl ?_); refine goesL_ (some 50) rfl rfl Try.func66 (by kernel_rfl) rfl #[.slice (some ad117) y130.length c0] rfl (by (try simp only [List.map_toArray, List.map_cons, List.map_nil]); first | done | rfl | (simp only [List.length_drop, List.length_take]; rfl)) ?_; (with_reducible refine (ih kj4 (by have := HJ4.out; omega) _ _ y130 t134 _ ?side1 ?side2 A33.out).mono ?_); (case side1 => repeat (first | exact (Kd.C_below HR133.out HB.out) | (with_reducible refine Kd.C_alloc ?_ _) | (with_reducible refine Kd.C_drewN ?_ _) | (with_reducible refine Kd.C_drew ?_))); (case side2 => exact HC133.out); rintro e w48 ⟨rfl, hb⟩; refine ⟨_, rfl, ?_⟩; have n0_ := Aside0.mk (blk_below (g := gb118) (o := .cells #[.int .i64 ((rd_T96 l0 (ji2)).f0), .slice A117_1 ((rd_T96 l0 (ji2)).f1).length c117_1, .int .i64 ((rd_T96 l0 (ji2)).f2), .int .i64 ((rd_T96 l0 (ji2)).f3)] 96 (0, 0)) (by (with_reducible repeat (first | refine blk_drewN ?_ _ | refine blk_drew ?_ | refine blk_alloc ?_ _)); exact BK118.out) hb); have n1_ := Aside0.mk (below_step (by repeat (first | (with_reducible first | exact HB.out | apply below_alloc | apply pw_below_drewN | apply below_drew1 | refine below_set ?_ GE118.out) | exact HB.out)) hb); clear BK118; clear HB; have BK118 := n0_; have HB := n1_; clear n0_ n1_; (try clear hb); (try clear hb2); (try clear hk); (try clear hi); have hcz49_0 : w48.cell? ⟨gb118, 0, none⟩ = some (.int .i64 ((rd_T96 l0 (ji2)).f0)) := (blk_cell BK118.out 0).trans rfl; have hcz49_1 : w48.cell? ⟨gb118, 1, none⟩ = some (.slice A117_1 ((rd_T96 l0 (ji2)).f1).length c117_1) := (blk_cell BK118.out 1).trans rfl; have hcz49_2 : w48.cell? ⟨gb118, 2, none⟩ = some (.int .i64 ((rd_T96 l0 (ji2)).f2)) := (blk_cell BK118.out 2).trans rfl; have hcz49_3 : w48.cell? ⟨gb118, 3, none⟩ = some (.int .i64 ((rd_T96 l0 (ji2)).f3)) := (blk_cell BK118.out 3).trans rfl; have hfz49_0 := blk_frozen BK118.out 0; have hfz49_1 := blk_frozen BK118.out 1; have hfz49_2 := blk_frozen BK118.out 2; have hfz49_3 := blk_frozen BK118.out 3))
                        go_ret
                        exact ⟨by first | rfl | (simp [errW_none, errW_some] <;> rfl) | (simp only [← hji2, ← hji30]; first | rfl | (simp [errW_none, errW_some] <;> rfl)) | (simp [*, errW_none, errW_some] <;> rfl), by repeat (first | (with_reducible first | exact HB.out | apply below_alloc | apply pw_below_drewN | apply below_drew1 | refine below_set ?_ GE118.out) | exact HB.out)⟩
                      · rw [if_neg c45] at H
                        have c45b0 : decide (500 < (wrap64 ((wrap64 (((rd_T96 l0 (ji2)).f2) * t134)) + 1))) = false := decide_eq_false c45
                        clear c45
                        obtain rfl := Option.some.inj H
                        have hcz50_0 : wc.cell? ⟨gb118, 0, none⟩ = some (.int .i64 ((rd_T96 l0 (ji2)).f0)) := (blk_cell BK118.out 0).trans rfl
                        have hcz50_1 : wc.cell? ⟨gb118, 1, none⟩ = some (.slice A117_1 ((rd_T96 l0 (ji2)).f1).length c117_1) := (blk_cell BK118.out 1).trans rfl
                        have hcz50_2 : wc.cell? ⟨gb118, 2, none⟩ = some (.int .i64 ((rd_T96 l0 (ji2)).f2)) := (blk_cell BK118.out 2).trans rfl
                        have hcz50_3 : wc.cell? ⟨gb118, 3, none⟩ = some (.int .i64 ((rd_T96 l0 (ji2)).f3)) := (blk_cell BK118.out 3).trans rfl
                        have hfz50_0 := blk_frozen BK118.out 0
                        have hfz50_1 := blk_frozen BK118.out 1
                        have hfz50_2 := blk_frozen BK118.out 2
                        have hfz50_3 := blk_frozen BK118.out 3
                        have q51 : ((ji30) : Int) ≤ ((l0.length : Int) : Int) := of_decide_eq_true (by first | (with_reducible assumption) | assumption)
                        obtain ⟨i051, hi051, _, hsz51, _⟩ := info_parts info96
                        have hroom51 : l0.length ≤ c0 := HC0.out
                        have hC51 : Kd.C k96 _ (some ad117) l0.length l0 := HR0.out
                        have hcut51 := cut_to (P := Try.prog) 61 96 .i64 Try.underlying61 hi051 (some ad117) l0.length c0 (ji30) (of_decide_eq_true (by first | (with_reducible assumption) | assumption)) q51 hroom51
                        have hr51 := Kd.C_take (m := ((ji30) : Int).toNat) hC51 (by omega)
                        have hy51 : y130.length = ((ji30) : Int).toNat := (by rw [Ny130.out, List.length_take]; omega)
                        rw [← Ny130.out] at hr51
                        rw [← hy51] at hcut51
                        have HR133 := Aside0.mk hr51
                        have HC133 := Aside0.mk (show y130.length ≤ c0 from by omega)
                        clear hr51 hC51 hroom51 hi051 hsz51
                        have KY51 := Aside0.mk hy51
                        clear hy51
                        replace q51 := eq_true q51
                        go_wp2_with (first | ((with_reducible refine gate_callee (f := 66) rfl ?_); refine goesL_ (some 50) rfl rfl Try.func66 (by kernel_rfl) rfl #[.slice (some ad117) y130.length c0] rfl (by (try simp only [List.map_toArray, List.map_cons, List.map_nil]); first | done | rfl | (simp only [List.length_drop, List.length_take]; rfl)) ?_; (with_reducible refine (ih kj4 (by have := HJ4.out; omega) _ _ y130 t134 _ ?side1 ?side2 A33.out).mono ?_); (case side1 => repeat (first | exact (Kd.C_below HR133.out HB.out) | (with_reducible refine Kd.C_alloc ?_ _) | (with_reducible refine Kd.C_drewN ?_ _) | (with_reducible refine Kd.C_drew ?_))); (case side2 => exact HC133.out); rintro e w52 ⟨rfl, hb⟩; refine ⟨_, rfl, ?_⟩; have n0_ := Aside0.mk (blk_below (g := gb118) (o := .cells #[.int .i64 ((rd_T96 l0 (ji2)).f0), .slice A117_1 ((rd_T96 l0 (ji2)).f1).length c117_1, .int .i64 ((rd_T96 l0 (ji2)).f2), .int .i64 ((rd_T96 l0 (ji2)).f3)] 96 (0, 0)) (by (with_reducible repeat (first | refine blk_drewN ?_ _ | refine blk_drew ?_ | refine blk_alloc ?_ _)); exact BK118.out) hb); have n1_ := Aside0.mk (below_step (by repeat (first | (with_reducible first | exact HB.out | apply below_alloc | apply pw_below_drewN | apply below_drew1 | refine below_set ?_ GE118.out) | exact HB.out)) hb); clear BK118; clear HB; have BK118 := n0_; have HB := n1_; clear n0_ n1_; (try clear hb); (try clear hb2); (try clear hk); (try clear hi); have hcz53_0 : w52.cell? ⟨gb118, 0, none⟩ = some (.int .i64 ((rd_T96 l0 (ji2)).f0)) := (blk_cell BK118.out 0).trans rfl; have hcz53_1 : w52.cell? ⟨gb118, 1, none⟩ = some (.slice A117_1 ((rd_T96 l0 (ji2)).f1).length c117_1) := (blk_cell BK118.out 1).trans rfl; have hcz53_2 : w52.cell? ⟨gb118, 2, none⟩ = some (.int .i64 ((rd_T96 l0 (ji2)).f2)) := (blk_cell BK118.out 2).trans rfl; have hcz53_3 : w52.cell? ⟨gb118, 3, none⟩ = some (.int .i64 ((rd_T96 l0 (ji2)).f3)) := (blk_cell BK118.out 3).trans rfl; have hfz53_0 := blk_frozen BK118.out 0; have hfz53_1 := blk_frozen BK118.out 1; have hfz53_2 := blk_frozen BK118.out 2; have hfz53_3 := blk_frozen BK118.out 3))
                        go_ret
                        exact ⟨by first | rfl | (simp [errW_none, errW_some] <;> rfl) | (simp only [← hji2, ← hji30]; first | rfl | (simp [errW_none, errW_some] <;> rfl)) | (simp [*, errW_none, errW_some] <;> rfl), by repeat (first | (with_reducible first | exact HB.out | apply below_alloc | apply pw_below_drewN | apply below_drew1 | refine below_set ?_ GE118.out) | exact HB.out)⟩
                  · rw [if_neg c34] at H
                    have c34b0 : (((rd_T96 l0 (ji2)).f3) == (-1)) = false := beq_eq_false_iff_ne.mpr c34
                    have c34b1 : (((rd_T96 l0 (ji2)).f3) != (-1)) = true := bne_iff_ne.mpr c34
                    by_cases c54 : ((rd_T96 l0 (ji2)).f3) = 0
                    · rw [if_pos c54] at H
                      have c54b0 : (((rd_T96 l0 (ji2)).f3) == 0) = true := beq_iff_eq.mpr c54
                      have c54b1 : (((rd_T96 l0 (ji2)).f3) != 0) = false := bne_eq_false_iff_eq.mpr c54
                      clear c54
                      by_cases c55 : t134 > 500
                      · rw [if_pos c55] at H
                        have c55b0 : decide (500 < t134) = true := decide_eq_true c55
                        clear c55
                        obtain rfl := Option.some.inj H
                        have hcz56_0 : wc.cell? ⟨gb118, 0, none⟩ = some (.int .i64 ((rd_T96 l0 (ji2)).f0)) := (blk_cell BK118.out 0).trans rfl
                        have hcz56_1 : wc.cell? ⟨gb118, 1, none⟩ = some (.slice A117_1 ((rd_T96 l0 (ji2)).f1).length c117_1) := (blk_cell BK118.out 1).trans rfl
                        have hcz56_2 : wc.cell? ⟨gb118, 2, none⟩ = some (.int .i64 ((rd_T96 l0 (ji2)).f2)) := (blk_cell BK118.out 2).trans rfl
                        have hcz56_3 : wc.cell? ⟨gb118, 3, none⟩ = some (.int .i64 ((rd_T96 l0 (ji2)).f3)) := (blk_cell BK118.out 3).trans rfl
                        have hfz56_0 := blk_frozen BK118.out 0
                        have hfz56_1 := blk_frozen BK118.out 1
                        have hfz56_2 := blk_frozen BK118.out 2
                        have hfz56_3 := blk_frozen BK118.out 3
                        have q57 : ((ji30) : Int) ≤ ((l0.length : Int) : Int) := of_decide_eq_true (by first | (with_reducible assumption) | assumption)
                        obtain ⟨i057, hi057, _, hsz57, _⟩ := info_parts info96
                        have hroom57 : l0.length ≤ c0 := HC0.out
                        have hC57 : Kd.C k96 _ (some ad117) l0.length l0 := HR0.out
                        have hcut57 := cut_to (P := Try.prog) 61 96 .i64 Try.underlying61 hi057 (some ad117) l0.length c0 (ji30) (of_decide_eq_true (by first | (with_reducible assumption) | assumption)) q57 hroom57
                        have hr57 := Kd.C_take (m := ((ji30) : Int).toNat) hC57 (by omega)
                        have hy57 : y130.length = ((ji30) : Int).toNat := (by rw [Ny130.out, List.length_take]; omega)
                        rw [← Ny130.out] at hr57
                        rw [← hy57] at hcut57
                        have HR133 := Aside0.mk hr57
                        have HC133 := Aside0.mk (show y130.length ≤ c0 from by omega)
                        clear hr57 hC57 hroom57 hi057 hsz57
                        have KY57 := Aside0.mk hy57
                        clear hy57
                        replace q57 := eq_true q57
                        go_wp2_with (first | ((with_reducible refine gate_callee (f := 66) rfl ?_); refine goesL_ (some 50) rfl rfl Try.func66 (by kernel_rfl) rfl #[.slice (some ad117) y130.length c0] rfl (by (try simp only [List.map_toArray, List.map_cons, List.map_nil]); first | done | rfl | (simp only [List.length_drop, List.length_take]; rfl)) ?_; (with_reducible refine (ih kj4 (by have := HJ4.out; omega) _ _ y130 t134 _ ?side1 ?side2 A33.out).mono ?_); (case side1 => repeat (first | exact (Kd.C_below HR133.out HB.out) | (with_reducible refine Kd.C_alloc ?_ _) | (with_reducible refine Kd.C_drewN ?_ _) | (with_reducible refine Kd.C_drew ?_))); (case side2 => exact HC133.out); rintro e w58 ⟨rfl, hb⟩; refine ⟨_, rfl, ?_⟩; have n0_ := Aside0.mk (blk_below (g := gb118) (o := .cells #[.int .i64 ((rd_T96 l0 (ji2)).f0), .slice A117_1 ((rd_T96 l0 (ji2)).f1).length c117_1, .int .i64 ((rd_T96 l0 (ji2)).f2), .int .i64 ((rd_T96 l0 (ji2)).f3)] 96 (0, 0)) (by (with_reducible repeat (first | refine blk_drewN ?_ _ | refine blk_drew ?_ | refine blk_alloc ?_ _)); exact BK118.out) hb); have n1_ := Aside0.mk (below_step (by repeat (first | (with_reducible first | exact HB.out | apply below_alloc | apply pw_below_drewN | apply below_drew1 | refine below_set ?_ GE118.out) | exact HB.out)) hb); clear BK118; clear HB; have BK118 := n0_; have HB := n1_; clear n0_ n1_; (try clear hb); (try clear hb2); (try clear hk); (try clear hi); have hcz59_0 : w58.cell? ⟨gb118, 0, none⟩ = some (.int .i64 ((rd_T96 l0 (ji2)).f0)) := (blk_cell BK118.out 0).trans rfl; have hcz59_1 : w58.cell? ⟨gb118, 1, none⟩ = some (.slice A117_1 ((rd_T96 l0 (ji2)).f1).length c117_1) := (blk_cell BK118.out 1).trans rfl; have hcz59_2 : w58.cell? ⟨gb118, 2, none⟩ = some (.int .i64 ((rd_T96 l0 (ji2)).f2)) := (blk_cell BK118.out 2).trans rfl; have hcz59_3 : w58.cell? ⟨gb118, 3, none⟩ = some (.int .i64 ((rd_T96 l0 (ji2)).f3)) := (blk_cell BK118.out 3).trans rfl; have hfz59_0 := blk_frozen BK118.out 0; have hfz59_1 := blk_frozen BK118.out 1; have hfz59_2 := blk_frozen BK118.out 2; have hfz59_3 := blk_frozen BK118.out 3))
                        go_ret
                        exact ⟨by first | rfl | (simp [errW_none, errW_some] <;> rfl) | (simp only [← hji2, ← hji30]; first | rfl | (simp [errW_none, errW_some] <;> rfl)) | (simp [*, errW_none, errW_some] <;> rfl), by repeat (first | (with_reducible first | exact HB.out | apply below_alloc | apply pw_below_drewN | apply below_drew1 | refine below_set ?_ GE118.out) | exact HB.out)⟩
                      · rw [if_neg c55] at H
                        have c55b0 : decide (500 < t134) = false := decide_eq_false c55
                        clear c55
                        obtain rfl := Option.some.inj H
                        have hcz60_0 : wc.cell? ⟨gb118, 0, none⟩ = some (.int .i64 ((rd_T96 l0 (ji2)).f0)) := (blk_cell BK118.out 0).trans rfl
                        have hcz60_1 : wc.cell? ⟨gb118, 1, none⟩ = some (.slice A117_1 ((rd_T96 l0 (ji2)).f1).length c117_1) := (blk_cell BK118.out 1).trans rfl
                        have hcz60_2 : wc.cell? ⟨gb118, 2, none⟩ = some (.int .i64 ((rd_T96 l0 (ji2)).f2)) := (blk_cell BK118.out 2).trans rfl
                        have hcz60_3 : wc.cell? ⟨gb118, 3, none⟩ = some (.int .i64 ((rd_T96 l0 (ji2)).f3)) := (blk_cell BK118.out 3).trans rfl
                        have hfz60_0 := blk_frozen BK118.out 0
                        have hfz60_1 := blk_frozen BK118.out 1
                        have hfz60_2 := blk_frozen BK118.out 2
                        have hfz60_3 := blk_frozen BK118.out 3
                        have q61 : ((ji30) : Int) ≤ ((l0.length : Int) : Int) := of_decide_eq_true (by first | (with_reducible assumption) | assumption)
                        obtain ⟨i061, hi061, _, hsz61, _⟩ := info_parts info96
                        have hroom61 : l0.length ≤ c0 := HC0.out
                        have hC61 : Kd.C k96 _ (some ad117) l0.length l0 := HR0.out
                        have hcut61 := cut_to (P := Try.prog) 61 96 .i64 Try.underlying61 hi061 (some ad117) l0.length c0 (ji30) (of_decide_eq_true (by first | (with_reducible assumption) | assumption)) q61 hroom61
                        have hr61 := Kd.C_take (m := ((ji30) : Int).toNat) hC61 (by omega)
                        have hy61 : y130.length = ((ji30) : Int).toNat := (by rw [Ny130.out, List.length_take]; omega)
                        rw [← Ny130.out] at hr61
                        rw [← hy61] at hcut61
                        have HR133 := Aside0.mk hr61
                        have HC133 := Aside0.mk (show y130.length ≤ c0 from by omega)
                        clear hr61 hC61 hroom61 hi061 hsz61
                        have KY61 := Aside0.mk hy61
                        clear hy61
                        replace q61 := eq_true q61
                        go_wp2_with (first | ((with_reducible refine gate_callee (f := 66) rfl ?_); refine goesL_ (some 50) rfl rfl Try.func66 (by kernel_rfl) rfl #[.slice (some ad117) y130.length c0] rfl (by (try simp only [List.map_toArray, List.map_cons, List.map_nil]); first | done | rfl | (simp only [List.length_drop, List.length_take]; rfl)) ?_; (with_reducible refine (ih kj4 (by have := HJ4.out; omega) _ _ y130 t134 _ ?side1 ?side2 A33.out).mono ?_); (case side1 => repeat (first | exact (Kd.C_below HR133.out HB.out) | (with_reducible refine Kd.C_alloc ?_ _) | (with_reducible refine Kd.C_drewN ?_ _) | (with_reducible refine Kd.C_drew ?_))); (case side2 => exact HC133.out); rintro e w62 ⟨rfl, hb⟩; refine ⟨_, rfl, ?_⟩; have n0_ := Aside0.mk (blk_below (g := gb118) (o := .cells #[.int .i64 ((rd_T96 l0 (ji2)).f0), .slice A117_1 ((rd_T96 l0 (ji2)).f1).length c117_1, .int .i64 ((rd_T96 l0 (ji2)).f2), .int .i64 ((rd_T96 l0 (ji2)).f3)] 96 (0, 0)) (by (with_reducible repeat (first | refine blk_drewN ?_ _ | refine blk_drew ?_ | refine blk_alloc ?_ _)); exact BK118.out) hb); have n1_ := Aside0.mk (below_step (by repeat (first | (with_reducible first | exact HB.out | apply below_alloc | apply pw_below_drewN | apply below_drew1 | refine below_set ?_ GE118.out) | exact HB.out)) hb); clear BK118; clear HB; have BK118 := n0_; have HB := n1_; clear n0_ n1_; (try clear hb); (try clear hb2); (try clear hk); (try clear hi); have hcz63_0 : w62.cell? ⟨gb118, 0, none⟩ = some (.int .i64 ((rd_T96 l0 (ji2)).f0)) := (blk_cell BK118.out 0).trans rfl; have hcz63_1 : w62.cell? ⟨gb118, 1, none⟩ = some (.slice A117_1 ((rd_T96 l0 (ji2)).f1).length c117_1) := (blk_cell BK118.out 1).trans rfl; have hcz63_2 : w62.cell? ⟨gb118, 2, none⟩ = some (.int .i64 ((rd_T96 l0 (ji2)).f2)) := (blk_cell BK118.out 2).trans rfl; have hcz63_3 : w62.cell? ⟨gb118, 3, none⟩ = some (.int .i64 ((rd_T96 l0 (ji2)).f3)) := (blk_cell BK118.out 3).trans rfl; have hfz63_0 := blk_frozen BK118.out 0; have hfz63_1 := blk_frozen BK118.out 1; have hfz63_2 := blk_frozen BK118.out 2; have hfz63_3 := blk_frozen BK118.out 3))
                        go_ret
                        exact ⟨by first | rfl | (simp [errW_none, errW_some] <;> rfl) | (simp only [← hji2, ← hji30]; first | rfl | (simp [errW_none, errW_some] <;> rfl)) | (simp [*, errW_none, errW_some] <;> rfl), by repeat (first | (with_reducible first | exact HB.out | apply below_alloc | apply pw_below_drewN | apply below_drew1 | refine below_set ?_ GE118.out) | exact HB.out)⟩
                    · rw [if_neg c54] at H
                      have c54b0 : (((rd_T96 l0 (ji2)).f3) == 0) = false := beq_eq_false_iff_ne.mpr c54
                      have c54b1 : (((rd_T96 l0 (ji2)).f3) != 0) = true := bne_iff_ne.mpr c54
                      by_cases c64 : (wrap64 ((wrap64 (((rd_T96 l0 (ji2)).f2) * t134)) + (wrap64 ((wrap64 (((rd_T96 l0 (ji2)).f3) - ((rd_T96 l0 (ji2)).f2))) * (wrap64 (t134 + 1)))))) > 500
                      · rw [if_pos c64] at H
                        have c64b0 : decide (500 < (wrap64 ((wrap64 (((rd_T96 l0 (ji2)).f2) * t134)) + (wrap64 ((wrap64 (((rd_T96 l0 (ji2)).f3) - ((rd_T96 l0 (ji2)).f2))) * (wrap64 (t134 + 1))))))) = true := decide_eq_true c64
                        clear c64
                        obtain rfl := Option.some.inj H
                        have hcz65_0 : wc.cell? ⟨gb118, 0, none⟩ = some (.int .i64 ((rd_T96 l0 (ji2)).f0)) := (blk_cell BK118.out 0).trans rfl
                        have hcz65_1 : wc.cell? ⟨gb118, 1, none⟩ = some (.slice A117_1 ((rd_T96 l0 (ji2)).f1).length c117_1) := (blk_cell BK118.out 1).trans rfl
                        have hcz65_2 : wc.cell? ⟨gb118, 2, none⟩ = some (.int .i64 ((rd_T96 l0 (ji2)).f2)) := (blk_cell BK118.out 2).trans rfl
                        have hcz65_3 : wc.cell? ⟨gb118, 3, none⟩ = some (.int .i64 ((rd_T96 l0 (ji2)).f3)) := (blk_cell BK118.out 3).trans rfl
                        have hfz65_0 := blk_frozen BK118.out 0
                        have hfz65_1 := blk_frozen BK118.out 1
                        have hfz65_2 := blk_frozen BK118.out 2
                        have hfz65_3 := blk_frozen BK118.out 3
                        have q66 : ((ji30) : Int) ≤ ((l0.length : Int) : Int) := of_decide_eq_true (by first | (with_reducible assumption) | assumption)
                        obtain ⟨i066, hi066, _, hsz66, _⟩ := info_parts info96
                        have hroom66 : l0.length ≤ c0 := HC0.out
                        have hC66 : Kd.C k96 _ (some ad117) l0.length l0 := HR0.out
                        have hcut66 := cut_to (P := Try.prog) 61 96 .i64 Try.underlying61 hi066 (some ad117) l0.length c0 (ji30) (of_decide_eq_true (by first | (with_reducible assumption) | assumption)) q66 hroom66
                        have hr66 := Kd.C_take (m := ((ji30) : Int).toNat) hC66 (by omega)
                        have hy66 : y130.length = ((ji30) : Int).toNat := (by rw [Ny130.out, List.length_take]; omega)
                        rw [← Ny130.out] at hr66
                        rw [← hy66] at hcut66
                        have HR133 := Aside0.mk hr66
                        have HC133 := Aside0.mk (show y130.length ≤ c0 from by omega)
                        clear hr66 hC66 hroom66 hi066 hsz66
                        have KY66 := Aside0.mk hy66
                        clear hy66
                        replace q66 := eq_true q66
                        go_wp2_with (first | ((with_reducible refine gate_callee (f := 66) rfl ?_); refine goesL_ (some 50) rfl rfl Try.func66 (by kernel_rfl) rfl #[.slice (some ad117) y130.length c0] rfl (by (try simp only [List.map_toArray, List.map_cons, List.map_nil]); first | done | rfl | (simp only [List.length_drop, List.length_take]; rfl)) ?_; (with_reducible refine (ih kj4 (by have := HJ4.out; omega) _ _ y130 t134 _ ?side1 ?side2 A33.out).mono ?_); (case side1 => repeat (first | exact (Kd.C_below HR133.out HB.out) | (with_reducible refine Kd.C_alloc ?_ _) | (with_reducible refine Kd.C_drewN ?_ _) | (with_reducible refine Kd.C_drew ?_))); (case side2 => exact HC133.out); rintro e w67 ⟨rfl, hb⟩; refine ⟨_, rfl, ?_⟩; have n0_ := Aside0.mk (blk_below (g := gb118) (o := .cells #[.int .i64 ((rd_T96 l0 (ji2)).f0), .slice A117_1 ((rd_T96 l0 (ji2)).f1).length c117_1, .int .i64 ((rd_T96 l0 (ji2)).f2), .int .i64 ((rd_T96 l0 (ji2)).f3)] 96 (0, 0)) (by (with_reducible repeat (first | refine blk_drewN ?_ _ | refine blk_drew ?_ | refine blk_alloc ?_ _)); exact BK118.out) hb); have n1_ := Aside0.mk (below_step (by repeat (first | (with_reducible first | exact HB.out | apply below_alloc | apply pw_below_drewN | apply below_drew1 | refine below_set ?_ GE118.out) | exact HB.out)) hb); clear BK118; clear HB; have BK118 := n0_; have HB := n1_; clear n0_ n1_; (try clear hb); (try clear hb2); (try clear hk); (try clear hi); have hcz68_0 : w67.cell? ⟨gb118, 0, none⟩ = some (.int .i64 ((rd_T96 l0 (ji2)).f0)) := (blk_cell BK118.out 0).trans rfl; have hcz68_1 : w67.cell? ⟨gb118, 1, none⟩ = some (.slice A117_1 ((rd_T96 l0 (ji2)).f1).length c117_1) := (blk_cell BK118.out 1).trans rfl; have hcz68_2 : w67.cell? ⟨gb118, 2, none⟩ = some (.int .i64 ((rd_T96 l0 (ji2)).f2)) := (blk_cell BK118.out 2).trans rfl; have hcz68_3 : w67.cell? ⟨gb118, 3, none⟩ = some (.int .i64 ((rd_T96 l0 (ji2)).f3)) := (blk_cell BK118.out 3).trans rfl; have hfz68_0 := blk_frozen BK118.out 0; have hfz68_1 := blk_frozen BK118.out 1; have hfz68_2 := blk_frozen BK118.out 2; have hfz68_3 := blk_frozen BK118.out 3))
                        go_ret
                        exact ⟨by first | rfl | (simp [errW_none, errW_some] <;> rfl) | (simp only [← hji2, ← hji30]; first | rfl | (simp [errW_none, errW_some] <;> rfl)) | (simp [*, errW_none, errW_some] <;> rfl), by repeat (first | (with_reducible first | exact HB.out | apply below_alloc | apply pw_below_drewN | apply below_drew1 | refine below_set ?_ GE118.out) | exact HB.out)⟩
                      · rw [if_neg c64] at H
                        have c64b0 : decide (500 < (wrap64 ((wrap64 (((rd_T96 l0 (ji2)).f2) * t134)) + (wrap64 ((wrap64 (((rd_T96 l0 (ji2)).f3) - ((rd_T96 l0 (ji2)).f2))) * (wrap64 (t134 + 1))))))) = false := decide_eq_false c64
                        clear c64
                        obtain rfl := Option.some.inj H
                        have hcz69_0 : wc.cell? ⟨gb118, 0, none⟩ = some (.int .i64 ((rd_T96 l0 (ji2)).f0)) := (blk_cell BK118.out 0).trans rfl
                        have hcz69_1 : wc.cell? ⟨gb118, 1, none⟩ = some (.slice A117_1 ((rd_T96 l0 (ji2)).f1).length c117_1) := (blk_cell BK118.out 1).trans rfl
                        have hcz69_2 : wc.cell? ⟨gb118, 2, none⟩ = some (.int .i64 ((rd_T96 l0 (ji2)).f2)) := (blk_cell BK118.out 2).trans rfl
                        have hcz69_3 : wc.cell? ⟨gb118, 3, none⟩ = some (.int .i64 ((rd_T96 l0 (ji2)).f3)) := (blk_cell BK118.out 3).trans rfl
                        have hfz69_0 := blk_frozen BK118.out 0
                        have hfz69_1 := blk_frozen BK118.out 1
                        have hfz69_2 := blk_frozen BK118.out 2
                        have hfz69_3 := blk_frozen BK118.out 3
                        have q70 : ((ji30) : Int) ≤ ((l0.length : Int) : Int) := of_decide_eq_true (by first | (with_reducible assumption) | assumption)
                        obtain ⟨i070, hi070, _, hsz70, _⟩ := info_parts info96
                        have hroom70 : l0.length ≤ c0 := HC0.out
                        have hC70 : Kd.C k96 _ (some ad117) l0.length l0 := HR0.out
                        have hcut70 := cut_to (P := Try.prog) 61 96 .i64 Try.underlying61 hi070 (some ad117) l0.length c0 (ji30) (of_decide_eq_true (by first | (with_reducible assumption) | assumption)) q70 hroom70
                        have hr70 := Kd.C_take (m := ((ji30) : Int).toNat) hC70 (by omega)
                        have hy70 : y130.length = ((ji30) : Int).toNat := (by rw [Ny130.out, List.length_take]; omega)
                        rw [← Ny130.out] at hr70
                        rw [← hy70] at hcut70
                        have HR133 := Aside0.mk hr70
                        have HC133 := Aside0.mk (show y130.length ≤ c0 from by omega)
                        clear hr70 hC70 hroom70 hi070 hsz70
                        have KY70 := Aside0.mk hy70
                        clear hy70
                        replace q70 := eq_true q70
                        go_wp2_with (first | ((with_reducible refine gate_callee (f := 66) rfl ?_); refine goesL_ (some 50) rfl rfl Try.func66 (by kernel_rfl) rfl #[.slice (some ad117) y130.length c0] rfl (by (try simp only [List.map_toArray, List.map_cons, List.map_nil]); first | done | rfl | (simp only [List.length_drop, List.length_take]; rfl)) ?_; (with_reducible refine (ih kj4 (by have := HJ4.out; omega) _ _ y130 t134 _ ?side1 ?side2 A33.out).mono ?_); (case side1 => repeat (first | exact (Kd.C_below HR133.out HB.out) | (with_reducible refine Kd.C_alloc ?_ _) | (with_reducible refine Kd.C_drewN ?_ _) | (with_reducible refine Kd.C_drew ?_))); (case side2 => exact HC133.out); rintro e w71 ⟨rfl, hb⟩; refine ⟨_, rfl, ?_⟩; have n0_ := Aside0.mk (blk_below (g := gb118) (o := .cells #[.int .i64 ((rd_T96 l0 (ji2)).f0), .slice A117_1 ((rd_T96 l0 (ji2)).f1).length c117_1, .int .i64 ((rd_T96 l0 (ji2)).f2), .int .i64 ((rd_T96 l0 (ji2)).f3)] 96 (0, 0)) (by (with_reducible repeat (first | refine blk_drewN ?_ _ | refine blk_drew ?_ | refine blk_alloc ?_ _)); exact BK118.out) hb); have n1_ := Aside0.mk (below_step (by repeat (first | (with_reducible first | exact HB.out | apply below_alloc | apply pw_below_drewN | apply below_drew1 | refine below_set ?_ GE118.out) | exact HB.out)) hb); clear BK118; clear HB; have BK118 := n0_; have HB := n1_; clear n0_ n1_; (try clear hb); (try clear hb2); (try clear hk); (try clear hi); have hcz72_0 : w71.cell? ⟨gb118, 0, none⟩ = some (.int .i64 ((rd_T96 l0 (ji2)).f0)) := (blk_cell BK118.out 0).trans rfl; have hcz72_1 : w71.cell? ⟨gb118, 1, none⟩ = some (.slice A117_1 ((rd_T96 l0 (ji2)).f1).length c117_1) := (blk_cell BK118.out 1).trans rfl; have hcz72_2 : w71.cell? ⟨gb118, 2, none⟩ = some (.int .i64 ((rd_T96 l0 (ji2)).f2)) := (blk_cell BK118.out 2).trans rfl; have hcz72_3 : w71.cell? ⟨gb118, 3, none⟩ = some (.int .i64 ((rd_T96 l0 (ji2)).f3)) := (blk_cell BK118.out 3).trans rfl; have hfz72_0 := blk_frozen BK118.out 0; have hfz72_1 := blk_frozen BK118.out 1; have hfz72_2 := blk_frozen BK118.out 2; have hfz72_3 := blk_frozen BK118.out 3))
                        go_ret
                        exact ⟨by first | rfl | (simp [errW_none, errW_some] <;> rfl) | (simp only [← hji2, ← hji30]; first | rfl | (simp [errW_none, errW_some] <;> rfl)) | (simp [*, errW_none, errW_some] <;> rfl), by repeat (first | (with_reducible first | exact HB.out | apply below_alloc | apply pw_below_drewN | apply below_drew1 | refine below_set ?_ GE118.out) | exact HB.out)⟩
                · rw [if_neg c32] at H
                  exact absurd H (by simp)
              · rw [if_neg c31] at H
                exact absurd H (by simp)
            · rw [if_neg c29] at H
              have c29b0 : (((rd_T96 l0 (ji2)).f0) == 4) = false := beq_eq_false_iff_ne.mpr c29
              have c29b1 : (((rd_T96 l0 (ji2)).f0) != 4) = true := bne_iff_ne.mpr c29
              by_cases c73 : 1 > 500
              · rw [if_pos c73] at H
                have c73b0 : decide (500 < 1) = true := decide_eq_true c73
                clear c73
                obtain rfl := Option.some.inj H
                have hcz74_0 : wc.cell? ⟨gb118, 0, none⟩ = some (.int .i64 ((rd_T96 l0 (ji2)).f0)) := (blk_cell BK118.out 0).trans rfl
                have hcz74_1 : wc.cell? ⟨gb118, 1, none⟩ = some (.slice A117_1 ((rd_T96 l0 (ji2)).f1).length c117_1) := (blk_cell BK118.out 1).trans rfl
                have hcz74_2 : wc.cell? ⟨gb118, 2, none⟩ = some (.int .i64 ((rd_T96 l0 (ji2)).f2)) := (blk_cell BK118.out 2).trans rfl
                have hcz74_3 : wc.cell? ⟨gb118, 3, none⟩ = some (.int .i64 ((rd_T96 l0 (ji2)).f3)) := (blk_cell BK118.out 3).trans rfl
                have hfz74_0 := blk_frozen BK118.out 0
                have hfz74_1 := blk_frozen BK118.out 1
                have hfz74_2 := blk_frozen BK118.out 2
                have hfz74_3 := blk_frozen BK118.out 3
                go_wp2
                go_ret
                exact ⟨by first | (exact absurd c73b0 (by decide)) | rfl | (simp [errW_none, errW_some] <;> rfl) | (simp only [← hji2]; first | rfl | (simp [errW_none, errW_some] <;> rfl)) | (simp [*, errW_none, errW_some] <;> rfl), by repeat (first | (with_reducible first | exact HB.out | apply below_alloc | apply pw_below_drewN | apply below_drew1 | refine below_set ?_ GE118.out) | exact HB.out)⟩
              · rw [if_neg c73] at H
                have c73b0 : decide (500 < 1) = false := decide_eq_false c73
                clear c73
                obtain rfl := Option.some.inj H
                have hcz75_0 : wc.cell? ⟨gb118, 0, none⟩ = some (.int .i64 ((rd_T96 l0 (ji2)).f0)) := (blk_cell BK118.out 0).trans rfl
                have hcz75_1 : wc.cell? ⟨gb118, 1, none⟩ = some (.slice A117_1 ((rd_T96 l0 (ji2)).f1).length c117_1) := (blk_cell BK118.out 1).trans rfl
                have hcz75_2 : wc.cell? ⟨gb118, 2, none⟩ = some (.int .i64 ((rd_T96 l0 (ji2)).f2)) := (blk_cell BK118.out 2).trans rfl
                have hcz75_3 : wc.cell? ⟨gb118, 3, none⟩ = some (.int .i64 ((rd_T96 l0 (ji2)).f3)) := (blk_cell BK118.out 3).trans rfl
                have hfz75_0 := blk_frozen BK118.out 0
                have hfz75_1 := blk_frozen BK118.out 1
                have hfz75_2 := blk_frozen BK118.out 2
                have hfz75_3 := blk_frozen BK118.out 3
                go_wp2
                go_ret
                exact ⟨by first | rfl | (simp [errW_none, errW_some] <;> rfl) | (simp only [← hji2]; first | rfl | (simp [errW_none, errW_some] <;> rfl)) | (simp [*, errW_none, errW_some] <;> rfl), by repeat (first | (with_reducible first | exact HB.out | apply below_alloc | apply pw_below_drewN | apply below_drew1 | refine below_set ?_ GE118.out) | exact HB.out)⟩
    · rw [if_neg c4] at H
      exact absurd H (by simp)
  · rw [if_neg c3] at H
    exact absurd H (by simp)

end Go.Proofs.Ytnpmkcbbmeekaaa.V
