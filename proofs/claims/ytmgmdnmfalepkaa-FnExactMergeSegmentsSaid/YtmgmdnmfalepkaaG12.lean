/- Parts of the proof (see the row's own text): Lsame. -/
import Derived.Test.YtmgmdnmfalepkaaG4
import Derived.Test.YtmgmdnmfalepkaaG9
import Derived.Test.YtmgmdnmfalepkaaG10
namespace Go.Proofs.Ytmgmdnmfalepkaa.L
open Go.RowKit Go.Proofs.YtmgmdnmfalepkaaW.PrintWords Go.Proofs.YtmgmdnmfalepkaaW.PrintLast Go.Proofs.YtmgmdnmfalepkaaW.PrintMore
attribute [local go_sem] max2_int min2_int max_two min_two max_three min_three max_four min_four
set_option linter.unusedVariables false
set_option linter.unusedSimpArgs false
def spec_l4sameBytes.f (l0 : List Int) (l1 : List Int) : Option (Bool) := some ((strOfNums l0).toList == (strOfNums l1).toList)
set_option maxHeartbeats 8000000 in
set_option maxRecDepth 100000 in
theorem spec_l4sameBytes.calls (A0 : Option Addr) (c0 : Nat) (l0 : List Int) (A1 : Option Addr) (c1 : Nat) (l1 : List Int) (r : Bool) (w : World) (hr0 : Kd.C (Kd.int .u8) w A0 l0.length l0) (hc0 : l0.length ≤ c0) (hr1 : Kd.C (Kd.int .u8) w A1 l1.length l1) (hc1 : l1.length ≤ c1) (h : spec_l4sameBytes.f l0 l1 = some r) :
    Calls Try.prog 101 #[.slice A0 l0.length c0, .slice A1 l1.length c1] w fun e w' => e = .returned (.bool r) ∧ Drawn0 w w' := by
  have HR0 := Aside0.mk hr0
  have HC0 := Aside0.mk hc0
  clear hr0 hc0
  have HR1 := Aside0.mk hr1
  have HC1 := Aside0.mk hc1
  clear hr1 hc1
  have H : (some ((strOfNums l0).toList == (strOfNums l1).toList)) = some r := h
  clear h
  obtain rfl := Option.some.inj H
  have hcv3 := Kd.C_string (P := Try.prog) (A := A0) (c := c0) Try.underlying33 Try.underlying5 Try.underlying9 HR0.out
  have hcv4 := Kd.C_string (P := Try.prog) (A := A1) (c := c1) Try.underlying33 Try.underlying5 Try.underlying9 HR1.out
  go_enter Try.func101, Try.ntmps101
  go_wp2
  go_ret
  exact ⟨by first | rfl | (simp; done) | (simp [*]; done), by repeat (first | exact Drawn0.refl _ | apply Drawn0.step)⟩
def spec_l1same.l0 : Nat → List Int → List Int → Int → Option (Bool)
  | 0, _, _, _ => none
  | k + 1, x0, x1, x5 => if x5 < (x0.length : Int) then (if 0 ≤ x5 then (if x5 < (x1.length : Int) then (if (rd x0 x5) = (rd x1 x5) then (spec_l1same.l0 k x0 x1 (wrap64 (x5 + 1))) else (some false)) else (none)) else (none)) else (some true)
def spec_l1same.f (k : Nat) (l0 : List Int) (l1 : List Int) : Option (Bool) := if (l0.length : Int) = (l1.length : Int) then (spec_l1same.l0 k l0 l1 0) else (some false)
set_option maxHeartbeats 8000000 in
set_option maxRecDepth 100000 in
theorem spec_l1same.calls (k : Nat) (A0 : Option Addr) (c0 : Nat) (l0 : List Int) (A1 : Option Addr) (c1 : Nat) (l1 : List Int) (r : Bool) (w : World) (hr0 : Kd.C (Kd.int .i64) w A0 l0.length l0) (hc0 : l0.length ≤ c0) (hr1 : Kd.C (Kd.int .i64) w A1 l1.length l1) (hc1 : l1.length ≤ c1) (h : spec_l1same.f k l0 l1 = some r) :
    Calls Try.prog 171 #[.slice A0 l0.length c0, .slice A1 l1.length c1] w fun e w' => e = .returned (.bool r) ∧ Drawn0 w w' := by
  have HR0 := Aside0.mk hr0
  have HC0 := Aside0.mk hc0
  clear hr0 hc0
  have HR1 := Aside0.mk hr1
  have HC1 := Aside0.mk hc1
  clear hr1 hc1
  have H : (if (l0.length : Int) = (l1.length : Int) then (spec_l1same.l0 k l0 l1 0) else (some false)) = some r := h
  clear h
  by_cases c3 : (l0.length : Int) = (l1.length : Int)
  · rw [if_pos c3] at H
    have c3b0 : ((l0.length : Int) == (l1.length : Int)) = true := beq_iff_eq.mpr c3
    have c3b1 : ((l0.length : Int) != (l1.length : Int)) = false := bne_eq_false_iff_eq.mpr c3
    have c3b2 : (l0.length == l1.length) = true := by first | simpa using c3 | (simp at c3 ⊢; omega)
    clear c3
    have H' := Aside0.mk H
    clear H
    go_enter Try.func171, Try.ntmps171
    go_wp2
    repeat (go_quiet (fail); try go_wp2)
    go_loopg [5] k (fun kq v5 w' => ∃ (x5_1 : Int), v5 = .int .i64 x5_1 ∧ Aside0 (spec_l1same.l0 kq l0 l1 x5_1 = some r) ∧ Aside0 (kq ≤ k) ∧ Drawn0 w w')
    case atStart => exact ⟨(0), (by first | rfl | (simp; done) | (simp [*]; done)), H', ⟨Nat.le_refl _⟩, by repeat (first | exact Drawn0.refl _ | apply Drawn0.step)⟩
    case round =>
      clear H'
      try clear c1
      try clear p2
      try clear c3
      try clear c3b0
      try clear c3b1
      try clear c3b2
      obtain ⟨x5_1, rfl, HA, HK1, ⟨m1, rfl⟩⟩ := hrel
      cases gk with
      | zero => exact absurd HA.out (by simp [spec_l1same.l0])
      | succ k1 =>
        have H := HA.out
        clear HA
        simp only [spec_l1same.l0] at H
        by_cases c4 : x5_1 < (l0.length : Int)
        · rw [if_pos c4] at H
          have c4b0 : decide (x5_1 < (l0.length : Int)) = true := decide_eq_true c4
          clear c4
          by_cases c5 : 0 ≤ x5_1
          · rw [if_pos c5] at H
            have c5b0 : decide (0 ≤ x5_1) = true := decide_eq_true c5
            clear c5
            by_cases c6 : x5_1 < (l1.length : Int)
            · rw [if_pos c6] at H
              have c6b0 : decide (x5_1 < (l1.length : Int)) = true := decide_eq_true c6
              clear c6
              by_cases c7 : (rd l0 x5_1) = (rd l1 x5_1)
              · rw [if_pos c7] at H
                have c7b0 : ((rd l0 x5_1) == (rd l1 x5_1)) = true := beq_iff_eq.mpr c7
                have c7b1 : ((rd l0 x5_1) != (rd l1 x5_1)) = false := bne_eq_false_iff_eq.mpr c7
                clear c7
                have H' := Aside0.mk H
                clear H
                have p417 : 0 ≤ (x5_1 : Int) := of_decide_eq_true (by first | (with_reducible assumption) | assumption)
                have q417 : x5_1 < (l0.length : Int) := of_decide_eq_true (by first | (with_reducible assumption) | assumption)
                obtain ⟨ad417, e417, hx417_0⟩ := Kd.at_int HR0.out x5_1 p417 q417
                cases e417
                replace p417 := eq_true p417
                replace q417 := eq_true q417
                have p418 : 0 ≤ (x5_1 : Int) := of_decide_eq_true (by first | (with_reducible assumption) | assumption)
                have q418 : x5_1 < (l1.length : Int) := of_decide_eq_true (by first | (with_reducible assumption) | assumption)
                obtain ⟨ad418, e418, hx418_0⟩ := Kd.at_int HR1.out x5_1 p418 q418
                cases e418
                replace p418 := eq_true p418
                replace q418 := eq_true q418
                go_wp2
                repeat (go_quiet (fail); try go_wp2)
                go_roundg k1
                case measure => have := HK1.out; omega
                case rel => exact ⟨(wrap64 (x5_1 + 1)), (by first | rfl | (simp; done) | (simp [*]; done)), H', ⟨by have := HK1.out; omega⟩, by repeat (first | exact Drawn0.refl _ | apply Drawn0.step)⟩
              · rw [if_neg c7] at H
                have c7b0 : ((rd l0 x5_1) == (rd l1 x5_1)) = false := beq_eq_false_iff_ne.mpr c7
                have c7b1 : ((rd l0 x5_1) != (rd l1 x5_1)) = true := bne_iff_ne.mpr c7
                obtain rfl := Option.some.inj H
                have p417 : 0 ≤ (x5_1 : Int) := of_decide_eq_true (by first | (with_reducible assumption) | assumption)
                have q417 : x5_1 < (l0.length : Int) := of_decide_eq_true (by first | (with_reducible assumption) | assumption)
                obtain ⟨ad417, e417, hx417_0⟩ := Kd.at_int HR0.out x5_1 p417 q417
                cases e417
                replace p417 := eq_true p417
                replace q417 := eq_true q417
                have p418 : 0 ≤ (x5_1 : Int) := of_decide_eq_true (by first | (with_reducible assumption) | assumption)
                have q418 : x5_1 < (l1.length : Int) := of_decide_eq_true (by first | (with_reducible assumption) | assumption)
                obtain ⟨ad418, e418, hx418_0⟩ := Kd.at_int HR1.out x5_1 p418 q418
                cases e418
                replace p418 := eq_true p418
                replace q418 := eq_true q418
                go_wp2
                repeat (go_quiet (fail); try go_wp2)
                go_ret
                exact ⟨by first | rfl | (simp; done) | (simp [*]; done), by repeat (first | exact Drawn0.refl _ | apply Drawn0.step)⟩
            · rw [if_neg c6] at H
              exact absurd H (by simp)
          · rw [if_neg c5] at H
            exact absurd H (by simp)
        · rw [if_neg c4] at H
          have c4b0 : decide (x5_1 < (l0.length : Int)) = false := decide_eq_false c4
          clear c4
          obtain rfl := Option.some.inj H
          go_wp2
          repeat (go_quiet (fail); try go_wp2)
          go_ret
          exact ⟨by first | rfl | (simp; done) | (simp [*]; done), by repeat (first | exact Drawn0.refl _ | apply Drawn0.step)⟩
  · rw [if_neg c3] at H
    have c3b0 : ((l0.length : Int) == (l1.length : Int)) = false := beq_eq_false_iff_ne.mpr c3
    have c3b1 : ((l0.length : Int) != (l1.length : Int)) = true := bne_iff_ne.mpr c3
    have c3b2 : (l0.length == l1.length) = false := by first | simpa using c3 | (simp at c3 ⊢; omega)
    obtain rfl := Option.some.inj H
    go_enter Try.func171, Try.ntmps171
    go_wp2
    repeat (go_quiet (fail); try go_wp2)
    go_ret
    exact ⟨by first | rfl | (simp; done) | (simp [*]; done), by repeat (first | exact Drawn0.refl _ | apply Drawn0.step)⟩
mutual
def spec_l4sameSeg.j0 : Nat → Bool → Int → List (List Int) → List Int → List (List Int) → Int → List (List Int) → List Int → List (List Int) → Option (Bool)
  | 0, _, _, _, _, _, _, _, _, _ => none
  | k + 1, x37, x420000, x420001, x420002, x420003, x421000, x421001, x421002, x421003 => if x37 = true then (some false) else (spec_l4sameSeg.l0 k 0 x420000 x420001 x420002 x420003 x421000 x421001 x421002 x421003)
def spec_l4sameSeg.l0 : Nat → Int → Int → List (List Int) → List Int → List (List Int) → Int → List (List Int) → List Int → List (List Int) → Option (Bool)
  | 0, _, _, _, _, _, _, _, _, _ => none
  | k + 1, x5, x420000, x420001, x420002, x420003, x421000, x421001, x421002, x421003 => if x5 < (x420001.length : Int) then (if 0 ≤ x5 then (if x5 < (x421001.length : Int) then ((spec_l4sameBytes.f (rd_L1 x420001 x5) (rd_L1 x421001 x5)).bind fun t424 => (if t424 = true then (spec_l4sameSeg.l0 k (wrap64 (x5 + 1)) x420000 x420001 x420002 x420003 x421000 x421001 x421002 x421003) else (some false))) else (none)) else (none)) else (spec_l4sameSeg.l1 k 0 x420000 x420001 x420002 x420003 x421000 x421001 x421002 x421003)
def spec_l4sameSeg.l1 : Nat → Int → Int → List (List Int) → List Int → List (List Int) → Int → List (List Int) → List Int → List (List Int) → Option (Bool)
  | 0, _, _, _, _, _, _, _, _, _ => none
  | k + 1, x6, x420000, x420001, x420002, x420003, x421000, x421001, x421002, x421003 => if x6 < (x420003.length : Int) then (if 0 ≤ x6 then (if x6 < (x421003.length : Int) then ((spec_l1same.f k (rd_L3 x420003 x6) (rd_L3 x421003 x6)).bind fun t427 => (if t427 = true then (spec_l4sameSeg.l1 k (wrap64 (x6 + 1)) x420000 x420001 x420002 x420003 x421000 x421001 x421002 x421003) else (some false))) else (none)) else (none)) else (some true)
end
def spec_l4sameSeg.f (k : Nat) (a0_0 : Int) (l0_1 : List (List Int)) (l0_2 : List Int) (l0_3 : List (List Int)) (a1_0 : Int) (l1_1 : List (List Int)) (l1_2 : List Int) (l1_3 : List (List Int)) : Option (Bool) := if a0_0 = a1_0 then (if (l0_1.length : Int) = (l1_1.length : Int) then ((spec_l1same.f k l0_2 l1_2).bind fun t421 => (if t421 = true then (spec_l4sameSeg.j0 k ((l0_3.length : Int) != (l1_3.length : Int)) a0_0 l0_1 l0_2 l0_3 a1_0 l1_1 l1_2 l1_3) else (spec_l4sameSeg.j0 k true a0_0 l0_1 l0_2 l0_3 a1_0 l1_1 l1_2 l1_3))) else (spec_l4sameSeg.j0 k true a0_0 l0_1 l0_2 l0_3 a1_0 l1_1 l1_2 l1_3)) else (spec_l4sameSeg.j0 k true a0_0 l0_1 l0_2 l0_3 a1_0 l1_1 l1_2 l1_3)
set_option maxHeartbeats 8000000 in
set_option maxRecDepth 100000 in
theorem spec_l4sameSeg.calls (k : Nat) (a0_0 : Int) (A0_1 : Option Addr) (c0_1 : Nat) (l0_1 : List (List Int)) (A0_2 : Option Addr) (c0_2 : Nat) (l0_2 : List Int) (A0_3 : Option Addr) (c0_3 : Nat) (l0_3 : List (List Int)) (a1_0 : Int) (A1_1 : Option Addr) (c1_1 : Nat) (l1_1 : List (List Int)) (A1_2 : Option Addr) (c1_2 : Nat) (l1_2 : List Int) (A1_3 : Option Addr) (c1_3 : Nat) (l1_3 : List (List Int)) (r : Bool) (w : World) (hr0_1 : Kd.C (Kd.slice 5 (Kd.int .u8)) w A0_1 l0_1.length l0_1) (hc0_1 : l0_1.length ≤ c0_1) (hr0_2 : Kd.C (Kd.int .i64) w A0_2 l0_2.length l0_2) (hc0_2 : l0_2.length ≤ c0_2) (hr0_3 : Kd.C (Kd.slice 3 (Kd.int .i64)) w A0_3 l0_3.length l0_3) (hc0_3 : l0_3.length ≤ c0_3) (hr1_1 : Kd.C (Kd.slice 5 (Kd.int .u8)) w A1_1 l1_1.length l1_1) (hc1_1 : l1_1.length ≤ c1_1) (hr1_2 : Kd.C (Kd.int .i64) w A1_2 l1_2.length l1_2) (hc1_2 : l1_2.length ≤ c1_2) (hr1_3 : Kd.C (Kd.slice 3 (Kd.int .i64)) w A1_3 l1_3.length l1_3) (hc1_3 : l1_3.length ≤ c1_3) (h : spec_l4sameSeg.f k a0_0 l0_1 l0_2 l0_3 a1_0 l1_1 l1_2 l1_3 = some r) :
    Calls Try.prog 147 #[.agg #[.int .i64 a0_0, .slice A0_1 l0_1.length c0_1, .slice A0_2 l0_2.length c0_2, .slice A0_3 l0_3.length c0_3], .agg #[.int .i64 a1_0, .slice A1_1 l1_1.length c1_1, .slice A1_2 l1_2.length c1_2, .slice A1_3 l1_3.length c1_3]] w fun e w' => e = .returned (.bool r) ∧ Below w.heap.size w w' := by
  have hu50 := Try.underlying50
  have HR0_1 := Aside0.mk hr0_1
  have HC0_1 := Aside0.mk hc0_1
  clear hr0_1 hc0_1
  have HR0_2 := Aside0.mk hr0_2
  have HC0_2 := Aside0.mk hc0_2
  clear hr0_2 hc0_2
  have HR0_3 := Aside0.mk hr0_3
  have HC0_3 := Aside0.mk hc0_3
  clear hr0_3 hc0_3
  have HR1_1 := Aside0.mk hr1_1
  have HC1_1 := Aside0.mk hc1_1
  clear hr1_1 hc1_1
  have HR1_2 := Aside0.mk hr1_2
  have HC1_2 := Aside0.mk hc1_2
  clear hr1_2 hc1_2
  have HR1_3 := Aside0.mk hr1_3
  have HC1_3 := Aside0.mk hc1_3
  clear hr1_3 hc1_3
  have HB := Aside0.mk (Below.refl w.heap.size w)
  have H : (if a0_0 = a1_0 then (if (l0_1.length : Int) = (l1_1.length : Int) then ((spec_l1same.f k l0_2 l1_2).bind fun t421 => (if t421 = true then (spec_l4sameSeg.j0 k ((l0_3.length : Int) != (l1_3.length : Int)) a0_0 l0_1 l0_2 l0_3 a1_0 l1_1 l1_2 l1_3) else (spec_l4sameSeg.j0 k true a0_0 l0_1 l0_2 l0_3 a1_0 l1_1 l1_2 l1_3))) else (spec_l4sameSeg.j0 k true a0_0 l0_1 l0_2 l0_3 a1_0 l1_1 l1_2 l1_3)) else (spec_l4sameSeg.j0 k true a0_0 l0_1 l0_2 l0_3 a1_0 l1_1 l1_2 l1_3)) = some r := h
  clear h
  have HC3 := Aside0.mk H
  clear H
  go_enter Try.func147, Try.ntmps147
  go_upto_region 1 with (first | ((with_reducible refine gate_dst (N := 2) rfl ?_); (try (refine gate_guard (by rfl) ?_; dsimp only)); refine box_event ?hg (N := 2) ?hd (cs := #[.int .i64 a0_0, .slice A0_1 l0_1.length c0_1, .slice A0_2 l0_2.length c0_2, .slice A0_3 l0_3.length c0_3]) (t := 50) ?hr ?_; (case hd => rfl); (case hg => rfl); (case hr => first | (go_simp; done) | (go_simp; rfl)); intro gb419 hg w4 hbox hb; have n0_ := Aside0.mk (below_step (by repeat (first | (with_reducible first | exact HB.out | apply below_alloc | apply pw_below_drewN | apply below_drew1) | exact HB.out)) hb); have n1_ := Aside0.mk (hbox); have n2_ := Aside0.mk ((by rw [hg]; exact (below_size (by repeat (first | (with_reducible first | exact HB.out | apply below_alloc | apply pw_below_drewN | apply below_drew1) | exact HB.out))) : w.heap.size ≤ gb419)); have n3_ := Aside0.mk ((by rw [hg]; exact (below_size (by repeat (first | (with_reducible first | exact HB.out | apply below_alloc | apply pw_below_drewN | apply below_drew1) | exact HB.out))) : w.heap.size ≤ gb419)); clear HB; have HB := n0_; have BK419 := n1_; have GW419 := n2_; have GE419 := n3_; clear n0_ n1_ n2_ n3_; clear hb hbox hg) | ((with_reducible refine gate_dst (N := 3) rfl ?_); (try (refine gate_guard (by rfl) ?_; dsimp only)); refine box_event ?hg (N := 3) ?hd (cs := #[.int .i64 a1_0, .slice A1_1 l1_1.length c1_1, .slice A1_2 l1_2.length c1_2, .slice A1_3 l1_3.length c1_3]) (t := 50) ?hr ?_; (case hd => rfl); (case hg => rfl); (case hr => first | (go_simp; done) | (go_simp; rfl)); intro gb420 hg w5 hbox hb; have n0_ := Aside0.mk (blk_below (g := gb419) (o := .cells #[.int .i64 a0_0, .slice A0_1 l0_1.length c0_1, .slice A0_2 l0_2.length c0_2, .slice A0_3 l0_3.length c0_3] 50 (0, 0)) (by (with_reducible repeat (first | refine blk_drewN ?_ _ | refine blk_drew ?_ | refine blk_alloc ?_ _)); exact BK419.out) hb); have n1_ := Aside0.mk (below_step (by repeat (first | (with_reducible first | exact HB.out | apply below_alloc | apply pw_below_drewN | apply below_drew1 | refine below_set ?_ GE419.out) | exact HB.out)) hb); have n2_ := Aside0.mk (hbox); have n3_ := Aside0.mk ((by rw [hg]; exact (below_size (by repeat (first | (with_reducible first | exact HB.out | apply below_alloc | apply pw_below_drewN | apply below_drew1 | refine below_set ?_ GE419.out) | exact HB.out))) : w.heap.size ≤ gb420)); have n4_ := Aside0.mk ((by rw [hg]; exact (below_size (by repeat (first | (with_reducible first | exact HB.out | apply below_alloc | apply pw_below_drewN | apply below_drew1 | refine below_set ?_ GE419.out) | exact HB.out))) : w.heap.size ≤ gb420)); have n5_ := Aside0.mk ((by rw [hg]; exact Nat.ne_of_lt (blk_lt (g := gb419) (o := .cells #[.int .i64 a0_0, .slice A0_1 l0_1.length c0_1, .slice A0_2 l0_2.length c0_2, .slice A0_3 l0_3.length c0_3] 50 (0, 0)) (by (with_reducible repeat (first | refine blk_drewN ?_ _ | refine blk_drew ?_ | refine blk_alloc ?_ _)); exact BK419.out)) : gb419 ≠ gb420)); have n6_ := Aside0.mk ((by rw [hg]; exact Nat.ne_of_gt (blk_lt (g := gb419) (o := .cells #[.int .i64 a0_0, .slice A0_1 l0_1.length c0_1, .slice A0_2 l0_2.length c0_2, .slice A0_3 l0_3.length c0_3] 50 (0, 0)) (by (with_reducible repeat (first | refine blk_drewN ?_ _ | refine blk_drew ?_ | refine blk_alloc ?_ _)); exact BK419.out)) : gb420 ≠ gb419)); clear BK419; clear HB; have BK419 := n0_; have HB := n1_; have BK420 := n2_; have GW420 := n3_; have GE420 := n4_; have NB419_420 := n5_; have NB420_419 := n6_; clear n0_ n1_ n2_ n3_ n4_ n5_ n6_; clear hb hbox hg))
  repeat (go_quiet (first | ((with_reducible refine gate_dst (N := 2) rfl ?_); (try (refine gate_guard (by rfl) ?_; dsimp only)); refine box_event ?hg (N := 2) ?hd (cs := #[.int .i64 a0_0, .slice A0_1 l0_1.length c0_1, .slice A0_2 l0_2.length c0_2, .slice A0_3 l0_3.length c0_3]) (t := 50) ?hr ?_; (case hd => rfl); (case hg => rfl); (case hr => first | (go_simp; done) | (go_simp; rfl)); intro gb419 hg w4 hbox hb; have n0_ := Aside0.mk (below_step (by repeat (first | (with_reducible first | exact HB.out | apply below_alloc | apply pw_below_drewN | apply below_drew1) | exact HB.out)) hb); have n1_ := Aside0.mk (hbox); have n2_ := Aside0.mk ((by rw [hg]; exact (below_size (by repeat (first | (with_reducible first | exact HB.out | apply below_alloc | apply pw_below_drewN | apply below_drew1) | exact HB.out))) : w.heap.size ≤ gb419)); have n3_ := Aside0.mk ((by rw [hg]; exact (below_size (by repeat (first | (with_reducible first | exact HB.out | apply below_alloc | apply pw_below_drewN | apply below_drew1) | exact HB.out))) : w.heap.size ≤ gb419)); clear HB; have HB := n0_; have BK419 := n1_; have GW419 := n2_; have GE419 := n3_; clear n0_ n1_ n2_ n3_; clear hb hbox hg) | ((with_reducible refine gate_dst (N := 3) rfl ?_); (try (refine gate_guard (by rfl) ?_; dsimp only)); refine box_event ?hg (N := 3) ?hd (cs := #[.int .i64 a1_0, .slice A1_1 l1_1.length c1_1, .slice A1_2 l1_2.length c1_2, .slice A1_3 l1_3.length c1_3]) (t := 50) ?hr ?_; (case hd => rfl); (case hg => rfl); (case hr => first | (go_simp; done) | (go_simp; rfl)); intro gb420 hg w5 hbox hb; have n0_ := Aside0.mk (blk_below (g := gb419) (o := .cells #[.int .i64 a0_0, .slice A0_1 l0_1.length c0_1, .slice A0_2 l0_2.length c0_2, .slice A0_3 l0_3.length c0_3] 50 (0, 0)) (by (with_reducible repeat (first | refine blk_drewN ?_ _ | refine blk_drew ?_ | refine blk_alloc ?_ _)); exact BK419.out) hb); have n1_ := Aside0.mk (below_step (by repeat (first | (with_reducible first | exact HB.out | apply below_alloc | apply pw_below_drewN | apply below_drew1 | refine below_set ?_ GE419.out) | exact HB.out)) hb); have n2_ := Aside0.mk (hbox); have n3_ := Aside0.mk ((by rw [hg]; exact (below_size (by repeat (first | (with_reducible first | exact HB.out | apply below_alloc | apply pw_below_drewN | apply below_drew1 | refine below_set ?_ GE419.out) | exact HB.out))) : w.heap.size ≤ gb420)); have n4_ := Aside0.mk ((by rw [hg]; exact (below_size (by repeat (first | (with_reducible first | exact HB.out | apply below_alloc | apply pw_below_drewN | apply below_drew1 | refine below_set ?_ GE419.out) | exact HB.out))) : w.heap.size ≤ gb420)); have n5_ := Aside0.mk ((by rw [hg]; exact Nat.ne_of_lt (blk_lt (g := gb419) (o := .cells #[.int .i64 a0_0, .slice A0_1 l0_1.length c0_1, .slice A0_2 l0_2.length c0_2, .slice A0_3 l0_3.length c0_3] 50 (0, 0)) (by (with_reducible repeat (first | refine blk_drewN ?_ _ | refine blk_drew ?_ | refine blk_alloc ?_ _)); exact BK419.out)) : gb419 ≠ gb420)); have n6_ := Aside0.mk ((by rw [hg]; exact Nat.ne_of_gt (blk_lt (g := gb419) (o := .cells #[.int .i64 a0_0, .slice A0_1 l0_1.length c0_1, .slice A0_2 l0_2.length c0_2, .slice A0_3 l0_3.length c0_3] 50 (0, 0)) (by (with_reducible repeat (first | refine blk_drewN ?_ _ | refine blk_drew ?_ | refine blk_alloc ?_ _)); exact BK419.out)) : gb420 ≠ gb419)); clear BK419; clear HB; have BK419 := n0_; have HB := n1_; have BK420 := n2_; have GW420 := n3_; have GE420 := n4_; have NB419_420 := n5_; have NB420_419 := n6_; clear n0_ n1_ n2_ n3_ n4_ n5_ n6_; clear hb hbox hg)); go_upto_region 1 with (first | ((with_reducible refine gate_dst (N := 2) rfl ?_); (try (refine gate_guard (by rfl) ?_; dsimp only)); refine box_event ?hg (N := 2) ?hd (cs := #[.int .i64 a0_0, .slice A0_1 l0_1.length c0_1, .slice A0_2 l0_2.length c0_2, .slice A0_3 l0_3.length c0_3]) (t := 50) ?hr ?_; (case hd => rfl); (case hg => rfl); (case hr => first | (go_simp; done) | (go_simp; rfl)); intro gb419 hg w4 hbox hb; have n0_ := Aside0.mk (below_step (by repeat (first | (with_reducible first | exact HB.out | apply below_alloc | apply pw_below_drewN | apply below_drew1) | exact HB.out)) hb); have n1_ := Aside0.mk (hbox); have n2_ := Aside0.mk ((by rw [hg]; exact (below_size (by repeat (first | (with_reducible first | exact HB.out | apply below_alloc | apply pw_below_drewN | apply below_drew1) | exact HB.out))) : w.heap.size ≤ gb419)); have n3_ := Aside0.mk ((by rw [hg]; exact (below_size (by repeat (first | (with_reducible first | exact HB.out | apply below_alloc | apply pw_below_drewN | apply below_drew1) | exact HB.out))) : w.heap.size ≤ gb419)); clear HB; have HB := n0_; have BK419 := n1_; have GW419 := n2_; have GE419 := n3_; clear n0_ n1_ n2_ n3_; clear hb hbox hg) | ((with_reducible refine gate_dst (N := 3) rfl ?_); (try (refine gate_guard (by rfl) ?_; dsimp only)); refine box_event ?hg (N := 3) ?hd (cs := #[.int .i64 a1_0, .slice A1_1 l1_1.length c1_1, .slice A1_2 l1_2.length c1_2, .slice A1_3 l1_3.length c1_3]) (t := 50) ?hr ?_; (case hd => rfl); (case hg => rfl); (case hr => first | (go_simp; done) | (go_simp; rfl)); intro gb420 hg w5 hbox hb; have n0_ := Aside0.mk (blk_below (g := gb419) (o := .cells #[.int .i64 a0_0, .slice A0_1 l0_1.length c0_1, .slice A0_2 l0_2.length c0_2, .slice A0_3 l0_3.length c0_3] 50 (0, 0)) (by (with_reducible repeat (first | refine blk_drewN ?_ _ | refine blk_drew ?_ | refine blk_alloc ?_ _)); exact BK419.out) hb); have n1_ := Aside0.mk (below_step (by repeat (first | (with_reducible first | exact HB.out | apply below_alloc | apply pw_below_drewN | apply below_drew1 | refine below_set ?_ GE419.out) | exact HB.out)) hb); have n2_ := Aside0.mk (hbox); have n3_ := Aside0.mk ((by rw [hg]; exact (below_size (by repeat (first | (with_reducible first | exact HB.out | apply below_alloc | apply pw_below_drewN | apply below_drew1 | refine below_set ?_ GE419.out) | exact HB.out))) : w.heap.size ≤ gb420)); have n4_ := Aside0.mk ((by rw [hg]; exact (below_size (by repeat (first | (with_reducible first | exact HB.out | apply below_alloc | apply pw_below_drewN | apply below_drew1 | refine below_set ?_ GE419.out) | exact HB.out))) : w.heap.size ≤ gb420)); have n5_ := Aside0.mk ((by rw [hg]; exact Nat.ne_of_lt (blk_lt (g := gb419) (o := .cells #[.int .i64 a0_0, .slice A0_1 l0_1.length c0_1, .slice A0_2 l0_2.length c0_2, .slice A0_3 l0_3.length c0_3] 50 (0, 0)) (by (with_reducible repeat (first | refine blk_drewN ?_ _ | refine blk_drew ?_ | refine blk_alloc ?_ _)); exact BK419.out)) : gb419 ≠ gb420)); have n6_ := Aside0.mk ((by rw [hg]; exact Nat.ne_of_gt (blk_lt (g := gb419) (o := .cells #[.int .i64 a0_0, .slice A0_1 l0_1.length c0_1, .slice A0_2 l0_2.length c0_2, .slice A0_3 l0_3.length c0_3] 50 (0, 0)) (by (with_reducible repeat (first | refine blk_drewN ?_ _ | refine blk_drew ?_ | refine blk_alloc ?_ _)); exact BK419.out)) : gb420 ≠ gb419)); clear BK419; clear HB; have BK419 := n0_; have HB := n1_; have BK420 := n2_; have GW420 := n3_; have GE420 := n4_; have NB419_420 := n5_; have NB420_419 := n6_; clear n0_ n1_ n2_ n3_ n4_ n5_ n6_; clear hb hbox hg)))
  (try simp only [Act.put, List.setIfInBounds_toArray, List.set_cons_zero, List.set_cons_succ])
  go_cut [37] (fun v37 wc => ∃ (kq : Nat) (x37_2 : Bool), v37 = .bool x37_2 ∧ Aside0 (spec_l4sameSeg.j0 kq x37_2 a0_0 l0_1 l0_2 l0_3 a1_0 l1_1 l1_2 l1_3 = some r) ∧ Aside0 (kq ≤ k) ∧ Aside0 (wc.heap[gb419]? = some (.cells #[.int .i64 a0_0, (.slice A0_1 l0_1.length c0_1), (.slice A0_2 l0_2.length c0_2), (.slice A0_3 l0_3.length c0_3)] 50 (0, 0))) ∧ Aside0 (wc.heap[gb420]? = some (.cells #[.int .i64 a1_0, (.slice A1_1 l1_1.length c1_1), (.slice A1_2 l1_2.length c1_2), (.slice A1_3 l1_3.length c1_3)] 50 (0, 0))) ∧ Aside0 (Below w.heap.size w wc))
  case first =>
    have H := HC3.out
    clear HC3
    by_cases c6 : a0_0 = a1_0
    · rw [if_pos c6] at H
      have c6b0 : (a0_0 == a1_0) = true := beq_iff_eq.mpr c6
      have c6b1 : (a0_0 != a1_0) = false := bne_eq_false_iff_eq.mpr c6
      clear c6
      (first | rw [c6b0] | (simp only [i64_w, i32_w]; rw [c6b0]) | skip)
      by_cases c7 : (l0_1.length : Int) = (l1_1.length : Int)
      · rw [if_pos c7] at H
        have c7b0 : ((l0_1.length : Int) == (l1_1.length : Int)) = true := beq_iff_eq.mpr c7
        have c7b1 : ((l0_1.length : Int) != (l1_1.length : Int)) = false := bne_eq_false_iff_eq.mpr c7
        have c7b2 : (l0_1.length == l1_1.length) = true := by first | simpa using c7 | (simp at c7 ⊢; omega)
        clear c7
        replace H := Option.bind_eq_some_iff.mp H
        obtain ⟨t421, A80, H⟩ := H
        replace H : (if t421 = true then (spec_l4sameSeg.j0 k ((l0_3.length : Int) != (l1_3.length : Int)) a0_0 l0_1 l0_2 l0_3 a1_0 l1_1 l1_2 l1_3) else (spec_l4sameSeg.j0 k true a0_0 l0_1 l0_2 l0_3 a1_0 l1_1 l1_2 l1_3)) = some r := H
        have A8 := Aside0.mk A80
        clear A80
        by_cases c9 : t421 = true
        · subst c9
          have H1 : (spec_l4sameSeg.j0 k ((l0_3.length : Int) != (l1_3.length : Int)) a0_0 l0_1 l0_2 l0_3 a1_0 l1_1 l1_2 l1_3) = some r := by rw [if_pos rfl] at H; exact H
          clear H
          have H := H1
          clear H1
          have H' := Aside0.mk H
          clear H
          have hnb10 := NB419_420.out
          have hnc10 := NB420_419.out
          have hcz11_0 : w5.cell? ⟨gb419, 0, none⟩ = some (.int .i64 a0_0) := (blk_cell BK419.out 0).trans rfl
          have hcz11_1 : w5.cell? ⟨gb419, 1, none⟩ = some (.slice A0_1 l0_1.length c0_1) := (blk_cell BK419.out 1).trans rfl
          have hcz11_2 : w5.cell? ⟨gb419, 2, none⟩ = some (.slice A0_2 l0_2.length c0_2) := (blk_cell BK419.out 2).trans rfl
          have hcz11_3 : w5.cell? ⟨gb419, 3, none⟩ = some (.slice A0_3 l0_3.length c0_3) := (blk_cell BK419.out 3).trans rfl
          have hfz11_0 := blk_frozen BK419.out 0
          have hfz11_1 := blk_frozen BK419.out 1
          have hfz11_2 := blk_frozen BK419.out 2
          have hfz11_3 := blk_frozen BK419.out 3
          have hcz12_0 : w5.cell? ⟨gb420, 0, none⟩ = some (.int .i64 a1_0) := (blk_cell BK420.out 0).trans rfl
          have hcz12_1 : w5.cell? ⟨gb420, 1, none⟩ = some (.slice A1_1 l1_1.length c1_1) := (blk_cell BK420.out 1).trans rfl
          have hcz12_2 : w5.cell? ⟨gb420, 2, none⟩ = some (.slice A1_2 l1_2.length c1_2) := (blk_cell BK420.out 2).trans rfl
          have hcz12_3 : w5.cell? ⟨gb420, 3, none⟩ = some (.slice A1_3 l1_3.length c1_3) := (blk_cell BK420.out 3).trans rfl
          have hfz12_0 := blk_frozen BK420.out 0
          have hfz12_1 := blk_frozen BK420.out 1
          have hfz12_2 := blk_frozen BK420.out 2
          have hfz12_3 := blk_frozen BK420.out 3
          go_wp2_with (first | (go_at_call 171; (with_reducible refine (spec_l1same.calls k _ _ l0_2 _ _ l1_2 true _ ?side1 ?side2 ?side3 ?side4 A8.out).mono ?_); (case side1 => repeat (first | exact (Kd.C_below HR0_2.out HB.out) | (with_reducible refine Kd.C_alloc ?_ _) | (with_reducible refine Kd.C_drewN ?_ _) | (with_reducible refine Kd.C_drew ?_))); (case side2 => exact HC0_2.out); (case side3 => repeat (first | exact (Kd.C_below HR1_2.out HB.out) | (with_reducible refine Kd.C_alloc ?_ _) | (with_reducible refine Kd.C_drewN ?_ _) | (with_reducible refine Kd.C_drew ?_))); (case side4 => exact HC1_2.out); rintro e w' ⟨rfl, ⟨nd, rfl⟩⟩; (try first | exact ⟨rfl, _, World.drewN_drewN _ _ _⟩ | exact ⟨rfl, _, Eq.trans (World.drewN_drewN _ _ _) (congrArg (World.drewN _) (Nat.add_assoc _ _ _))⟩)))
          repeat (go_quiet (first | (go_at_call 171; (with_reducible refine (spec_l1same.calls k _ _ l0_2 _ _ l1_2 true _ ?side1 ?side2 ?side3 ?side4 A8.out).mono ?_); (case side1 => repeat (first | exact (Kd.C_below HR0_2.out HB.out) | (with_reducible refine Kd.C_alloc ?_ _) | (with_reducible refine Kd.C_drewN ?_ _) | (with_reducible refine Kd.C_drew ?_))); (case side2 => exact HC0_2.out); (case side3 => repeat (first | exact (Kd.C_below HR1_2.out HB.out) | (with_reducible refine Kd.C_alloc ?_ _) | (with_reducible refine Kd.C_drewN ?_ _) | (with_reducible refine Kd.C_drew ?_))); (case side4 => exact HC1_2.out); rintro e w' ⟨rfl, ⟨nd, rfl⟩⟩; (try first | exact ⟨rfl, _, World.drewN_drewN _ _ _⟩ | exact ⟨rfl, _, Eq.trans (World.drewN_drewN _ _ _) (congrArg (World.drewN _) (Nat.add_assoc _ _ _))⟩))); try go_wp2_with (first | (go_at_call 171; (with_reducible refine (spec_l1same.calls k _ _ l0_2 _ _ l1_2 true _ ?side1 ?side2 ?side3 ?side4 A8.out).mono ?_); (case side1 => repeat (first | exact (Kd.C_below HR0_2.out HB.out) | (with_reducible refine Kd.C_alloc ?_ _) | (with_reducible refine Kd.C_drewN ?_ _) | (with_reducible refine Kd.C_drew ?_))); (case side2 => exact HC0_2.out); (case side3 => repeat (first | exact (Kd.C_below HR1_2.out HB.out) | (with_reducible refine Kd.C_alloc ?_ _) | (with_reducible refine Kd.C_drewN ?_ _) | (with_reducible refine Kd.C_drew ?_))); (case side4 => exact HC1_2.out); rintro e w' ⟨rfl, ⟨nd, rfl⟩⟩; (try first | exact ⟨rfl, _, World.drewN_drewN _ _ _⟩ | exact ⟨rfl, _, Eq.trans (World.drewN_drewN _ _ _) (congrArg (World.drewN _) (Nat.add_assoc _ _ _))⟩))))
          go_meet
          case rel => exact ⟨_, (((l0_3.length : Int) != (l1_3.length : Int))), (by first | rfl | (simp; done) | (simp [*]; done)), H', ⟨by first | omega | exact Nat.le_refl _⟩, ⟨by (with_reducible repeat (first | refine blk_drewN ?_ _ | refine blk_drew ?_ | refine blk_alloc ?_ _)); exact BK419.out⟩, ⟨by (with_reducible repeat (first | refine blk_drewN ?_ _ | refine blk_drew ?_ | refine blk_alloc ?_ _)); exact BK420.out⟩, ⟨by repeat (first | (with_reducible first | exact HB.out | apply below_alloc | apply pw_below_drewN | apply below_drew1 | refine below_set ?_ GE419.out | refine below_set ?_ GE420.out) | exact HB.out)⟩⟩
        · replace c9 := Bool.eq_false_iff.mpr c9
          subst c9
          have H1 : (spec_l4sameSeg.j0 k true a0_0 l0_1 l0_2 l0_3 a1_0 l1_1 l1_2 l1_3) = some r := by rw [if_neg (show ¬ (false = true) by decide)] at H; exact H
          clear H
          have H := H1
          clear H1
          have H' := Aside0.mk H
          clear H
          have hnb13 := NB419_420.out
          have hnc13 := NB420_419.out
          have hcz14_0 : w5.cell? ⟨gb419, 0, none⟩ = some (.int .i64 a0_0) := (blk_cell BK419.out 0).trans rfl
          have hcz14_1 : w5.cell? ⟨gb419, 1, none⟩ = some (.slice A0_1 l0_1.length c0_1) := (blk_cell BK419.out 1).trans rfl
          have hcz14_2 : w5.cell? ⟨gb419, 2, none⟩ = some (.slice A0_2 l0_2.length c0_2) := (blk_cell BK419.out 2).trans rfl
          have hcz14_3 : w5.cell? ⟨gb419, 3, none⟩ = some (.slice A0_3 l0_3.length c0_3) := (blk_cell BK419.out 3).trans rfl
          have hfz14_0 := blk_frozen BK419.out 0
          have hfz14_1 := blk_frozen BK419.out 1
          have hfz14_2 := blk_frozen BK419.out 2
          have hfz14_3 := blk_frozen BK419.out 3
          have hcz15_0 : w5.cell? ⟨gb420, 0, none⟩ = some (.int .i64 a1_0) := (blk_cell BK420.out 0).trans rfl
          have hcz15_1 : w5.cell? ⟨gb420, 1, none⟩ = some (.slice A1_1 l1_1.length c1_1) := (blk_cell BK420.out 1).trans rfl
          have hcz15_2 : w5.cell? ⟨gb420, 2, none⟩ = some (.slice A1_2 l1_2.length c1_2) := (blk_cell BK420.out 2).trans rfl
          have hcz15_3 : w5.cell? ⟨gb420, 3, none⟩ = some (.slice A1_3 l1_3.length c1_3) := (blk_cell BK420.out 3).trans rfl
          have hfz15_0 := blk_frozen BK420.out 0
          have hfz15_1 := blk_frozen BK420.out 1
          have hfz15_2 := blk_frozen BK420.out 2
          have hfz15_3 := blk_frozen BK420.out 3
          go_wp2_with (first | (go_at_call 171; (with_reducible refine (spec_l1same.calls k _ _ l0_2 _ _ l1_2 false _ ?side1 ?side2 ?side3 ?side4 A8.out).mono ?_); (case side1 => repeat (first | exact (Kd.C_below HR0_2.out HB.out) | (with_reducible refine Kd.C_alloc ?_ _) | (with_reducible refine Kd.C_drewN ?_ _) | (with_reducible refine Kd.C_drew ?_))); (case side2 => exact HC0_2.out); (case side3 => repeat (first | exact (Kd.C_below HR1_2.out HB.out) | (with_reducible refine Kd.C_alloc ?_ _) | (with_reducible refine Kd.C_drewN ?_ _) | (with_reducible refine Kd.C_drew ?_))); (case side4 => exact HC1_2.out); rintro e w' ⟨rfl, ⟨nd, rfl⟩⟩; (try first | exact ⟨rfl, _, World.drewN_drewN _ _ _⟩ | exact ⟨rfl, _, Eq.trans (World.drewN_drewN _ _ _) (congrArg (World.drewN _) (Nat.add_assoc _ _ _))⟩)))
          repeat (go_quiet (first | (go_at_call 171; (with_reducible refine (spec_l1same.calls k _ _ l0_2 _ _ l1_2 false _ ?side1 ?side2 ?side3 ?side4 A8.out).mono ?_); (case side1 => repeat (first | exact (Kd.C_below HR0_2.out HB.out) | (with_reducible refine Kd.C_alloc ?_ _) | (with_reducible refine Kd.C_drewN ?_ _) | (with_reducible refine Kd.C_drew ?_))); (case side2 => exact HC0_2.out); (case side3 => repeat (first | exact (Kd.C_below HR1_2.out HB.out) | (with_reducible refine Kd.C_alloc ?_ _) | (with_reducible refine Kd.C_drewN ?_ _) | (with_reducible refine Kd.C_drew ?_))); (case side4 => exact HC1_2.out); rintro e w' ⟨rfl, ⟨nd, rfl⟩⟩; (try first | exact ⟨rfl, _, World.drewN_drewN _ _ _⟩ | exact ⟨rfl, _, Eq.trans (World.drewN_drewN _ _ _) (congrArg (World.drewN _) (Nat.add_assoc _ _ _))⟩))); try go_wp2_with (first | (go_at_call 171; (with_reducible refine (spec_l1same.calls k _ _ l0_2 _ _ l1_2 false _ ?side1 ?side2 ?side3 ?side4 A8.out).mono ?_); (case side1 => repeat (first | exact (Kd.C_below HR0_2.out HB.out) | (with_reducible refine Kd.C_alloc ?_ _) | (with_reducible refine Kd.C_drewN ?_ _) | (with_reducible refine Kd.C_drew ?_))); (case side2 => exact HC0_2.out); (case side3 => repeat (first | exact (Kd.C_below HR1_2.out HB.out) | (with_reducible refine Kd.C_alloc ?_ _) | (with_reducible refine Kd.C_drewN ?_ _) | (with_reducible refine Kd.C_drew ?_))); (case side4 => exact HC1_2.out); rintro e w' ⟨rfl, ⟨nd, rfl⟩⟩; (try first | exact ⟨rfl, _, World.drewN_drewN _ _ _⟩ | exact ⟨rfl, _, Eq.trans (World.drewN_drewN _ _ _) (congrArg (World.drewN _) (Nat.add_assoc _ _ _))⟩))))
          go_meet
          case rel => exact ⟨_, (true), (by first | rfl | (simp; done) | (simp [*]; done)), H', ⟨by first | omega | exact Nat.le_refl _⟩, ⟨by (with_reducible repeat (first | refine blk_drewN ?_ _ | refine blk_drew ?_ | refine blk_alloc ?_ _)); exact BK419.out⟩, ⟨by (with_reducible repeat (first | refine blk_drewN ?_ _ | refine blk_drew ?_ | refine blk_alloc ?_ _)); exact BK420.out⟩, ⟨by repeat (first | (with_reducible first | exact HB.out | apply below_alloc | apply pw_below_drewN | apply below_drew1 | refine below_set ?_ GE419.out | refine below_set ?_ GE420.out) | exact HB.out)⟩⟩
      · rw [if_neg c7] at H
        have c7b0 : ((l0_1.length : Int) == (l1_1.length : Int)) = false := beq_eq_false_iff_ne.mpr c7
        have c7b1 : ((l0_1.length : Int) != (l1_1.length : Int)) = true := bne_iff_ne.mpr c7
        have c7b2 : (l0_1.length == l1_1.length) = false := by first | simpa using c7 | (simp at c7 ⊢; omega)
        have H' := Aside0.mk H
        clear H
        have hnb16 := NB419_420.out
        have hnc16 := NB420_419.out
        have hcz17_0 : w5.cell? ⟨gb419, 0, none⟩ = some (.int .i64 a0_0) := (blk_cell BK419.out 0).trans rfl
        have hcz17_1 : w5.cell? ⟨gb419, 1, none⟩ = some (.slice A0_1 l0_1.length c0_1) := (blk_cell BK419.out 1).trans rfl
        have hcz17_2 : w5.cell? ⟨gb419, 2, none⟩ = some (.slice A0_2 l0_2.length c0_2) := (blk_cell BK419.out 2).trans rfl
        have hcz17_3 : w5.cell? ⟨gb419, 3, none⟩ = some (.slice A0_3 l0_3.length c0_3) := (blk_cell BK419.out 3).trans rfl
        have hfz17_0 := blk_frozen BK419.out 0
        have hfz17_1 := blk_frozen BK419.out 1
        have hfz17_2 := blk_frozen BK419.out 2
        have hfz17_3 := blk_frozen BK419.out 3
        have hcz18_0 : w5.cell? ⟨gb420, 0, none⟩ = some (.int .i64 a1_0) := (blk_cell BK420.out 0).trans rfl
        have hcz18_1 : w5.cell? ⟨gb420, 1, none⟩ = some (.slice A1_1 l1_1.length c1_1) := (blk_cell BK420.out 1).trans rfl
        have hcz18_2 : w5.cell? ⟨gb420, 2, none⟩ = some (.slice A1_2 l1_2.length c1_2) := (blk_cell BK420.out 2).trans rfl
        have hcz18_3 : w5.cell? ⟨gb420, 3, none⟩ = some (.slice A1_3 l1_3.length c1_3) := (blk_cell BK420.out 3).trans rfl
        have hfz18_0 := blk_frozen BK420.out 0
        have hfz18_1 := blk_frozen BK420.out 1
        have hfz18_2 := blk_frozen BK420.out 2
        have hfz18_3 := blk_frozen BK420.out 3
        go_wp2
        repeat (go_quiet (fail); try go_wp2)
        go_meet
        case rel => exact ⟨_, (true), (by first | rfl | (simp; done) | (simp [*]; done)), H', ⟨by first | omega | exact Nat.le_refl _⟩, ⟨by (with_reducible repeat (first | refine blk_drewN ?_ _ | refine blk_drew ?_ | refine blk_alloc ?_ _)); exact BK419.out⟩, ⟨by (with_reducible repeat (first | refine blk_drewN ?_ _ | refine blk_drew ?_ | refine blk_alloc ?_ _)); exact BK420.out⟩, ⟨by repeat (first | (with_reducible first | exact HB.out | apply below_alloc | apply pw_below_drewN | apply below_drew1 | refine below_set ?_ GE419.out | refine below_set ?_ GE420.out) | exact HB.out)⟩⟩
    · rw [if_neg c6] at H
      have c6b0 : (a0_0 == a1_0) = false := beq_eq_false_iff_ne.mpr c6
      have c6b1 : (a0_0 != a1_0) = true := bne_iff_ne.mpr c6
      (first | rw [c6b0] | (simp only [i64_w, i32_w]; rw [c6b0]) | skip)
      have H' := Aside0.mk H
      clear H
      have hnb19 := NB419_420.out
      have hnc19 := NB420_419.out
      have hcz20_0 : w5.cell? ⟨gb419, 0, none⟩ = some (.int .i64 a0_0) := (blk_cell BK419.out 0).trans rfl
      have hcz20_1 : w5.cell? ⟨gb419, 1, none⟩ = some (.slice A0_1 l0_1.length c0_1) := (blk_cell BK419.out 1).trans rfl
      have hcz20_2 : w5.cell? ⟨gb419, 2, none⟩ = some (.slice A0_2 l0_2.length c0_2) := (blk_cell BK419.out 2).trans rfl
      have hcz20_3 : w5.cell? ⟨gb419, 3, none⟩ = some (.slice A0_3 l0_3.length c0_3) := (blk_cell BK419.out 3).trans rfl
      have hfz20_0 := blk_frozen BK419.out 0
      have hfz20_1 := blk_frozen BK419.out 1
      have hfz20_2 := blk_frozen BK419.out 2
      have hfz20_3 := blk_frozen BK419.out 3
      have hcz21_0 : w5.cell? ⟨gb420, 0, none⟩ = some (.int .i64 a1_0) := (blk_cell BK420.out 0).trans rfl
      have hcz21_1 : w5.cell? ⟨gb420, 1, none⟩ = some (.slice A1_1 l1_1.length c1_1) := (blk_cell BK420.out 1).trans rfl
      have hcz21_2 : w5.cell? ⟨gb420, 2, none⟩ = some (.slice A1_2 l1_2.length c1_2) := (blk_cell BK420.out 2).trans rfl
      have hcz21_3 : w5.cell? ⟨gb420, 3, none⟩ = some (.slice A1_3 l1_3.length c1_3) := (blk_cell BK420.out 3).trans rfl
      have hfz21_0 := blk_frozen BK420.out 0
      have hfz21_1 := blk_frozen BK420.out 1
      have hfz21_2 := blk_frozen BK420.out 2
      have hfz21_3 := blk_frozen BK420.out 3
      go_wp2
      repeat (go_quiet (fail); try go_wp2)
      go_meet
      case rel => exact ⟨_, (true), (by first | rfl | (simp; done) | (simp [*]; done)), H', ⟨by first | omega | exact Nat.le_refl _⟩, ⟨by (with_reducible repeat (first | refine blk_drewN ?_ _ | refine blk_drew ?_ | refine blk_alloc ?_ _)); exact BK419.out⟩, ⟨by (with_reducible repeat (first | refine blk_drewN ?_ _ | refine blk_drew ?_ | refine blk_alloc ?_ _)); exact BK420.out⟩, ⟨by repeat (first | (with_reducible first | exact HB.out | apply below_alloc | apply pw_below_drewN | apply below_drew1 | refine below_set ?_ GE419.out | refine below_set ?_ GE420.out) | exact HB.out)⟩⟩
  case rest =>
    clear HC3
    try clear c1
    try clear p2
    try clear c6
    try clear c6b0
    try clear c6b1
    try clear c7
    try clear c7b0
    try clear c7b1
    try clear c7b2
    try clear c9
    try clear c10
    try clear c13
    try clear c14
    try clear c16
    try clear c19
    try clear hcz11_0
    try clear hcz11_1
    try clear hcz11_2
    try clear hcz11_3
    try clear hcz12_0
    try clear hcz12_1
    try clear hcz12_2
    try clear hcz12_3
    try clear hcz14_0
    try clear hcz14_1
    try clear hcz14_2
    try clear hcz14_3
    try clear hcz15_0
    try clear hcz15_1
    try clear hcz15_2
    try clear hcz15_3
    try clear hcz17_0
    try clear hcz17_1
    try clear hcz17_2
    try clear hcz17_3
    try clear hcz18_0
    try clear hcz18_1
    try clear hcz18_2
    try clear hcz18_3
    try clear hcz20_0
    try clear hcz20_1
    try clear hcz20_2
    try clear hcz20_3
    try clear hcz21_0
    try clear hcz21_1
    try clear hcz21_2
    try clear hcz21_3
    try clear hfz11_0
    try clear hfz11_1
    try clear hfz11_2
    try clear hfz11_3
    try clear hfz12_0
    try clear hfz12_1
    try clear hfz12_2
    try clear hfz12_3
    try clear hfz14_0
    try clear hfz14_1
    try clear hfz14_2
    try clear hfz14_3
    try clear hfz15_0
    try clear hfz15_1
    try clear hfz15_2
    try clear hfz15_3
    try clear hfz17_0
    try clear hfz17_1
    try clear hfz17_2
    try clear hfz17_3
    try clear hfz18_0
    try clear hfz18_1
    try clear hfz18_2
    try clear hfz18_3
    try clear hfz20_0
    try clear hfz20_1
    try clear hfz20_2
    try clear hfz20_3
    try clear hfz21_0
    try clear hfz21_1
    try clear hfz21_2
    try clear hfz21_3
    obtain ⟨kq, x37_2, rfl, HA, HJ2, BK419, BK420, HB⟩ := hcut
    cases kq with
    | zero => exact absurd HA.out (by simp [spec_l4sameSeg.j0])
    | succ kj2 =>
      have H := HA.out
      clear HA
      simp only [spec_l4sameSeg.j0] at H
      by_cases c22 : x37_2 = true
      · subst c22
        have H1 : (some false) = some r := by rw [if_pos rfl] at H; exact H
        clear H
        have H := H1
        clear H1
        obtain rfl := Option.some.inj H
        go_wp2
        repeat (go_quiet (fail); try go_wp2)
        go_ret
        exact ⟨by first | rfl | (simp [errW_none, errW_some] <;> rfl) | (simp [*, errW_none, errW_some] <;> rfl), by repeat (first | (with_reducible first | exact HB.out | apply below_alloc | apply pw_below_drewN | apply below_drew1 | refine below_set ?_ GE419.out | refine below_set ?_ GE420.out) | exact HB.out)⟩
      · replace c22 := Bool.eq_false_iff.mpr c22
        subst c22
        have H1 : (spec_l4sameSeg.l0 kj2 0 a0_0 l0_1 l0_2 l0_3 a1_0 l1_1 l1_2 l1_3) = some r := by rw [if_neg (show ¬ (false = true) by decide)] at H; exact H
        clear H
        have H := H1
        clear H1
        have H' := Aside0.mk H
        clear H
        go_wp2
        repeat (go_quiet (fail); try go_wp2)
        go_loopg [5] kj2 (fun kq v5 w' => ∃ (x5_2 : Int), v5 = .int .i64 x5_2 ∧ Aside0 (spec_l4sameSeg.l0 kq x5_2 a0_0 l0_1 l0_2 l0_3 a1_0 l1_1 l1_2 l1_3 = some r) ∧ Aside0 (kq ≤ kj2) ∧ Aside0 (w'.heap[gb419]? = some (.cells #[.int .i64 a0_0, (.slice A0_1 l0_1.length c0_1), (.slice A0_2 l0_2.length c0_2), (.slice A0_3 l0_3.length c0_3)] 50 (0, 0))) ∧ Aside0 (w'.heap[gb420]? = some (.cells #[.int .i64 a1_0, (.slice A1_1 l1_1.length c1_1), (.slice A1_2 l1_2.length c1_2), (.slice A1_3 l1_3.length c1_3)] 50 (0, 0))) ∧ Aside0 (Below w.heap.size w w'))
        case atStart => exact ⟨(0), (by first | rfl | (simp; done) | (simp [*]; done)), H', ⟨Nat.le_refl _⟩, ⟨by (with_reducible repeat (first | refine blk_drewN ?_ _ | refine blk_drew ?_ | refine blk_alloc ?_ _)); exact BK419.out⟩, ⟨by (with_reducible repeat (first | refine blk_drewN ?_ _ | refine blk_drew ?_ | refine blk_alloc ?_ _)); exact BK420.out⟩, ⟨by repeat (first | (with_reducible first | exact HB.out | apply below_alloc | apply pw_below_drewN | apply below_drew1 | refine below_set ?_ GE419.out | refine below_set ?_ GE420.out) | exact HB.out)⟩⟩
        case round =>
          clear H'
          try clear c1
          try clear c2
          try clear p2
          try clear c6
          try clear c6b0
          try clear c6b1
          try clear c7
          try clear c7b0
          try clear c7b1
          try clear c7b2
          try clear c9
          try clear c10
          try clear c13
          try clear c14
          try clear c16
          try clear c19
          try clear c22
          try clear hcz11_0
          try clear hcz11_1
          try clear hcz11_2
          try clear hcz11_3
          try clear hcz12_0
          try clear hcz12_1
          try clear hcz12_2
          try clear hcz12_3
          try clear hcz14_0
          try clear hcz14_1
          try clear hcz14_2
          try clear hcz14_3
          try clear hcz15_0
          try clear hcz15_1
          try clear hcz15_2
          try clear hcz15_3
          try clear hcz17_0
          try clear hcz17_1
          try clear hcz17_2
          try clear hcz17_3
          try clear hcz18_0
          try clear hcz18_1
          try clear hcz18_2
          try clear hcz18_3
          try clear hcz20_0
          try clear hcz20_1
          try clear hcz20_2
          try clear hcz20_3
          try clear hcz21_0
          try clear hcz21_1
          try clear hcz21_2
          try clear hcz21_3
          try clear hfz11_0
          try clear hfz11_1
          try clear hfz11_2
          try clear hfz11_3
          try clear hfz12_0
          try clear hfz12_1
          try clear hfz12_2
          try clear hfz12_3
          try clear hfz14_0
          try clear hfz14_1
          try clear hfz14_2
          try clear hfz14_3
          try clear hfz15_0
          try clear hfz15_1
          try clear hfz15_2
          try clear hfz15_3
          try clear hfz17_0
          try clear hfz17_1
          try clear hfz17_2
          try clear hfz17_3
          try clear hfz18_0
          try clear hfz18_1
          try clear hfz18_2
          try clear hfz18_3
          try clear hfz20_0
          try clear hfz20_1
          try clear hfz20_2
          try clear hfz20_3
          try clear hfz21_0
          try clear hfz21_1
          try clear hfz21_2
          try clear hfz21_3
          try clear p2
          obtain ⟨x5_2, rfl, HA, HK2, BK419, BK420, HB⟩ := hrel
          cases gk with
          | zero => exact absurd HA.out (by simp [spec_l4sameSeg.l0])
          | succ k2 =>
            have H := HA.out
            clear HA
            simp only [spec_l4sameSeg.l0] at H
            by_cases c23 : x5_2 < (l0_1.length : Int)
            · rw [if_pos c23] at H
              have c23b0 : decide (x5_2 < (l0_1.length : Int)) = true := decide_eq_true c23
              clear c23
              by_cases c24 : 0 ≤ x5_2
              · rw [if_pos c24] at H
                have c24b0 : decide (0 ≤ x5_2) = true := decide_eq_true c24
                clear c24
                by_cases c25 : x5_2 < (l1_1.length : Int)
                · rw [if_pos c25] at H
                  have c25b0 : decide (x5_2 < (l1_1.length : Int)) = true := decide_eq_true c25
                  clear c25
                  replace H := Option.bind_eq_some_iff.mp H
                  obtain ⟨t424, A260, H⟩ := H
                  replace H : (if t424 = true then (spec_l4sameSeg.l0 k2 (wrap64 (x5_2 + 1)) a0_0 l0_1 l0_2 l0_3 a1_0 l1_1 l1_2 l1_3) else (some false)) = some r := H
                  have A26 := Aside0.mk A260
                  clear A260
                  by_cases c27 : t424 = true
                  · subst c27
                    have H1 : (spec_l4sameSeg.l0 k2 (wrap64 (x5_2 + 1)) a0_0 l0_1 l0_2 l0_3 a1_0 l1_1 l1_2 l1_3) = some r := by rw [if_pos rfl] at H; exact H
                    clear H
                    have H := H1
                    clear H1
                    have H' := Aside0.mk H
                    clear H
                    have hnb28 := NB419_420.out
                    have hnc28 := NB420_419.out
                    have hcz29_0 : wr.cell? ⟨gb419, 0, none⟩ = some (.int .i64 a0_0) := (blk_cell BK419.out 0).trans rfl
                    have hcz29_1 : wr.cell? ⟨gb419, 1, none⟩ = some (.slice A0_1 l0_1.length c0_1) := (blk_cell BK419.out 1).trans rfl
                    have hcz29_2 : wr.cell? ⟨gb419, 2, none⟩ = some (.slice A0_2 l0_2.length c0_2) := (blk_cell BK419.out 2).trans rfl
                    have hcz29_3 : wr.cell? ⟨gb419, 3, none⟩ = some (.slice A0_3 l0_3.length c0_3) := (blk_cell BK419.out 3).trans rfl
                    have hfz29_0 := blk_frozen BK419.out 0
                    have hfz29_1 := blk_frozen BK419.out 1
                    have hfz29_2 := blk_frozen BK419.out 2
                    have hfz29_3 := blk_frozen BK419.out 3
                    have p422 : 0 ≤ (x5_2 : Int) := of_decide_eq_true (by first | (with_reducible assumption) | assumption)
                    have q422 : x5_2 < (l0_1.length : Int) := of_decide_eq_true (by first | (with_reducible assumption) | assumption)
                    obtain ⟨ad422, A422_0, c422_0, e422, hx422_0, hl422_0, hi422_0⟩ := at_L1 HR0_1.out x5_2 p422 q422
                    cases e422
                    replace hx422_0 := (HB.out.cell (World.block_lt_of_cell? w _ hx422_0)).trans hx422_0
                    have HR422_0 := Aside0.mk hi422_0
                    have HC422_0 := Aside0.mk hl422_0
                    clear hi422_0 hl422_0
                    replace p422 := eq_true p422
                    replace q422 := eq_true q422
                    have hcz30_0 : wr.cell? ⟨gb420, 0, none⟩ = some (.int .i64 a1_0) := (blk_cell BK420.out 0).trans rfl
                    have hcz30_1 : wr.cell? ⟨gb420, 1, none⟩ = some (.slice A1_1 l1_1.length c1_1) := (blk_cell BK420.out 1).trans rfl
                    have hcz30_2 : wr.cell? ⟨gb420, 2, none⟩ = some (.slice A1_2 l1_2.length c1_2) := (blk_cell BK420.out 2).trans rfl
                    have hcz30_3 : wr.cell? ⟨gb420, 3, none⟩ = some (.slice A1_3 l1_3.length c1_3) := (blk_cell BK420.out 3).trans rfl
                    have hfz30_0 := blk_frozen BK420.out 0
                    have hfz30_1 := blk_frozen BK420.out 1
                    have hfz30_2 := blk_frozen BK420.out 2
                    have hfz30_3 := blk_frozen BK420.out 3
                    have p423 : 0 ≤ (x5_2 : Int) := of_decide_eq_true (by first | (with_reducible assumption) | assumption)
                    have q423 : x5_2 < (l1_1.length : Int) := of_decide_eq_true (by first | (with_reducible assumption) | assumption)
                    obtain ⟨ad423, A423_0, c423_0, e423, hx423_0, hl423_0, hi423_0⟩ := at_L1 HR1_1.out x5_2 p423 q423
                    cases e423
                    replace hx423_0 := (HB.out.cell (World.block_lt_of_cell? w _ hx423_0)).trans hx423_0
                    have HR423_0 := Aside0.mk hi423_0
                    have HC423_0 := Aside0.mk hl423_0
                    clear hi423_0 hl423_0
                    replace p423 := eq_true p423
                    replace q423 := eq_true q423
                    go_wp2_with (first | (go_at_call 101; (with_reducible refine (spec_l4sameBytes.calls _ _ (rd_L1 l0_1 x5_2) _ _ (rd_L1 l1_1 x5_2) true _ ?side1 ?side2 ?side3 ?side4 A26.out).mono ?_); (case side1 => repeat (first | exact (Kd.C_below HR422_0.out HB.out) | (with_reducible refine Kd.C_alloc ?_ _) | (with_reducible refine Kd.C_drewN ?_ _) | (with_reducible refine Kd.C_drew ?_))); (case side2 => exact HC422_0.out); (case side3 => repeat (first | exact (Kd.C_below HR423_0.out HB.out) | (with_reducible refine Kd.C_alloc ?_ _) | (with_reducible refine Kd.C_drewN ?_ _) | (with_reducible refine Kd.C_drew ?_))); (case side4 => exact HC423_0.out); rintro e w' ⟨rfl, ⟨nd, rfl⟩⟩; (try first | exact ⟨rfl, _, World.drewN_drewN _ _ _⟩ | exact ⟨rfl, _, Eq.trans (World.drewN_drewN _ _ _) (congrArg (World.drewN _) (Nat.add_assoc _ _ _))⟩)))
                    repeat (go_quiet (first | (go_at_call 101; (with_reducible refine (spec_l4sameBytes.calls _ _ (rd_L1 l0_1 x5_2) _ _ (rd_L1 l1_1 x5_2) true _ ?side1 ?side2 ?side3 ?side4 A26.out).mono ?_); (case side1 => repeat (first | exact (Kd.C_below HR422_0.out HB.out) | (with_reducible refine Kd.C_alloc ?_ _) | (with_reducible refine Kd.C_drewN ?_ _) | (with_reducible refine Kd.C_drew ?_))); (case side2 => exact HC422_0.out); (case side3 => repeat (first | exact (Kd.C_below HR423_0.out HB.out) | (with_reducible refine Kd.C_alloc ?_ _) | (with_reducible refine Kd.C_drewN ?_ _) | (with_reducible refine Kd.C_drew ?_))); (case side4 => exact HC423_0.out); rintro e w' ⟨rfl, ⟨nd, rfl⟩⟩; (try first | exact ⟨rfl, _, World.drewN_drewN _ _ _⟩ | exact ⟨rfl, _, Eq.trans (World.drewN_drewN _ _ _) (congrArg (World.drewN _) (Nat.add_assoc _ _ _))⟩))); try go_wp2_with (first | (go_at_call 101; (with_reducible refine (spec_l4sameBytes.calls _ _ (rd_L1 l0_1 x5_2) _ _ (rd_L1 l1_1 x5_2) true _ ?side1 ?side2 ?side3 ?side4 A26.out).mono ?_); (case side1 => repeat (first | exact (Kd.C_below HR422_0.out HB.out) | (with_reducible refine Kd.C_alloc ?_ _) | (with_reducible refine Kd.C_drewN ?_ _) | (with_reducible refine Kd.C_drew ?_))); (case side2 => exact HC422_0.out); (case side3 => repeat (first | exact (Kd.C_below HR423_0.out HB.out) | (with_reducible refine Kd.C_alloc ?_ _) | (with_reducible refine Kd.C_drewN ?_ _) | (with_reducible refine Kd.C_drew ?_))); (case side4 => exact HC423_0.out); rintro e w' ⟨rfl, ⟨nd, rfl⟩⟩; (try first | exact ⟨rfl, _, World.drewN_drewN _ _ _⟩ | exact ⟨rfl, _, Eq.trans (World.drewN_drewN _ _ _) (congrArg (World.drewN _) (Nat.add_assoc _ _ _))⟩))))
                    go_roundg k2
                    case measure => have := HJ2.out; have := HK2.out; omega
                    case rel => exact ⟨(wrap64 (x5_2 + 1)), (by first | rfl | (simp; done) | (simp [*]; done)), H', ⟨by have := HJ2.out; have := HK2.out; omega⟩, ⟨by (with_reducible repeat (first | refine blk_drewN ?_ _ | refine blk_drew ?_ | refine blk_alloc ?_ _)); exact BK419.out⟩, ⟨by (with_reducible repeat (first | refine blk_drewN ?_ _ | refine blk_drew ?_ | refine blk_alloc ?_ _)); exact BK420.out⟩, ⟨by repeat (first | (with_reducible first | exact HB.out | apply below_alloc | apply pw_below_drewN | apply below_drew1 | refine below_set ?_ GE419.out | refine below_set ?_ GE420.out) | exact HB.out)⟩⟩
                  · replace c27 := Bool.eq_false_iff.mpr c27
                    subst c27
                    have H1 : (some false) = some r := by rw [if_neg (show ¬ (false = true) by decide)] at H; exact H
                    clear H
                    have H := H1
                    clear H1
                    obtain rfl := Option.some.inj H
                    have hnb31 := NB419_420.out
                    have hnc31 := NB420_419.out
                    have hcz32_0 : wr.cell? ⟨gb419, 0, none⟩ = some (.int .i64 a0_0) := (blk_cell BK419.out 0).trans rfl
                    have hcz32_1 : wr.cell? ⟨gb419, 1, none⟩ = some (.slice A0_1 l0_1.length c0_1) := (blk_cell BK419.out 1).trans rfl
                    have hcz32_2 : wr.cell? ⟨gb419, 2, none⟩ = some (.slice A0_2 l0_2.length c0_2) := (blk_cell BK419.out 2).trans rfl
                    have hcz32_3 : wr.cell? ⟨gb419, 3, none⟩ = some (.slice A0_3 l0_3.length c0_3) := (blk_cell BK419.out 3).trans rfl
                    have hfz32_0 := blk_frozen BK419.out 0
                    have hfz32_1 := blk_frozen BK419.out 1
                    have hfz32_2 := blk_frozen BK419.out 2
                    have hfz32_3 := blk_frozen BK419.out 3
                    have p422 : 0 ≤ (x5_2 : Int) := of_decide_eq_true (by first | (with_reducible assumption) | assumption)
                    have q422 : x5_2 < (l0_1.length : Int) := of_decide_eq_true (by first | (with_reducible assumption) | assumption)
                    obtain ⟨ad422, A422_0, c422_0, e422, hx422_0, hl422_0, hi422_0⟩ := at_L1 HR0_1.out x5_2 p422 q422
                    cases e422
                    replace hx422_0 := (HB.out.cell (World.block_lt_of_cell? w _ hx422_0)).trans hx422_0
                    have HR422_0 := Aside0.mk hi422_0
                    have HC422_0 := Aside0.mk hl422_0
                    clear hi422_0 hl422_0
                    replace p422 := eq_true p422
                    replace q422 := eq_true q422
                    have hcz33_0 : wr.cell? ⟨gb420, 0, none⟩ = some (.int .i64 a1_0) := (blk_cell BK420.out 0).trans rfl
                    have hcz33_1 : wr.cell? ⟨gb420, 1, none⟩ = some (.slice A1_1 l1_1.length c1_1) := (blk_cell BK420.out 1).trans rfl
                    have hcz33_2 : wr.cell? ⟨gb420, 2, none⟩ = some (.slice A1_2 l1_2.length c1_2) := (blk_cell BK420.out 2).trans rfl
                    have hcz33_3 : wr.cell? ⟨gb420, 3, none⟩ = some (.slice A1_3 l1_3.length c1_3) := (blk_cell BK420.out 3).trans rfl
                    have hfz33_0 := blk_frozen BK420.out 0
                    have hfz33_1 := blk_frozen BK420.out 1
                    have hfz33_2 := blk_frozen BK420.out 2
                    have hfz33_3 := blk_frozen BK420.out 3
                    have p423 : 0 ≤ (x5_2 : Int) := of_decide_eq_true (by first | (with_reducible assumption) | assumption)
                    have q423 : x5_2 < (l1_1.length : Int) := of_decide_eq_true (by first | (with_reducible assumption) | assumption)
                    obtain ⟨ad423, A423_0, c423_0, e423, hx423_0, hl423_0, hi423_0⟩ := at_L1 HR1_1.out x5_2 p423 q423
                    cases e423
                    replace hx423_0 := (HB.out.cell (World.block_lt_of_cell? w _ hx423_0)).trans hx423_0
                    have HR423_0 := Aside0.mk hi423_0
                    have HC423_0 := Aside0.mk hl423_0
                    clear hi423_0 hl423_0
                    replace p423 := eq_true p423
                    replace q423 := eq_true q423
                    go_wp2_with (first | (go_at_call 101; (with_reducible refine (spec_l4sameBytes.calls _ _ (rd_L1 l0_1 x5_2) _ _ (rd_L1 l1_1 x5_2) false _ ?side1 ?side2 ?side3 ?side4 A26.out).mono ?_); (case side1 => repeat (first | exact (Kd.C_below HR422_0.out HB.out) | (with_reducible refine Kd.C_alloc ?_ _) | (with_reducible refine Kd.C_drewN ?_ _) | (with_reducible refine Kd.C_drew ?_))); (case side2 => exact HC422_0.out); (case side3 => repeat (first | exact (Kd.C_below HR423_0.out HB.out) | (with_reducible refine Kd.C_alloc ?_ _) | (with_reducible refine Kd.C_drewN ?_ _) | (with_reducible refine Kd.C_drew ?_))); (case side4 => exact HC423_0.out); rintro e w' ⟨rfl, ⟨nd, rfl⟩⟩; (try first | exact ⟨rfl, _, World.drewN_drewN _ _ _⟩ | exact ⟨rfl, _, Eq.trans (World.drewN_drewN _ _ _) (congrArg (World.drewN _) (Nat.add_assoc _ _ _))⟩)))
                    repeat (go_quiet (first | (go_at_call 101; (with_reducible refine (spec_l4sameBytes.calls _ _ (rd_L1 l0_1 x5_2) _ _ (rd_L1 l1_1 x5_2) false _ ?side1 ?side2 ?side3 ?side4 A26.out).mono ?_); (case side1 => repeat (first | exact (Kd.C_below HR422_0.out HB.out) | (with_reducible refine Kd.C_alloc ?_ _) | (with_reducible refine Kd.C_drewN ?_ _) | (with_reducible refine Kd.C_drew ?_))); (case side2 => exact HC422_0.out); (case side3 => repeat (first | exact (Kd.C_below HR423_0.out HB.out) | (with_reducible refine Kd.C_alloc ?_ _) | (with_reducible refine Kd.C_drewN ?_ _) | (with_reducible refine Kd.C_drew ?_))); (case side4 => exact HC423_0.out); rintro e w' ⟨rfl, ⟨nd, rfl⟩⟩; (try first | exact ⟨rfl, _, World.drewN_drewN _ _ _⟩ | exact ⟨rfl, _, Eq.trans (World.drewN_drewN _ _ _) (congrArg (World.drewN _) (Nat.add_assoc _ _ _))⟩))); try go_wp2_with (first | (go_at_call 101; (with_reducible refine (spec_l4sameBytes.calls _ _ (rd_L1 l0_1 x5_2) _ _ (rd_L1 l1_1 x5_2) false _ ?side1 ?side2 ?side3 ?side4 A26.out).mono ?_); (case side1 => repeat (first | exact (Kd.C_below HR422_0.out HB.out) | (with_reducible refine Kd.C_alloc ?_ _) | (with_reducible refine Kd.C_drewN ?_ _) | (with_reducible refine Kd.C_drew ?_))); (case side2 => exact HC422_0.out); (case side3 => repeat (first | exact (Kd.C_below HR423_0.out HB.out) | (with_reducible refine Kd.C_alloc ?_ _) | (with_reducible refine Kd.C_drewN ?_ _) | (with_reducible refine Kd.C_drew ?_))); (case side4 => exact HC423_0.out); rintro e w' ⟨rfl, ⟨nd, rfl⟩⟩; (try first | exact ⟨rfl, _, World.drewN_drewN _ _ _⟩ | exact ⟨rfl, _, Eq.trans (World.drewN_drewN _ _ _) (congrArg (World.drewN _) (Nat.add_assoc _ _ _))⟩))))
                    go_ret
                    exact ⟨by first | rfl | (simp [errW_none, errW_some] <;> rfl) | (simp [*, errW_none, errW_some] <;> rfl), by repeat (first | (with_reducible first | exact HB.out | apply below_alloc | apply pw_below_drewN | apply below_drew1 | refine below_set ?_ GE419.out | refine below_set ?_ GE420.out) | exact HB.out)⟩
                · rw [if_neg c25] at H
                  exact absurd H (by simp)
              · rw [if_neg c24] at H
                exact absurd H (by simp)
            · rw [if_neg c23] at H
              have c23b0 : decide (x5_2 < (l0_1.length : Int)) = false := decide_eq_false c23
              clear c23
              have H' := Aside0.mk H
              clear H
              have hnb34 := NB419_420.out
              have hnc34 := NB420_419.out
              have hcz35_0 : wr.cell? ⟨gb419, 0, none⟩ = some (.int .i64 a0_0) := (blk_cell BK419.out 0).trans rfl
              have hcz35_1 : wr.cell? ⟨gb419, 1, none⟩ = some (.slice A0_1 l0_1.length c0_1) := (blk_cell BK419.out 1).trans rfl
              have hcz35_2 : wr.cell? ⟨gb419, 2, none⟩ = some (.slice A0_2 l0_2.length c0_2) := (blk_cell BK419.out 2).trans rfl
              have hcz35_3 : wr.cell? ⟨gb419, 3, none⟩ = some (.slice A0_3 l0_3.length c0_3) := (blk_cell BK419.out 3).trans rfl
              have hfz35_0 := blk_frozen BK419.out 0
              have hfz35_1 := blk_frozen BK419.out 1
              have hfz35_2 := blk_frozen BK419.out 2
              have hfz35_3 := blk_frozen BK419.out 3
              go_wp2
              repeat (go_quiet (fail); try go_wp2)
              go_loopg [6] k2 (fun kq v6 w' => ∃ (x6_3 : Int), v6 = .int .i64 x6_3 ∧ Aside0 (spec_l4sameSeg.l1 kq x6_3 a0_0 l0_1 l0_2 l0_3 a1_0 l1_1 l1_2 l1_3 = some r) ∧ Aside0 (kq ≤ k2) ∧ Aside0 (w'.heap[gb419]? = some (.cells #[.int .i64 a0_0, (.slice A0_1 l0_1.length c0_1), (.slice A0_2 l0_2.length c0_2), (.slice A0_3 l0_3.length c0_3)] 50 (0, 0))) ∧ Aside0 (w'.heap[gb420]? = some (.cells #[.int .i64 a1_0, (.slice A1_1 l1_1.length c1_1), (.slice A1_2 l1_2.length c1_2), (.slice A1_3 l1_3.length c1_3)] 50 (0, 0))) ∧ Aside0 (Below w.heap.size w w'))
              case atStart => exact ⟨(0), (by first | rfl | (simp; done) | (simp [*]; done)), H', ⟨Nat.le_refl _⟩, ⟨by (with_reducible repeat (first | refine blk_drewN ?_ _ | refine blk_drew ?_ | refine blk_alloc ?_ _)); exact BK419.out⟩, ⟨by (with_reducible repeat (first | refine blk_drewN ?_ _ | refine blk_drew ?_ | refine blk_alloc ?_ _)); exact BK420.out⟩, ⟨by repeat (first | (with_reducible first | exact HB.out | apply below_alloc | apply pw_below_drewN | apply below_drew1 | refine below_set ?_ GE419.out | refine below_set ?_ GE420.out) | exact HB.out)⟩⟩
              case round =>
                clear H'
                try clear c1
                try clear c2
                try clear p2
                try clear c3
                try clear c4
                try clear p4
                try clear q4
                try clear hx4
                try clear c6
                try clear c6b0
                try clear c6b1
                try clear p6
                try clear c7
                try clear c7b0
                try clear c7b1
                try clear c7b2
                try clear c9
                try clear c10
                try clear c13
                try clear c14
                try clear c16
                try clear c19
                try clear c22
                try clear c23
                try clear c23b0
                try clear c24
                try clear c24b0
                try clear c25
                try clear c25b0
                try clear c27
                try clear c28
                try clear c31
                try clear c34
                try clear hcz11_0
                try clear hcz11_1
                try clear hcz11_2
                try clear hcz11_3
                try clear hcz12_0
                try clear hcz12_1
                try clear hcz12_2
                try clear hcz12_3
                try clear hcz14_0
                try clear hcz14_1
                try clear hcz14_2
                try clear hcz14_3
                try clear hcz15_0
                try clear hcz15_1
                try clear hcz15_2
                try clear hcz15_3
                try clear hcz17_0
                try clear hcz17_1
                try clear hcz17_2
                try clear hcz17_3
                try clear hcz18_0
                try clear hcz18_1
                try clear hcz18_2
                try clear hcz18_3
                try clear hcz20_0
                try clear hcz20_1
                try clear hcz20_2
                try clear hcz20_3
                try clear hcz21_0
                try clear hcz21_1
                try clear hcz21_2
                try clear hcz21_3
                try clear hcz29_0
                try clear hcz29_1
                try clear hcz29_2
                try clear hcz29_3
                try clear hcz30_0
                try clear hcz30_1
                try clear hcz30_2
                try clear hcz30_3
                try clear hcz32_0
                try clear hcz32_1
                try clear hcz32_2
                try clear hcz32_3
                try clear hcz33_0
                try clear hcz33_1
                try clear hcz33_2
                try clear hcz33_3
                try clear hcz35_0
                try clear hcz35_1
                try clear hcz35_2
                try clear hcz35_3
                try clear hfz11_0
                try clear hfz11_1
                try clear hfz11_2
                try clear hfz11_3
                try clear hfz12_0
                try clear hfz12_1
                try clear hfz12_2
                try clear hfz12_3
                try clear hfz14_0
                try clear hfz14_1
                try clear hfz14_2
                try clear hfz14_3
                try clear hfz15_0
                try clear hfz15_1
                try clear hfz15_2
                try clear hfz15_3
                try clear hfz17_0
                try clear hfz17_1
                try clear hfz17_2
                try clear hfz17_3
                try clear hfz18_0
                try clear hfz18_1
                try clear hfz18_2
                try clear hfz18_3
                try clear hfz20_0
                try clear hfz20_1
                try clear hfz20_2
                try clear hfz20_3
                try clear hfz21_0
                try clear hfz21_1
                try clear hfz21_2
                try clear hfz21_3
                try clear hfz29_0
                try clear hfz29_1
                try clear hfz29_2
                try clear hfz29_3
                try clear hfz30_0
                try clear hfz30_1
                try clear hfz30_2
                try clear hfz30_3
                try clear hfz32_0
                try clear hfz32_1
                try clear hfz32_2
                try clear hfz32_3
                try clear hfz33_0
                try clear hfz33_1
                try clear hfz33_2
                try clear hfz33_3
                try clear hfz35_0
                try clear hfz35_1
                try clear hfz35_2
                try clear hfz35_3
                try clear hx422_0
                try clear hx423_0
                try clear p2
                try clear p422
                try clear p423
                try clear q422
                try clear q423
                obtain ⟨x6_3, rfl, HA, HK3, BK419, BK420, HB⟩ := hrel
                cases gk with
                | zero => exact absurd HA.out (by simp [spec_l4sameSeg.l1])
                | succ k3 =>
                  have H := HA.out
                  clear HA
                  simp only [spec_l4sameSeg.l1] at H
                  by_cases c36 : x6_3 < (l0_3.length : Int)
                  · rw [if_pos c36] at H
                    have c36b0 : decide (x6_3 < (l0_3.length : Int)) = true := decide_eq_true c36
                    clear c36
                    by_cases c37 : 0 ≤ x6_3
                    · rw [if_pos c37] at H
                      have c37b0 : decide (0 ≤ x6_3) = true := decide_eq_true c37
                      clear c37
                      by_cases c38 : x6_3 < (l1_3.length : Int)
                      · rw [if_pos c38] at H
                        have c38b0 : decide (x6_3 < (l1_3.length : Int)) = true := decide_eq_true c38
                        clear c38
                        replace H := Option.bind_eq_some_iff.mp H
                        obtain ⟨t427, A390, H⟩ := H
                        replace H : (if t427 = true then (spec_l4sameSeg.l1 k3 (wrap64 (x6_3 + 1)) a0_0 l0_1 l0_2 l0_3 a1_0 l1_1 l1_2 l1_3) else (some false)) = some r := H
                        have A39 := Aside0.mk A390
                        clear A390
                        by_cases c40 : t427 = true
                        · subst c40
                          have H1 : (spec_l4sameSeg.l1 k3 (wrap64 (x6_3 + 1)) a0_0 l0_1 l0_2 l0_3 a1_0 l1_1 l1_2 l1_3) = some r := by rw [if_pos rfl] at H; exact H
                          clear H
                          have H := H1
                          clear H1
                          have H' := Aside0.mk H
                          clear H
                          have hnb41 := NB419_420.out
                          have hnc41 := NB420_419.out
                          have hcz42_0 : wr.cell? ⟨gb419, 0, none⟩ = some (.int .i64 a0_0) := (blk_cell BK419.out 0).trans rfl
                          have hcz42_1 : wr.cell? ⟨gb419, 1, none⟩ = some (.slice A0_1 l0_1.length c0_1) := (blk_cell BK419.out 1).trans rfl
                          have hcz42_2 : wr.cell? ⟨gb419, 2, none⟩ = some (.slice A0_2 l0_2.length c0_2) := (blk_cell BK419.out 2).trans rfl
                          have hcz42_3 : wr.cell? ⟨gb419, 3, none⟩ = some (.slice A0_3 l0_3.length c0_3) := (blk_cell BK419.out 3).trans rfl
                          have hfz42_0 := blk_frozen BK419.out 0
                          have hfz42_1 := blk_frozen BK419.out 1
                          have hfz42_2 := blk_frozen BK419.out 2
                          have hfz42_3 := blk_frozen BK419.out 3
                          have p425 : 0 ≤ (x6_3 : Int) := of_decide_eq_true (by first | (with_reducible assumption) | assumption)
                          have q425 : x6_3 < (l0_3.length : Int) := of_decide_eq_true (by first | (with_reducible assumption) | assumption)
                          obtain ⟨ad425, A425_0, c425_0, e425, hx425_0, hl425_0, hi425_0⟩ := at_L3 HR0_3.out x6_3 p425 q425
                          cases e425
                          replace hx425_0 := (HB.out.cell (World.block_lt_of_cell? w _ hx425_0)).trans hx425_0
                          have HR425_0 := Aside0.mk hi425_0
                          have HC425_0 := Aside0.mk hl425_0
                          clear hi425_0 hl425_0
                          replace p425 := eq_true p425
                          replace q425 := eq_true q425
                          have hcz43_0 : wr.cell? ⟨gb420, 0, none⟩ = some (.int .i64 a1_0) := (blk_cell BK420.out 0).trans rfl
                          have hcz43_1 : wr.cell? ⟨gb420, 1, none⟩ = some (.slice A1_1 l1_1.length c1_1) := (blk_cell BK420.out 1).trans rfl
                          have hcz43_2 : wr.cell? ⟨gb420, 2, none⟩ = some (.slice A1_2 l1_2.length c1_2) := (blk_cell BK420.out 2).trans rfl
                          have hcz43_3 : wr.cell? ⟨gb420, 3, none⟩ = some (.slice A1_3 l1_3.length c1_3) := (blk_cell BK420.out 3).trans rfl
                          have hfz43_0 := blk_frozen BK420.out 0
                          have hfz43_1 := blk_frozen BK420.out 1
                          have hfz43_2 := blk_frozen BK420.out 2
                          have hfz43_3 := blk_frozen BK420.out 3
                          have p426 : 0 ≤ (x6_3 : Int) := of_decide_eq_true (by first | (with_reducible assumption) | assumption)
                          have q426 : x6_3 < (l1_3.length : Int) := of_decide_eq_true (by first | (with_reducible assumption) | assumption)
                          obtain ⟨ad426, A426_0, c426_0, e426, hx426_0, hl426_0, hi426_0⟩ := at_L3 HR1_3.out x6_3 p426 q426
                          cases e426
                          replace hx426_0 := (HB.out.cell (World.block_lt_of_cell? w _ hx426_0)).trans hx426_0
                          have HR426_0 := Aside0.mk hi426_0
                          have HC426_0 := Aside0.mk hl426_0
                          clear hi426_0 hl426_0
                          replace p426 := eq_true p426
                          replace q426 := eq_true q426
                          go_wp2_with (first | (go_at_call 171; (with_reducible refine (spec_l1same.calls k3 _ _ (rd_L3 l0_3 x6_3) _ _ (rd_L3 l1_3 x6_3) true _ ?side1 ?side2 ?side3 ?side4 A39.out).mono ?_); (case side1 => repeat (first | exact (Kd.C_below HR425_0.out HB.out) | (with_reducible refine Kd.C_alloc ?_ _) | (with_reducible refine Kd.C_drewN ?_ _) | (with_reducible refine Kd.C_drew ?_))); (case side2 => exact HC425_0.out); (case side3 => repeat (first | exact (Kd.C_below HR426_0.out HB.out) | (with_reducible refine Kd.C_alloc ?_ _) | (with_reducible refine Kd.C_drewN ?_ _) | (with_reducible refine Kd.C_drew ?_))); (case side4 => exact HC426_0.out); rintro e w' ⟨rfl, ⟨nd, rfl⟩⟩; (try first | exact ⟨rfl, _, World.drewN_drewN _ _ _⟩ | exact ⟨rfl, _, Eq.trans (World.drewN_drewN _ _ _) (congrArg (World.drewN _) (Nat.add_assoc _ _ _))⟩)))
                          repeat (go_quiet (first | (go_at_call 171; (with_reducible refine (spec_l1same.calls k3 _ _ (rd_L3 l0_3 x6_3) _ _ (rd_L3 l1_3 x6_3) true _ ?side1 ?side2 ?side3 ?side4 A39.out).mono ?_); (case side1 => repeat (first | exact (Kd.C_below HR425_0.out HB.out) | (with_reducible refine Kd.C_alloc ?_ _) | (with_reducible refine Kd.C_drewN ?_ _) | (with_reducible refine Kd.C_drew ?_))); (case side2 => exact HC425_0.out); (case side3 => repeat (first | exact (Kd.C_below HR426_0.out HB.out) | (with_reducible refine Kd.C_alloc ?_ _) | (with_reducible refine Kd.C_drewN ?_ _) | (with_reducible refine Kd.C_drew ?_))); (case side4 => exact HC426_0.out); rintro e w' ⟨rfl, ⟨nd, rfl⟩⟩; (try first | exact ⟨rfl, _, World.drewN_drewN _ _ _⟩ | exact ⟨rfl, _, Eq.trans (World.drewN_drewN _ _ _) (congrArg (World.drewN _) (Nat.add_assoc _ _ _))⟩))); try go_wp2_with (first | (go_at_call 171; (with_reducible refine (spec_l1same.calls k3 _ _ (rd_L3 l0_3 x6_3) _ _ (rd_L3 l1_3 x6_3) true _ ?side1 ?side2 ?side3 ?side4 A39.out).mono ?_); (case side1 => repeat (first | exact (Kd.C_below HR425_0.out HB.out) | (with_reducible refine Kd.C_alloc ?_ _) | (with_reducible refine Kd.C_drewN ?_ _) | (with_reducible refine Kd.C_drew ?_))); (case side2 => exact HC425_0.out); (case side3 => repeat (first | exact (Kd.C_below HR426_0.out HB.out) | (with_reducible refine Kd.C_alloc ?_ _) | (with_reducible refine Kd.C_drewN ?_ _) | (with_reducible refine Kd.C_drew ?_))); (case side4 => exact HC426_0.out); rintro e w' ⟨rfl, ⟨nd, rfl⟩⟩; (try first | exact ⟨rfl, _, World.drewN_drewN _ _ _⟩ | exact ⟨rfl, _, Eq.trans (World.drewN_drewN _ _ _) (congrArg (World.drewN _) (Nat.add_assoc _ _ _))⟩))))
                          go_roundg k3
                          case measure => have := HJ2.out; have := HK2.out; have := HK3.out; omega
                          case rel => exact ⟨(wrap64 (x6_3 + 1)), (by first | rfl | (simp; done) | (simp [*]; done)), H', ⟨by have := HJ2.out; have := HK2.out; have := HK3.out; omega⟩, ⟨by (with_reducible repeat (first | refine blk_drewN ?_ _ | refine blk_drew ?_ | refine blk_alloc ?_ _)); exact BK419.out⟩, ⟨by (with_reducible repeat (first | refine blk_drewN ?_ _ | refine blk_drew ?_ | refine blk_alloc ?_ _)); exact BK420.out⟩, ⟨by repeat (first | (with_reducible first | exact HB.out | apply below_alloc | apply pw_below_drewN | apply below_drew1 | refine below_set ?_ GE419.out | refine below_set ?_ GE420.out) | exact HB.out)⟩⟩
                        · replace c40 := Bool.eq_false_iff.mpr c40
                          subst c40
                          have H1 : (some false) = some r := by rw [if_neg (show ¬ (false = true) by decide)] at H; exact H
                          clear H
                          have H := H1
                          clear H1
                          obtain rfl := Option.some.inj H
                          have hnb44 := NB419_420.out
                          have hnc44 := NB420_419.out
                          have hcz45_0 : wr.cell? ⟨gb419, 0, none⟩ = some (.int .i64 a0_0) := (blk_cell BK419.out 0).trans rfl
                          have hcz45_1 : wr.cell? ⟨gb419, 1, none⟩ = some (.slice A0_1 l0_1.length c0_1) := (blk_cell BK419.out 1).trans rfl
                          have hcz45_2 : wr.cell? ⟨gb419, 2, none⟩ = some (.slice A0_2 l0_2.length c0_2) := (blk_cell BK419.out 2).trans rfl
                          have hcz45_3 : wr.cell? ⟨gb419, 3, none⟩ = some (.slice A0_3 l0_3.length c0_3) := (blk_cell BK419.out 3).trans rfl
                          have hfz45_0 := blk_frozen BK419.out 0
                          have hfz45_1 := blk_frozen BK419.out 1
                          have hfz45_2 := blk_frozen BK419.out 2
                          have hfz45_3 := blk_frozen BK419.out 3
                          have p425 : 0 ≤ (x6_3 : Int) := of_decide_eq_true (by first | (with_reducible assumption) | assumption)
                          have q425 : x6_3 < (l0_3.length : Int) := of_decide_eq_true (by first | (with_reducible assumption) | assumption)
                          obtain ⟨ad425, A425_0, c425_0, e425, hx425_0, hl425_0, hi425_0⟩ := at_L3 HR0_3.out x6_3 p425 q425
                          cases e425
                          replace hx425_0 := (HB.out.cell (World.block_lt_of_cell? w _ hx425_0)).trans hx425_0
                          have HR425_0 := Aside0.mk hi425_0
                          have HC425_0 := Aside0.mk hl425_0
                          clear hi425_0 hl425_0
                          replace p425 := eq_true p425
                          replace q425 := eq_true q425
                          have hcz46_0 : wr.cell? ⟨gb420, 0, none⟩ = some (.int .i64 a1_0) := (blk_cell BK420.out 0).trans rfl
                          have hcz46_1 : wr.cell? ⟨gb420, 1, none⟩ = some (.slice A1_1 l1_1.length c1_1) := (blk_cell BK420.out 1).trans rfl
                          have hcz46_2 : wr.cell? ⟨gb420, 2, none⟩ = some (.slice A1_2 l1_2.length c1_2) := (blk_cell BK420.out 2).trans rfl
                          have hcz46_3 : wr.cell? ⟨gb420, 3, none⟩ = some (.slice A1_3 l1_3.length c1_3) := (blk_cell BK420.out 3).trans rfl
                          have hfz46_0 := blk_frozen BK420.out 0
                          have hfz46_1 := blk_frozen BK420.out 1
                          have hfz46_2 := blk_frozen BK420.out 2
                          have hfz46_3 := blk_frozen BK420.out 3
                          have p426 : 0 ≤ (x6_3 : Int) := of_decide_eq_true (by first | (with_reducible assumption) | assumption)
                          have q426 : x6_3 < (l1_3.length : Int) := of_decide_eq_true (by first | (with_reducible assumption) | assumption)
                          obtain ⟨ad426, A426_0, c426_0, e426, hx426_0, hl426_0, hi426_0⟩ := at_L3 HR1_3.out x6_3 p426 q426
                          cases e426
                          replace hx426_0 := (HB.out.cell (World.block_lt_of_cell? w _ hx426_0)).trans hx426_0
                          have HR426_0 := Aside0.mk hi426_0
                          have HC426_0 := Aside0.mk hl426_0
                          clear hi426_0 hl426_0
                          replace p426 := eq_true p426
                          replace q426 := eq_true q426
                          go_wp2_with (first | (go_at_call 171; (with_reducible refine (spec_l1same.calls k3 _ _ (rd_L3 l0_3 x6_3) _ _ (rd_L3 l1_3 x6_3) false _ ?side1 ?side2 ?side3 ?side4 A39.out).mono ?_); (case side1 => repeat (first | exact (Kd.C_below HR425_0.out HB.out) | (with_reducible refine Kd.C_alloc ?_ _) | (with_reducible refine Kd.C_drewN ?_ _) | (with_reducible refine Kd.C_drew ?_))); (case side2 => exact HC425_0.out); (case side3 => repeat (first | exact (Kd.C_below HR426_0.out HB.out) | (with_reducible refine Kd.C_alloc ?_ _) | (with_reducible refine Kd.C_drewN ?_ _) | (with_reducible refine Kd.C_drew ?_))); (case side4 => exact HC426_0.out); rintro e w' ⟨rfl, ⟨nd, rfl⟩⟩; (try first | exact ⟨rfl, _, World.drewN_drewN _ _ _⟩ | exact ⟨rfl, _, Eq.trans (World.drewN_drewN _ _ _) (congrArg (World.drewN _) (Nat.add_assoc _ _ _))⟩)))
                          repeat (go_quiet (first | (go_at_call 171; (with_reducible refine (spec_l1same.calls k3 _ _ (rd_L3 l0_3 x6_3) _ _ (rd_L3 l1_3 x6_3) false _ ?side1 ?side2 ?side3 ?side4 A39.out).mono ?_); (case side1 => repeat (first | exact (Kd.C_below HR425_0.out HB.out) | (with_reducible refine Kd.C_alloc ?_ _) | (with_reducible refine Kd.C_drewN ?_ _) | (with_reducible refine Kd.C_drew ?_))); (case side2 => exact HC425_0.out); (case side3 => repeat (first | exact (Kd.C_below HR426_0.out HB.out) | (with_reducible refine Kd.C_alloc ?_ _) | (with_reducible refine Kd.C_drewN ?_ _) | (with_reducible refine Kd.C_drew ?_))); (case side4 => exact HC426_0.out); rintro e w' ⟨rfl, ⟨nd, rfl⟩⟩; (try first | exact ⟨rfl, _, World.drewN_drewN _ _ _⟩ | exact ⟨rfl, _, Eq.trans (World.drewN_drewN _ _ _) (congrArg (World.drewN _) (Nat.add_assoc _ _ _))⟩))); try go_wp2_with (first | (go_at_call 171; (with_reducible refine (spec_l1same.calls k3 _ _ (rd_L3 l0_3 x6_3) _ _ (rd_L3 l1_3 x6_3) false _ ?side1 ?side2 ?side3 ?side4 A39.out).mono ?_); (case side1 => repeat (first | exact (Kd.C_below HR425_0.out HB.out) | (with_reducible refine Kd.C_alloc ?_ _) | (with_reducible refine Kd.C_drewN ?_ _) | (with_reducible refine Kd.C_drew ?_))); (case side2 => exact HC425_0.out); (case side3 => repeat (first | exact (Kd.C_below HR426_0.out HB.out) | (with_reducible refine Kd.C_alloc ?_ _) | (with_reducible refine Kd.C_drewN ?_ _) | (with_reducible refine Kd.C_drew ?_))); (case side4 => exact HC426_0.out); rintro e w' ⟨rfl, ⟨nd, rfl⟩⟩; (try first | exact ⟨rfl, _, World.drewN_drewN _ _ _⟩ | exact ⟨rfl, _, Eq.trans (World.drewN_drewN _ _ _) (congrArg (World.drewN _) (Nat.add_assoc _ _ _))⟩))))
                          go_ret
                          exact ⟨by first | rfl | (simp [errW_none, errW_some] <;> rfl) | (simp [*, errW_none, errW_some] <;> rfl), by repeat (first | (with_reducible first | exact HB.out | apply below_alloc | apply pw_below_drewN | apply below_drew1 | refine below_set ?_ GE419.out | refine below_set ?_ GE420.out) | exact HB.out)⟩
                      · rw [if_neg c38] at H
                        exact absurd H (by simp)
                    · rw [if_neg c37] at H
                      exact absurd H (by simp)
                  · rw [if_neg c36] at H
                    have c36b0 : decide (x6_3 < (l0_3.length : Int)) = false := decide_eq_false c36
                    clear c36
                    obtain rfl := Option.some.inj H
                    have hnb47 := NB419_420.out
                    have hnc47 := NB420_419.out
                    have hcz48_0 : wr.cell? ⟨gb419, 0, none⟩ = some (.int .i64 a0_0) := (blk_cell BK419.out 0).trans rfl
                    have hcz48_1 : wr.cell? ⟨gb419, 1, none⟩ = some (.slice A0_1 l0_1.length c0_1) := (blk_cell BK419.out 1).trans rfl
                    have hcz48_2 : wr.cell? ⟨gb419, 2, none⟩ = some (.slice A0_2 l0_2.length c0_2) := (blk_cell BK419.out 2).trans rfl
                    have hcz48_3 : wr.cell? ⟨gb419, 3, none⟩ = some (.slice A0_3 l0_3.length c0_3) := (blk_cell BK419.out 3).trans rfl
                    have hfz48_0 := blk_frozen BK419.out 0
                    have hfz48_1 := blk_frozen BK419.out 1
                    have hfz48_2 := blk_frozen BK419.out 2
                    have hfz48_3 := blk_frozen BK419.out 3
                    go_wp2
                    repeat (go_quiet (fail); try go_wp2)
                    go_ret
                    exact ⟨by first | rfl | (simp [errW_none, errW_some] <;> rfl) | (simp [*, errW_none, errW_some] <;> rfl), by repeat (first | (with_reducible first | exact HB.out | apply below_alloc | apply pw_below_drewN | apply below_drew1 | refine below_set ?_ GE419.out | refine below_set ?_ GE420.out) | exact HB.out)⟩
def spec_l4valid.f (k : Nat) (a0_0 : Int) (l0_1 : List (List Int)) (l0_2 : List Int) (l0_3 : List (List Int)) : Option (Bool) := (spec_l4fits.f k a0_0 l0_1).bind fun t429 => (if t429 = true then ((spec_l4build.f k a0_0 l0_1).bind fun bt430 => ((spec_l4sameSeg.f k a0_0 l0_1 l0_2 l0_3 bt430.1 bt430.2.1 bt430.2.2.1 bt430.2.2.2).bind fun t440 => (some t440))) else (some false))
def spec_l4valid.T3 : Bool × List (List Nat × List Nat) := (true, [([], []), ([], []), ([1], [1]), ([], []), ([3], [3]), ([2, 4], [2, 4]), ([0, 5, 5], [0, 5]), ([6, 6, 0, 1, 2, 3, 4, 5, 6], [6])])
def spec_l4valid.B3 : List Nat := [0, 0, 2, 0, 8, 30, 63, 127]
theorem spec_l4valid.tab3 : rtab .any (opsOf Try.f106 3) = spec_l4valid.T3 := by kernel_rfl
theorem spec_l4valid.bits3 : waitsOk spec_l4valid.T3.2 spec_l4valid.B3 = true := by kernel_rfl
set_option maxHeartbeats 8000000 in
set_option maxRecDepth 100000 in
theorem spec_l4valid.calls (k : Nat) (a0_0 : Int) (A0_1 : Option Addr) (c0_1 : Nat) (l0_1 : List (List Int)) (A0_2 : Option Addr) (c0_2 : Nat) (l0_2 : List Int) (A0_3 : Option Addr) (c0_3 : Nat) (l0_3 : List (List Int)) (r : Bool) (w : World) (hr0_1 : Kd.C (Kd.slice 5 (Kd.int .u8)) w A0_1 l0_1.length l0_1) (hc0_1 : l0_1.length ≤ c0_1) (hr0_2 : Kd.C (Kd.int .i64) w A0_2 l0_2.length l0_2) (hc0_2 : l0_2.length ≤ c0_2) (hr0_3 : Kd.C (Kd.slice 3 (Kd.int .i64)) w A0_3 l0_3.length l0_3) (hc0_3 : l0_3.length ≤ c0_3) (h : spec_l4valid.f k a0_0 l0_1 l0_2 l0_3 = some r) :
    Calls Try.prog 106 #[.agg #[.int .i64 a0_0, .slice A0_1 l0_1.length c0_1, .slice A0_2 l0_2.length c0_2, .slice A0_3 l0_3.length c0_3]] w fun e w' => e = .returned (.bool r) ∧ Below w.heap.size w w' := by
  have hu50 := Try.underlying50
  have HR0_1 := Aside0.mk hr0_1
  have HC0_1 := Aside0.mk hc0_1
  clear hr0_1 hc0_1
  have HR0_2 := Aside0.mk hr0_2
  have HC0_2 := Aside0.mk hc0_2
  clear hr0_2 hc0_2
  have HR0_3 := Aside0.mk hr0_3
  have HC0_3 := Aside0.mk hc0_3
  clear hr0_3 hc0_3
  have HB := Aside0.mk (Below.refl w.heap.size w)
  have H : ((spec_l4fits.f k a0_0 l0_1).bind fun t429 => (if t429 = true then ((spec_l4build.f k a0_0 l0_1).bind fun bt430 => ((spec_l4sameSeg.f k a0_0 l0_1 l0_2 l0_3 bt430.1 bt430.2.1 bt430.2.2.1 bt430.2.2.2).bind fun t440 => (some t440))) else (some false))) = some r := h
  clear h
  replace H := Option.bind_eq_some_iff.mp H
  obtain ⟨t429, A20, H⟩ := H
  replace H : (if t429 = true then ((spec_l4build.f k a0_0 l0_1).bind fun bt430 => ((spec_l4sameSeg.f k a0_0 l0_1 l0_2 l0_3 bt430.1 bt430.2.1 bt430.2.2.1 bt430.2.2.2).bind fun t440 => (some t440))) else (some false)) = some r := H
  have A2 := Aside0.mk A20
  clear A20
  by_cases c3 : t429 = true
  · subst c3
    have H1 : ((spec_l4build.f k a0_0 l0_1).bind fun bt430 => ((spec_l4sameSeg.f k a0_0 l0_1 l0_2 l0_3 bt430.1 bt430.2.1 bt430.2.2.1 bt430.2.2.2).bind fun t440 => (some t440))) = some r := by rw [if_pos rfl] at H; exact H
    clear H
    have H := H1
    clear H1
    replace H := Option.bind_eq_some_iff.mp H
    obtain ⟨⟨t430, t431, t434, t437⟩, A40, H⟩ := H
    replace H : ((spec_l4sameSeg.f k a0_0 l0_1 l0_2 l0_3 t430 t431 t434 t437).bind fun t440 => (some t440)) = some r := H
    have A4 := Aside0.mk A40
    clear A40
    replace H := Option.bind_eq_some_iff.mp H
    obtain ⟨t440, A50, H⟩ := H
    replace H : (some t440) = some r := H
    have A5 := Aside0.mk A50
    clear A50
    obtain rfl := Option.some.inj H
    go_enter Try.func106, Try.ntmps106
    try go_wp2_with (first | ((with_reducible refine gate_dst (N := 1) rfl ?_); refine box_event ?hg (N := 1) ?hd (cs := #[.int .i64 a0_0, .slice A0_1 l0_1.length c0_1, .slice A0_2 l0_2.length c0_2, .slice A0_3 l0_3.length c0_3]) (t := 50) ?hr ?_; (case hd => rfl); (case hg => rfl); (case hr => first | (go_simp; done) | (go_simp; rfl)); intro gb428 hg w6 hbox hb; have n0_ := Aside0.mk (below_step (by repeat (first | (with_reducible first | exact HB.out | apply below_alloc | apply pw_below_drewN | apply below_drew1) | exact HB.out)) hb); have n1_ := Aside0.mk (hbox); have n2_ := Aside0.mk ((by rw [hg]; exact (below_size (by repeat (first | (with_reducible first | exact HB.out | apply below_alloc | apply pw_below_drewN | apply below_drew1) | exact HB.out))) : w.heap.size ≤ gb428)); have n3_ := Aside0.mk ((by rw [hg]; exact (below_size (by repeat (first | (with_reducible first | exact HB.out | apply below_alloc | apply pw_below_drewN | apply below_drew1) | exact HB.out))) : w.heap.size ≤ gb428)); clear HB; have HB := n0_; have BK428 := n1_; have GW428 := n2_; have GE428 := n3_; clear n0_ n1_ n2_ n3_; clear hb hbox hg; have hcz7_0 : w6.cell? ⟨gb428, 0, none⟩ = some (.int .i64 a0_0) := (blk_cell BK428.out 0).trans rfl; have hcz7_1 : w6.cell? ⟨gb428, 1, none⟩ = some (.slice A0_1 l0_1.length c0_1) := (blk_cell BK428.out 1).trans rfl; have hcz7_2 : w6.cell? ⟨gb428, 2, none⟩ = some (.slice A0_2 l0_2.length c0_2) := (blk_cell BK428.out 2).trans rfl; have hcz7_3 : w6.cell? ⟨gb428, 3, none⟩ = some (.slice A0_3 l0_3.length c0_3) := (blk_cell BK428.out 3).trans rfl; have hfz7_0 := blk_frozen BK428.out 0; have hfz7_1 := blk_frozen BK428.out 1; have hfz7_2 := blk_frozen BK428.out 2; have hfz7_3 := blk_frozen BK428.out 3) | ((with_reducible refine gate_callee (f := 91) rfl ?_); refine goesL_ (some 7) rfl rfl Try.func91 (by kernel_rfl) rfl #[.int .i64 a0_0, .slice A0_1 l0_1.length c0_1] rfl (by (try simp only [List.map_toArray, List.map_cons, List.map_nil]); first | done | rfl | (simp only [List.length_drop, List.length_take]; rfl)) ?_; (with_reducible refine (spec_l4fits.calls k a0_0 _ _ l0_1 true _ ?side1 ?side2 A2.out).mono ?_); (case side1 => repeat (first | exact (Kd.C_below HR0_1.out HB.out) | (with_reducible refine Kd.C_alloc ?_ _) | (with_reducible refine Kd.C_drewN ?_ _) | (with_reducible refine Kd.C_drew ?_))); (case side2 => exact HC0_1.out); rintro e w' ⟨rfl, ⟨nd, rfl⟩⟩; refine ⟨_, rfl, ?_⟩))
    (try (rw [drewN_self w6]; generalize hq_ : World.drewN w6 _ = w6; have n0_ : Aside0 (w6.heap[gb428]? = some (.cells #[.int .i64 a0_0, .slice A0_1 l0_1.length c0_1, .slice A0_2 l0_2.length c0_2, .slice A0_3 l0_3.length c0_3] 50 (0, 0))) := ⟨by rw [← hq_]; exact (by (with_reducible repeat (first | refine blk_drewN ?_ _ | refine blk_drew ?_ | refine blk_alloc ?_ _)); exact BK428.out)⟩; have n1_ : Aside0 (Below w.heap.size w w6) := ⟨by rw [← hq_]; exact (by repeat (first | (with_reducible first | exact HB.out | apply below_alloc | apply pw_below_drewN | apply below_drew1 | refine below_set ?_ GE428.out) | exact HB.out))⟩; clear BK428 HB hq_; have BK428 := n0_; have HB := n1_; clear n0_ n1_))
    have n0_ := Aside0.mk (blk_drew BK428.out)
    have n1_ := Aside0.mk (below_drew1 HB.out)
    clear BK428
    clear HB
    have BK428 := n0_
    have HB := n1_
    clear n0_ n1_
    refine start_ (n := 8) (S := fun w' => w'.cell? ⟨gb428, 0, none⟩ = some (.int .i64 a0_0) ∧ w'.cell? ⟨gb428, 1, none⟩ = some (.slice A0_1 l0_1.length c0_1) ∧ w'.cell? ⟨gb428, 2, none⟩ = some (.slice A0_2 l0_2.length c0_2) ∧ w'.cell? ⟨gb428, 3, none⟩ = some (.slice A0_3 l0_3.length c0_3)) (ds := []) #[false, false, false, false, false, false, false, false] (by kernel_rfl) rfl rfl ⟨(blk_cell BK428.out 0).trans rfl, (blk_cell BK428.out 1).trans rfl, (blk_cell BK428.out 2).trans rfl, (blk_cell BK428.out 3).trans rfl⟩ (fun hHeld => ?_); refine with_tabW spec_l4valid.tab3 spec_l4valid.bits3 (fun HT_ HW_ => ?_)
    generalize w6.drew = w8 at BK428 HB hHeld ⊢
    refine pure_ (i := 1) (N := some 10) (v := ?_) (a' := ?_) #[false, true, false, false, false, false, false, false] rfl rfl (any_of HT_.out (by kernel_rfl)) (fun _ _ _ h => h) (Or.inl ⟨by rfl, ?_⟩) ?_ ?_
    rotate_left
    · intro w'
      go_simp
      with_reducible rfl
    rotate_left
    · simp only [Act.put, List.setIfInBounds_toArray, List.set_cons_zero, List.set_cons_succ, i64_w, i32_w]
      rfl
    refine pure_ (i := 3) (N := some 12) (v := ?_) (a' := ?_) #[false, true, false, true, false, false, false, false] rfl rfl (any_of HT_.out (by kernel_rfl)) (fun _ _ _ h => h) (Or.inl ⟨by rfl, ?_⟩) ?_ ?_
    rotate_left
    · intro w'
      go_simp
      with_reducible rfl
    rotate_left
    · simp only [Act.put, List.setIfInBounds_toArray, List.set_cons_zero, List.set_cons_succ, i64_w, i32_w]
      rfl
    refine take_ (i := 0) (N := some 9) (v := ?_) (a' := ?_) #[true, true, false, true, false, false, false, false] rfl rfl (take_ofW HT_.out HW_.out (by kernel_rfl)) (fun _ _ _ h => h) (Or.inl ⟨by rfl, ?_⟩) hHeld ?_ ?_
    rotate_left
    · rintro w' ⟨s0, s1, s2, s3⟩
      go_simp
      with_reducible rfl
    rotate_left
    · simp only [Act.put, List.setIfInBounds_toArray, List.set_cons_zero, List.set_cons_succ, i64_w, i32_w]
      rfl
    refine take_ (i := 2) (N := some 11) (v := ?_) (a' := ?_) #[true, true, true, true, false, false, false, false] rfl rfl (take_ofW HT_.out HW_.out (by kernel_rfl)) (fun _ _ _ h => h) (Or.inl ⟨by rfl, ?_⟩) hHeld ?_ ?_
    rotate_left
    · rintro w' ⟨s0, s1, s2, s3⟩
      go_simp
      with_reducible rfl
    rotate_left
    · simp only [Act.put, List.setIfInBounds_toArray, List.set_cons_zero, List.set_cons_succ, i64_w, i32_w]
      rfl
    refine take_ (i := 4) (N := some 13) (v := ?_) (a' := ?_) #[true, true, true, true, true, false, false, false] rfl rfl (take_ofW HT_.out HW_.out (by kernel_rfl)) (fun _ _ _ h => h) (Or.inl ⟨by rfl, ?_⟩) hHeld ?_ ?_
    rotate_left
    · rintro w' ⟨s0, s1, s2, s3⟩
      go_simp
      with_reducible rfl
    rotate_left
    · simp only [Act.put, List.setIfInBounds_toArray, List.set_cons_zero, List.set_cons_succ, i64_w, i32_w]
      rfl
    refine one_ (i := 5) (N := some 14) #[true, true, true, true, true, true, false, false] rfl rfl (one_of HT_.out (by kernel_rfl)) (by decide) (fun K hK => ?_)
    refine goes_ Try.func92 (by kernel_rfl) rfl #[.int .i64 a0_0, .slice A0_1 l0_1.length c0_1] (by rfl) rfl rfl (by (try simp only [List.map_toArray, List.map_cons, List.map_nil]); first | done | rfl | (simp only [List.length_drop, List.length_take]; rfl)) ?_
    with_reducible refine (spec_l4build.calls k a0_0 _ _ l0_1 t430 t431 t434 t437 _ ?side1 ?side2 A4.out).mono ?_
    (case side1 => repeat (first | exact (Kd.C_below HR0_1.out HB.out) | (with_reducible refine Kd.C_alloc ?_ _) | (with_reducible refine Kd.C_drewN ?_ _) | (with_reducible refine Kd.C_drew ?_)))
    (case side2 => exact HC0_1.out)
    rintro e w9 ⟨v432, v435, v438, rfl, ho0, ho1, ho2, hb⟩
    refine ⟨_, rfl, ?_⟩
    have n0_ := Aside0.mk (Kd.S_lower ho0 (below_size (by repeat (first | (with_reducible first | exact HB.out | apply below_alloc | apply pw_below_drewN | apply below_drew1 | refine below_set ?_ GE428.out) | exact HB.out))))
    have n1_ := Aside0.mk (Kd.R_lower ho1 (below_size (by repeat (first | (with_reducible first | exact HB.out | apply below_alloc | apply pw_below_drewN | apply below_drew1 | refine below_set ?_ GE428.out) | exact HB.out))))
    have n2_ := Aside0.mk (Kd.S_lower ho2 (below_size (by repeat (first | (with_reducible first | exact HB.out | apply below_alloc | apply pw_below_drewN | apply below_drew1 | refine below_set ?_ GE428.out) | exact HB.out))))
    have n3_ := Aside0.mk (blk_below (g := gb428) (o := .cells #[.int .i64 a0_0, .slice A0_1 l0_1.length c0_1, .slice A0_2 l0_2.length c0_2, .slice A0_3 l0_3.length c0_3] 50 (0, 0)) (by (with_reducible repeat (first | refine blk_drewN ?_ _ | refine blk_drew ?_ | refine blk_alloc ?_ _)); exact BK428.out) hb)
    have n4_ := Aside0.mk (below_step (by repeat (first | (with_reducible first | exact HB.out | apply below_alloc | apply pw_below_drewN | apply below_drew1 | refine below_set ?_ GE428.out) | exact HB.out)) hb)
    clear BK428
    clear HB
    have HO433 := n0_
    have HO436 := n1_
    have HO439 := n2_
    have BK428 := n3_
    have HB := n4_
    clear n0_ n1_ n2_ n3_ n4_
    (try clear hb)
    (try clear hb2)
    (try clear hk)
    (try clear hi)
    (try clear ho0)
    (try clear ho1)
    (try clear ho2)
    obtain ⟨Ao10, co10, eo10⟩ := Kd.S_slice HO433.out
    (first | subst eo10 | (injection eo10 with f1_ f2_ f3_; have f4_ := f1_.symm; have f5_ := f3_.symm; clear f1_ f2_ f3_; subst f4_; subst f5_))
    obtain ⟨Ao11, co11, eo11⟩ := Kd.R_slice HO436.out
    (first | subst eo11 | (injection eo11 with f1_ f2_ f3_; have f4_ := f1_.symm; have f5_ := f3_.symm; clear f1_ f2_ f3_; subst f4_; subst f5_))
    obtain ⟨Ao12, co12, eo12⟩ := Kd.S_slice HO439.out
    (first | subst eo12 | (injection eo12 with f1_ f2_ f3_; have f4_ := f1_.symm; have f5_ := f3_.symm; clear f1_ f2_ f3_; subst f4_; subst f5_))
    refine hK.out _ _ ⟨(blk_cell BK428.out 0).trans rfl, (blk_cell BK428.out 1).trans rfl, (blk_cell BK428.out 2).trans rfl, (blk_cell BK428.out 3).trans rfl⟩ (fun hHeld => ?_)
    clear hK K
    refine norm_ (a' := ?_) ?_ ?_
    rotate_left
    · show Act.put _ (some 14) _ = _
      simp only [Act.put, List.setIfInBounds_toArray, List.set_cons_zero, List.set_cons_succ, i64_w, i32_w]
      rfl
    refine one_ (i := 6) (N := some 15) #[true, true, true, true, true, true, true, false] rfl rfl (one_of HT_.out (by kernel_rfl)) (by decide) (fun K hK => ?_)
    refine goes_ Try.func147 (by kernel_rfl) rfl #[.agg #[.int .i64 a0_0, .slice A0_1 l0_1.length c0_1, .slice A0_2 l0_2.length c0_2, .slice A0_3 l0_3.length c0_3], .agg #[.int .i64 t430, .slice Ao10 t431.length co10, .slice Ao11 t434.length co11, .slice Ao12 t437.length co12]] (by rfl) rfl rfl (by (try simp only [List.map_toArray, List.map_cons, List.map_nil]); first | done | rfl | (simp only [List.length_drop, List.length_take]; rfl)) ?_
    with_reducible refine (spec_l4sameSeg.calls k a0_0 _ _ l0_1 _ _ l0_2 _ _ l0_3 t430 _ _ t431 _ _ t434 _ _ t437 t440 _ ?side1 ?side2 ?side3 ?side4 ?side5 ?side6 ?side7 ?side8 ?side9 ?side10 ?side11 ?side12 A5.out).mono ?_
    (case side1 => repeat (first | exact (Kd.C_below HR0_1.out HB.out) | (with_reducible refine Kd.C_alloc ?_ _) | (with_reducible refine Kd.C_drewN ?_ _) | (with_reducible refine Kd.C_drew ?_)))
    (case side2 => exact HC0_1.out)
    (case side3 => repeat (first | exact (Kd.C_below HR0_2.out HB.out) | (with_reducible refine Kd.C_alloc ?_ _) | (with_reducible refine Kd.C_drewN ?_ _) | (with_reducible refine Kd.C_drew ?_)))
    (case side4 => exact HC0_2.out)
    (case side5 => repeat (first | exact (Kd.C_below HR0_3.out HB.out) | (with_reducible refine Kd.C_alloc ?_ _) | (with_reducible refine Kd.C_drewN ?_ _) | (with_reducible refine Kd.C_drew ?_)))
    (case side6 => exact HC0_3.out)
    (case side7 => repeat (first | exact (Kd.S_reads' HO433.out).2.2 | (with_reducible refine Kd.C_alloc ?_ _) | (with_reducible refine Kd.C_drewN ?_ _) | (with_reducible refine Kd.C_drew ?_)))
    (case side8 => exact (Kd.S_reads' HO433.out).2.1)
    (case side9 => repeat (first | exact (Kd.R_reads' HO436.out).2.2 | (with_reducible refine Kd.C_alloc ?_ _) | (with_reducible refine Kd.C_drewN ?_ _) | (with_reducible refine Kd.C_drew ?_)))
    (case side10 => exact (Kd.R_reads' HO436.out).2.1)
    (case side11 => repeat (first | exact (Kd.S_reads' HO439.out).2.2 | (with_reducible refine Kd.C_alloc ?_ _) | (with_reducible refine Kd.C_drewN ?_ _) | (with_reducible refine Kd.C_drew ?_)))
    (case side12 => exact (Kd.S_reads' HO439.out).2.1)
    rintro e w13 ⟨rfl, hb⟩
    refine ⟨_, rfl, ?_⟩
    have n0_ := Aside0.mk (Kd.S_below (by (with_reducible repeat (first | apply Kd.S_alloc | apply Kd.S_drewN | apply Kd.S_drew)); exact HO433.out) hb)
    have n1_ := Aside0.mk (Kd.R_below (by (with_reducible repeat (first | apply Kd.R_alloc | apply Kd.R_drewN | apply Kd.R_drew)); exact HO436.out) hb)
    have n2_ := Aside0.mk (Kd.S_below (by (with_reducible repeat (first | apply Kd.S_alloc | apply Kd.S_drewN | apply Kd.S_drew)); exact HO439.out) hb)
    have n3_ := Aside0.mk (blk_below (g := gb428) (o := .cells #[.int .i64 a0_0, .slice A0_1 l0_1.length c0_1, .slice A0_2 l0_2.length c0_2, .slice A0_3 l0_3.length c0_3] 50 (0, 0)) (by (with_reducible repeat (first | refine blk_drewN ?_ _ | refine blk_drew ?_ | refine blk_alloc ?_ _)); exact BK428.out) hb)
    have n4_ := Aside0.mk (below_step (by repeat (first | (with_reducible first | exact HB.out | apply below_alloc | apply pw_below_drewN | apply below_drew1 | refine below_set ?_ GE428.out) | exact HB.out)) hb)
    clear HO433
    clear HO436
    clear HO439
    clear BK428
    clear HB
    have HO433 := n0_
    have HO436 := n1_
    have HO439 := n2_
    have BK428 := n3_
    have HB := n4_
    clear n0_ n1_ n2_ n3_ n4_
    (try clear hb)
    (try clear hb2)
    (try clear hk)
    (try clear hi)
    refine hK.out _ _ ⟨(blk_cell BK428.out 0).trans rfl, (blk_cell BK428.out 1).trans rfl, (blk_cell BK428.out 2).trans rfl, (blk_cell BK428.out 3).trans rfl⟩ (fun hHeld => ?_)
    clear hK K
    refine norm_ (a' := ?_) ?_ ?_
    rotate_left
    · show Act.put _ (some 15) _ = _
      simp only [Act.put, List.setIfInBounds_toArray, List.set_cons_zero, List.set_cons_succ, i64_w, i32_w]
      rfl
    refine pure_ (i := 7) (N := some 2) (v := ?_) (a' := ?_) #[true, true, true, true, true, true, true, true] rfl rfl (any_of HT_.out (by kernel_rfl)) (fun _ _ _ h => h) (Or.inl ⟨by rfl, ?_⟩) ?_ ?_
    rotate_left
    · intro w'
      go_simp
      with_reducible rfl
    rotate_left
    · simp only [Act.put, List.setIfInBounds_toArray, List.set_cons_zero, List.set_cons_succ, i64_w, i32_w]
      rfl
    refine done_ (done_of HT_.out (by kernel_rfl)) ?_
    try go_wp2
    go_ret
    exact ⟨by first | rfl | (simp [errW_none, errW_some] <;> rfl) | (simp [*, errW_none, errW_some] <;> rfl), by repeat (first | (with_reducible first | exact HB.out | apply below_alloc | apply pw_below_drewN | apply below_drew1 | refine below_set ?_ GE428.out) | exact HB.out)⟩
  · replace c3 := Bool.eq_false_iff.mpr c3
    subst c3
    have H1 : (some false) = some r := by rw [if_neg (show ¬ (false = true) by decide)] at H; exact H
    clear H
    have H := H1
    clear H1
    obtain rfl := Option.some.inj H
    go_enter Try.func106, Try.ntmps106
    go_wp2_with (first | ((with_reducible refine gate_dst (N := 1) rfl ?_); refine box_event ?hg (N := 1) ?hd (cs := #[.int .i64 a0_0, .slice A0_1 l0_1.length c0_1, .slice A0_2 l0_2.length c0_2, .slice A0_3 l0_3.length c0_3]) (t := 50) ?hr ?_; (case hd => rfl); (case hg => rfl); (case hr => first | (go_simp; done) | (go_simp; rfl)); intro gb428 hg w14 hbox hb; have n0_ := Aside0.mk (below_step (by repeat (first | (with_reducible first | exact HB.out | apply below_alloc | apply pw_below_drewN | apply below_drew1) | exact HB.out)) hb); have n1_ := Aside0.mk (hbox); have n2_ := Aside0.mk ((by rw [hg]; exact (below_size (by repeat (first | (with_reducible first | exact HB.out | apply below_alloc | apply pw_below_drewN | apply below_drew1) | exact HB.out))) : w.heap.size ≤ gb428)); have n3_ := Aside0.mk ((by rw [hg]; exact (below_size (by repeat (first | (with_reducible first | exact HB.out | apply below_alloc | apply pw_below_drewN | apply below_drew1) | exact HB.out))) : w.heap.size ≤ gb428)); clear HB; have HB := n0_; have BK428 := n1_; have GW428 := n2_; have GE428 := n3_; clear n0_ n1_ n2_ n3_; clear hb hbox hg; have hcz15_0 : w14.cell? ⟨gb428, 0, none⟩ = some (.int .i64 a0_0) := (blk_cell BK428.out 0).trans rfl; have hcz15_1 : w14.cell? ⟨gb428, 1, none⟩ = some (.slice A0_1 l0_1.length c0_1) := (blk_cell BK428.out 1).trans rfl; have hcz15_2 : w14.cell? ⟨gb428, 2, none⟩ = some (.slice A0_2 l0_2.length c0_2) := (blk_cell BK428.out 2).trans rfl; have hcz15_3 : w14.cell? ⟨gb428, 3, none⟩ = some (.slice A0_3 l0_3.length c0_3) := (blk_cell BK428.out 3).trans rfl; have hfz15_0 := blk_frozen BK428.out 0; have hfz15_1 := blk_frozen BK428.out 1; have hfz15_2 := blk_frozen BK428.out 2; have hfz15_3 := blk_frozen BK428.out 3) | ((with_reducible refine gate_callee (f := 91) rfl ?_); refine goesL_ (some 7) rfl rfl Try.func91 (by kernel_rfl) rfl #[.int .i64 a0_0, .slice A0_1 l0_1.length c0_1] rfl (by (try simp only [List.map_toArray, List.map_cons, List.map_nil]); first | done | rfl | (simp only [List.length_drop, List.length_take]; rfl)) ?_; (with_reducible refine (spec_l4fits.calls k a0_0 _ _ l0_1 false _ ?side1 ?side2 A2.out).mono ?_); (case side1 => repeat (first | exact (Kd.C_below HR0_1.out HB.out) | (with_reducible refine Kd.C_alloc ?_ _) | (with_reducible refine Kd.C_drewN ?_ _) | (with_reducible refine Kd.C_drew ?_))); (case side2 => exact HC0_1.out); rintro e w' ⟨rfl, ⟨nd, rfl⟩⟩; refine ⟨_, rfl, ?_⟩))
    go_ret
    exact ⟨by first | rfl | (simp [errW_none, errW_some] <;> rfl) | (simp [*, errW_none, errW_some] <;> rfl), by repeat (first | (with_reducible first | exact HB.out | apply below_alloc | apply pw_below_drewN | apply below_drew1 | refine below_set ?_ GE428.out) | exact HB.out)⟩
end Go.Proofs.Ytmgmdnmfalepkaa.L
